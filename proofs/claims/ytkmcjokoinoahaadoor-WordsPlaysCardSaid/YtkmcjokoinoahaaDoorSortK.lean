/- slices.Sorted over maps.Keys of a map[uint64]uint64: the keys, rising, in a slice of the call's own. -/
import Derived.Test.YtkmcjokoinoahaaDoorSortJ
import Derived.Test.YtkmcjokoinoahaaDoorKeysU
import Derived.RangeFuncBound
set_option linter.unusedVariables false
set_option linter.unusedSimpArgs false
namespace Go.Proofs.YtkmcjokoinoahaaDoor.SortK
open Go.RowKit Go.Proofs.YtkmcjokoinoahaaDoor.Lib Go.Proofs.YtkmcjokoinoahaaDoor.SortA Go.Proofs.YtkmcjokoinoahaaDoor.SortB Go.Proofs.YtkmcjokoinoahaaDoor.SortJ Go.Proofs.YtkmcjokoinoahaaDoor.KeysU
abbrev leN : Nat → Nat → Bool := fun x y => decide (x ≤ y)
theorem mergeSort_of_perm {l l' : List Nat} (h : l.Perm l') : l.mergeSort leN = l'.mergeSort leN := by
  have tr : ∀ a b c : Nat, leN a b = true → leN b c = true → leN a c = true := fun a b c h1 h2 => by simp only [leN, decide_eq_true_eq] at *; exact Nat.le_trans h1 h2
  have to : ∀ a b : Nat, (leN a b || leN b a) = true := fun a b => by simp only [leN, Bool.or_eq_true, decide_eq_true_eq]; exact Nat.le_total a b
  refine List.Perm.eq_of_pairwise (le := fun a b => leN a b = true) (fun a b _ _ h1 h2 => ?_) (List.pairwise_mergeSort tr to l) (List.pairwise_mergeSort tr to l') (((List.mergeSort_perm l leN).trans h).trans (List.mergeSort_perm l' leN).symm)
  simp only [leN, decide_eq_true_eq] at h1 h2
  exact Nat.le_antisymm h1 h2
/-- A slice of the call's own that holds numbers, from block B on. -/
def Nums (w : World) (B : Nat) (v : Value) (l : List Nat) : Prop :=
  v = .slice none 0 0 ∧ l = [] ∨ ∃ g cap, v = .slice (some ⟨g, 0, none⟩) l.length cap ∧ B ≤ g ∧ l.length ≤ cap ∧ cap ≤ 9223372036854775807 ∧ Arr w g 0 l.toArray cap
theorem Nums.move {w w' : World} {B : Nat} {v : Value} {l : List Nat} (h : Nums w B v l) (hb : Below w.heap.size w w') : Nums w' B v l := by
  rcases h with h | ⟨g, cap, hv, hB, hl, hm, ha⟩
  · exact .inl h
  · exact .inr ⟨g, cap, hv, hB, hl, hm, ha.move (hb.block _ ha.lt)⟩
theorem nums_of_row {w : World} {B : Nat} {v : Value} {l : List Nat} (h : w.ownsRow B U 1 v l.length (l.map encN)) : Nums w B v l := by
  rcases h.2 with ⟨h1, h2⟩ | ⟨g, cap, cur, h1, h2, h3, h4, h5, h6, h7⟩
  · exact .inl ⟨h1, List.eq_nil_of_length_eq_zero h2⟩
  · refine .inr ⟨g, cap, h1, h2, h4, by unfold maxLen at h5; omega, cur, h3, by omega, by simpa using h4, fun j hj => ?_⟩
    have hj' : j < l.length := by simpa using hj
    have h8 : (cur.toList.take (l.length * 1))[j]? = (l.map encN)[j]? := by rw [h7]
    rw [List.getElem?_take_of_lt (by omega)] at h8
    rw [Nat.zero_add, ← Array.getElem?_toList, h8, List.getElem?_map, List.getElem?_eq_getElem hj']
    simp [vn, hj']
theorem Nums.cell {w : World} {B : Nat} {l : List Nat} {A : Option Addr} {n c : Nat} (h : Nums w B (.slice A n c) l) {i x : Nat} (hi : l[i]? = some x) : ∃ g, A = some ⟨g, 0, none⟩ ∧ B ≤ g ∧ n = l.length ∧ w.cell? ⟨g, i, none⟩ = some (.int .u64 (x : Int)) := by
  have hl : i < l.length := (List.getElem?_eq_some_iff.1 hi).1
  rcases h with ⟨h1, h2⟩ | ⟨g, cap, hv, hB, -, -, ha⟩
  · rw [h2] at hl; simp at hl
  · injection hv with e1 e2 e3
    refine ⟨g, e1, hB, e2, ?_⟩
    have := ha.cell (j := i) (by simpa using hl)
    rw [Nat.zero_add] at this
    rw [this]
    have e : l.toArray[i]! = x := by
      rw [List.getElem?_eq_getElem hl] at hi
      simp [hl]
      exact Option.some.inj hi
    rw [e]
    rfl
set_option maxHeartbeats 1000000 in
set_option maxRecDepth 100000 in
theorem Sorted_calls (w : World) (Bm b nn : Nat) (D0 : DataW Unit) (hBm : Bm < w.heap.size) (hm : w.cell? ⟨Bm, 0, none⟩ = some (.map (some b))) (hown : w.ownsMap Tryd.prog U (plainElem Tryd.prog U) b nn D0) (hN : Maps.size D0 ≤ 4294967296) :
    Calls Tryd.prog 74 #[.func (.func 89) #[] #[.pointer (some ⟨Bm, 0, none⟩)]] w fun e w' => (∃ v, e = .returned v ∧ Fact (Nums w' w.heap.size v ((natKeys D0).mergeSort leN))) ∧ Below w.heap.size w w' := by
  have HC := Fact.mk ((callsIn_wide (n := 9)).1 (collect_in Fence.wide 9 trivial trivial rfl (by omega) 89 #[.pointer (some ⟨Bm, 0, none⟩)] trivial (enters_of Tryd.func89 (by kernel_rfl) rfl) _ (Maps.size D0) (by unfold maxLen; omega) (by omega) w (SeqGives.bounded (keys_gives Fence.wide 7 trivial rfl (by omega) Bm b nn D0 w hBm hm hown))))
  clear hm hown
  go_enter Tryd.func74, Tryd.ntmps74
  go_wp2_with (go_at_call 87; refine HC.out.mono ?_; rintro e W ⟨v, ss, rfl, ⟨hp, hlen⟩, hrow, hnil, hb⟩)
  have HB := Fact.mk hb
  have hs := mergeSort_of_perm hp
  have HSM := Fact.mk hs
  rcases nums_of_row hrow with ⟨rfl, rfl⟩ | ⟨g, cap, rfl, hB, hl, hm, ha⟩
  · clear hrow hnil hb hp hs
    go_wp2_with (go_at_call 88; refine (Sort_nil W none 0).mono ?_; rintro e w' ⟨rfl, rfl⟩)
    go_ret
    exact ⟨⟨_, rfl, ⟨.inl ⟨rfl, by rw [← HSM.out]; simp⟩⟩⟩, HB.out⟩
  · have HS := Fact.mk (Sort_calls W g 0 ss.length cap cap ss.toArray ha (by simp) (by omega))
    have HX := Fact.mk (And.intro hB (And.intro hl hm))
    clear hrow hnil hb hp hs ha hB hl hm
    go_wp2_with (go_at_call 88; refine HS.out.mono ?_; rintro e w' ⟨rfl, hat⟩)
    have HAT := Fact.mk hat
    clear hat
    go_ret
    have hlen2 : (ss.mergeSort leN).length = ss.length := (List.mergeSort_perm ss leN).length_eq
    rw [← HSM.out]
    refine ⟨⟨_, rfl, ⟨.inr ⟨g, cap, by rw [hlen2]; rfl, HX.out.1, by rw [hlen2]; exact HX.out.2.1, HX.out.2.2, ?_⟩⟩⟩, HB.out.grown HAT.out.2 HB.out.size (fun k e => by cases e; exact HX.out.1)⟩
    have := HAT.out.1
    rw [show Go.Sort.sort ltN ss.toArray = (ss.mergeSort leN).toArray by rw [← sortN ss]] at this
    exact this
end Go.Proofs.YtkmcjokoinoahaaDoor.SortK
