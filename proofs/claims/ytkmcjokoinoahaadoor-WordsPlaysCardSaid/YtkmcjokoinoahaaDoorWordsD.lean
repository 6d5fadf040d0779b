/- words.All: the numbers of a map of words, rising, in a slice of the call's own. -/
import Derived.Test.YtkmcjokoinoahaaDoorWordsC
import Derived.Test.YtkmcjokoinoahaaDoorSortK
set_option linter.unusedVariables false
set_option linter.unusedSimpArgs false
namespace Go.Proofs.YtkmcjokoinoahaaDoor.WordsD
open Go.RowKit Go.Proofs.YtkmcjokoinoahaaDoor.Lib Go.Proofs.YtkmcjokoinoahaaDoor.LibB Go.Proofs.YtkmcjokoinoahaaDoor.PlainS Go.Proofs.YtkmcjokoinoahaaDoor.WordsA Go.Proofs.YtkmcjokoinoahaaDoor.PlainW Go.Proofs.YtkmcjokoinoahaaDoor.WordsC Go.Proofs.YtkmcjokoinoahaaDoor.SortK Go.Maps
open Go.Proofs.YtkmcjokoinoahaaDoor.KeysU (natKeys natOf keys_in natKeys_lt perm_natKeys)
def rNat : Rep Nat := Rep.flat (fun n => .int .u64 (n : Int)) (fun _ => rfl)
theorem info_u64 : (Tryd.prog.info? 50).map (fun i => (i.zero, i.size, i.bytes)) = some (some (.int .u64 0), 1, 8) := by kernel_rfl
theorem els_nat (w : World) (F : Nat → Prop) (n : Nat) : Els rNat w F [n] (#[Value.int .u64 (n : Int)] : Array Value).toList := Els.one_ (r := rNat) (show rNat.K w F n [Value.int .u64 (n : Int)] from rfl)
/-- What the keys are, by the map that lies. -/
theorem Ws.keys {w : World} {pb mb N : Nat} {D : DataW Unit} (h : Ws w pb mb N D) : (natKeys D).Nodup ∧ (∀ x ∈ natKeys D, x < 18446744073709551616) ∧ (∀ k : Nat, k < 18446744073709551616 → (k ∈ natKeys D ↔ has D (.int .u64 (k : Int)) = true)) ∧ (natKeys D).length = Maps.size D := by
  have hl := natKeys_lt h.own Tryd.underlying50
  obtain ⟨es, hD, hpw, _⟩ := h.own.entries law
  obtain ⟨es', hD', hko⟩ := h.own.keysOf
  obtain rfl : es = es' := by rw [hD] at hD'; simpa using hD'
  subst hD
  have hk : ∀ p ∈ es, ∃ x : Nat, p.1 = .int .u64 (x : Int) := fun p hp => by
    obtain ⟨v, hv⟩ := hko p hp
    obtain ⟨x, _, hx, _⟩ := KeysU.keyOf_u64 Tryd.underlying50 hv
    exact ⟨x, hx⟩
  refine ⟨?_, hl, ?_, by simp [natKeys, Maps.size]⟩
  · show (es.map fun p => natOf p.1).Nodup
    refine List.pairwise_map.2 (hpw.imp_of_mem fun {p q} hp' hq' hne e => hne ?_)
    obtain ⟨a, ha⟩ := hk p hp'
    obtain ⟨b, hb⟩ := hk q hq'
    rw [ha, hb] at e ⊢
    have : a = b := by simpa [natOf] using e
    rw [this]
  · intro k _
    rw [has_eq, List.any_eq_true]
    show k ∈ (es.map fun p => natOf p.1) ↔ _
    rw [List.mem_map]
    constructor
    · rintro ⟨p, hp', rfl⟩
      obtain ⟨a, ha⟩ := hk p hp'
      exact ⟨p, hp', by rw [ha]; simp [Lit.sameKey, natOf]⟩
    · rintro ⟨p, hp', hs⟩
      obtain ⟨a, ha⟩ := hk p hp'
      rw [ha] at hs
      have hax : a = k := by
        have : ((a : Int)) = (k : Int) := by simpa [Lit.sameKey] using hs
        omega
      exact ⟨p, hp', by rw [ha, hax]; simp [natOf]⟩
theorem keysL_sorted {D : DataW Unit} (h : (natKeys D).Nodup) : (keysL D).Pairwise (· < ·) := by
  have tr : ∀ a b c : Nat, PlainW.leN a b = true → PlainW.leN b c = true → PlainW.leN a c = true := fun a b c h1 h2 => by simp only [PlainW.leN, decide_eq_true_eq] at *; exact Nat.le_trans h1 h2
  have to : ∀ a b : Nat, (PlainW.leN a b || PlainW.leN b a) = true := fun a b => by simp only [PlainW.leN, Bool.or_eq_true, decide_eq_true_eq]; exact Nat.le_total a b
  have h1 := List.pairwise_mergeSort tr to (natKeys D)
  have h2 : (keysL D).Nodup := (List.mergeSort_perm (natKeys D) PlainW.leN).nodup_iff.2 h
  refine (h1.and h2).imp (fun {a b} hab => ?_)
  have := hab.1
  simp only [PlainW.leN, decide_eq_true_eq] at this
  have := hab.2
  omega
theorem keysL_len (D : DataW Unit) : (keysL D).length = (natKeys D).length := (List.mergeSort_perm _ _).length_eq
theorem allK_snoc (D : DataW Unit) {ks : List Nat} {i k : Nat} (h : ks[i]? = some k) : allK D (ks.take (i + 1)) = allK D (ks.take i) ++ numsOf k (wd D k) := by
  obtain ⟨hk, he⟩ := List.getElem?_eq_some_iff.1 h
  rw [List.take_succ_eq_append_getElem hk, he]
  unfold allK
  rw [List.flatMap_append]
  simp
theorem bitsL_len (x : Nat) : (bitsL x).length ≤ 64 := by
  have := sorted_len (a := 0) (M := 64) (bitsL_sorted x) (fun b hb => ⟨Nat.zero_le _, (mem_bitsL.1 hb).1⟩)
  omega
theorem allK_len (D : DataW Unit) : ∀ ks : List Nat, (allK D ks).length ≤ 64 * ks.length
  | [] => by simp [allK]
  | k :: r => by
    show (numsOf k (wd D k) ++ allK D r).length ≤ _
    have h1 := allK_len D r
    have h2 := bitsL_len (wd D k)
    rw [List.length_append, List.length_cons]
    unfold numsOf
    rw [List.length_map]
    omega
theorem nums_slice {w : World} {B : Nat} {v : Value} {l : List Nat} (h : Nums w B v l) : ∃ A c, v = .slice A l.length c ∧ ∀ i x : Nat, l[i]? = some x → ∃ g, A = some ⟨g, 0, none⟩ ∧ g < w.heap.size ∧ w.cell? ⟨g, i, none⟩ = some (.int .u64 (x : Int)) := by
  rcases h with ⟨rfl, rfl⟩ | ⟨g, cap, rfl, hB, hl, hm, ha⟩
  · exact ⟨none, 0, rfl, fun i x hx => by simp at hx⟩
  · refine ⟨some ⟨g, 0, none⟩, cap, rfl, fun i x hx => ?_⟩
    obtain ⟨g', e, -, -, hc⟩ := Nums.cell (w := w) (B := B) (l := l) (.inr ⟨g, cap, rfl, hB, hl, hm, ha⟩) hx
    injection e with e
    injection e with e
    subst e
    exact ⟨g, rfl, ha.lt, hc⟩
set_option maxHeartbeats 4000000 in
set_option maxRecDepth 100000 in
theorem All_calls (w : World) (pb mb N : Nat) (D : DataW Unit) (h : Ws w pb mb N D) (hi : WInv D) (hg : LaidB w) (hg2 : 2 < w.heap.size) (hN : Maps.size D ≤ 1000) :
    Calls Tryd.prog 48 #[.pointer (some ⟨pb, 0, none⟩)] w fun e w' => (∃ A c, e = .returned (.slice A (allL D).length c) ∧ Fact (Sl rNat w' (fun k => w.heap.size ≤ k ∧ k < w'.heap.size) A (allL D).length c (allL D))) ∧ Below w.heap.size w w' := by
  have HW := Fact.mk h
  have HI := Fact.mk hi
  have HG := Fact.mk hg
  have HG2 := Fact.mk hg2
  have hc := h.cell
  obtain ⟨hk1, hk2, hk3, hk4⟩ := Ws.keys h
  have hkl := keysL_len D
  have HKN := Fact.mk (show (keysL D).length ≤ 1000 by omega)
  have HKK := Fact.mk (show ∀ k ∈ keysL D, k < 288230376151711744 ∧ wd D k ≠ 0 from fun k hk => hi.key hk2 hk hk3)
  have HKeys := Fact.mk (fun w => (callsIn_wide (n := 3)).1 (keys_in Fence.wide 3 trivial rfl (some mb) w))
  have HW1 : Fact (Ws (w.alloc (.cells #[.map (some mb)] M)) pb mb N D) := ⟨h.move (Below.heap_alloc _ _ _ h.lt.1) (Below.heap_alloc _ _ _ h.lt.2)⟩
  have HB1 : Fact (Below w.heap.size w (w.alloc (.cells #[.map (some mb)] M))) := ⟨(Below.refl _ _).alloc (Nat.le_refl _) _⟩
  have HSo := Fact.mk (Sorted_calls (w.alloc (.cells #[.map (some mb)] M)) w.heap.size mb N D (by simp) (by rw [World.cell?_alloc_at _ _ _ _ rfl]; rfl) HW1.out.own (by omega))
  clear h hi hg hk1 hk2 hk3 hk4 hkl
  go_enter Tryd.func48, Tryd.ntmps48
  go_wp2_with (first
    | (go_at_call 75; refine (HKeys.out _).mono ?_; rintro e w' ⟨rfl, rfl⟩)
    | (go_at_call 74; fail))
  refine HSo.out.mono ?_
  rintro e w2 ⟨⟨v2, rfl, hn2⟩, hb2⟩
  obtain ⟨A2, c2, rfl, hcell2⟩ := nums_slice hn2.out
  have hkeq : (natKeys D).mergeSort SortK.leN = keysL D := rfl
  rw [hkeq] at hcell2 ⊢
  obtain ⟨L, hL⟩ : ∃ L, (keysL D).length = L := ⟨_, rfl⟩
  rw [hL]
  have HLL := Fact.mk hL
  have hL1 : L ≤ 1000 := by rw [← hL]; exact HKN.out
  have HC2 := Fact.mk hcell2
  have HB2 : Fact (Below w.heap.size w w2) := ⟨HB1.out.trans (hb2.mono HB1.out.size)⟩
  have HW2 : Fact (Ws w2 pb mb N D) := ⟨HW1.out.move (hb2.block _ HW1.out.lt.1) (hb2.block _ HW1.out.lt.2)⟩
  have HG3 : Fact (LaidB w2) := ⟨HG.out.below HB2.out HG2.out⟩
  have HLT2 : Fact (2 < w2.heap.size) := ⟨Nat.lt_of_lt_of_le HG2.out HB2.out.size⟩
  clear hn2 hb2 hcell2 hkeq hL HSo HW1 HB1 HKeys
  go_wp2_with fail
  go_loopg [3, 16] L (fun kq v i wr => ∃ k : Nat, i = .int .i64 (k : Int) ∧ Fact (k + kq = L) ∧ Fact (Ow rNat 50 wr w2.heap.size (fun _ => False) v (allK D ((keysL D).take k))) ∧ Fact (Below w2.heap.size w2 wr))
  case atStart => exact ⟨0, rfl, ⟨by omega⟩, ⟨Ow.nil _ _ _ _ _⟩, ⟨Below.refl _ _⟩⟩
  case round =>
    obtain ⟨k, rfl, HK, HO, HB⟩ := hrel
    have hkL := HK.out
    by_cases hlt : k < L
    · obtain ⟨x, hx⟩ : ∃ x, (keysL D)[k]? = some x := ⟨_, List.getElem?_eq_getElem (by rw [HLL.out]; exact hlt)⟩
      obtain ⟨g, rfl, hgl, hcg⟩ := HC2.out k x hx
      have hcx : wr.cell? ⟨g, k, none⟩ = some (.int .u64 (x : Int)) := (HB.out.cell (p := ⟨g, k, none⟩) hgl).trans hcg
      obtain ⟨hxs, hxn⟩ := HKK.out x (List.mem_of_getElem? hx)
      have HSN := Fact.mk (allK_snoc D hx)
      have HWR : Fact (Ws wr pb mb N D) := ⟨HW2.out.move (HB.out.block _ HW2.out.lt.1) (HB.out.block _ HW2.out.lt.2)⟩
      have hcp := HWR.out.cell
      obtain ⟨hlook, hxl, -⟩ := HWR.out.look (k := x) (by omega)
      obtain ⟨X, hX⟩ : ∃ X, wd D x = X := ⟨_, rfl⟩
      rw [hX] at hlook hxl hxn HSN
      have HXX := Fact.mk hX
      have hap : (⟨g, 0, none⟩ : Addr).add k = ⟨g, k, none⟩ := add_plain' _ _
      have HTOP : Fact (x = 288230376151711743 → X.testBit 63 = false) := ⟨fun e => by rw [← hX, e]; exact HI.out.top⟩
      clear hX hx hgl hcg
      go_wp2_with fail
      go_loopg [3, 6] ((bitsL X).length) (fun kj v y6 wi => ∃ (y : Nat) (dn : List Nat), y6 = .int .u64 (y : Int) ∧ Fact (y < 18446744073709551616) ∧ Fact ((bitsL y).length = kj) ∧ Fact (numsOf x X = dn ++ numsOf x y) ∧ Fact (Ow rNat 50 wi w2.heap.size (fun _ => False) v (allK D ((keysL D).take k) ++ dn)) ∧ Fact (Below w2.heap.size w2 wi))
      case atStart => exact ⟨X, [], rfl, ⟨hxl⟩, ⟨rfl⟩, ⟨rfl⟩, ⟨by rw [List.append_nil]; exact HO.out⟩, HB⟩
      case round =>
        obtain ⟨y, dn, rfl, HY, HYL, HDN, HO2, HBi⟩ := hrel
        clear hlook hcp hcx HO HB
        by_cases hy0 : y = 0
        · subst hy0
          have hz : ((0 : Int) == 0) = true := rfl
          have HE : Fact (allK D ((keysL D).take k) ++ dn = allK D ((keysL D).take (k + 1))) := ⟨by
            rw [HSN.out, HDN.out]
            unfold numsOf
            rw [bitsL_zero]
            simp⟩
          rw [HE.out] at HO2
          go_wp2_with fail
          go_roundg (L - (k + 1))
          case measure => omega
          case rel => exact ⟨k + 1, by go_num, ⟨by omega⟩, HO2, HBi⟩
        · obtain ⟨b, m, hbm⟩ := low_ex y hy0
          have hyl := HY.out
          have hb64 := low_lt hbm hyl
          have hz : ((y : Int) == 0) = false := by simp; omega
          have hpre := bitsL_low hbm hyl
          obtain ⟨y2, hy2⟩ : ∃ y2, 2 ^ b * (2 * m) = y2 := ⟨_, rfl⟩
          have hand := and_pred hbm
          rw [hy2] at hpre hand
          have hy2l : y2 < 18446744073709551616 := by
            have : y &&& (y - 1) ≤ y := Nat.and_le_left
            omega
          obtain ⟨A3, cA, hv3, -⟩ := HO2.out.sl
          obtain ⟨q, hq⟩ : ∃ q, (allK D ((keysL D).take k) ++ dn).length = q := ⟨_, rfl⟩
          rw [hq] at hv3
          subst hv3
          have hq2 : q ≤ 200000 := by
            have h1 := allK_len D ((keysL D).take (k + 1))
            have h2 := congrArg List.length HSN.out
            have h3 := congrArg List.length HDN.out
            rw [List.length_append] at h2 h3 hq
            have h4 : ((keysL D).take (k + 1)).length ≤ 1000 := by rw [List.length_take]; omega
            omega
          have hbX : b < 64 ∧ X.testBit b = true := by
            have h1 : 64 * x + b + 1 ∈ numsOf x X := by
              rw [HDN.out]
              exact List.mem_append.2 (.inr (by unfold numsOf; rw [hpre]; simp))
            obtain ⟨b', h2, h3, h4⟩ := mem_numsOf.1 h1
            have : b' = b := by omega
            subst this
            exact ⟨h2, h3⟩
          have hnt : 64 * x + b + 1 < 18446744073709551616 := by
            rcases Nat.lt_or_ge x 288230376151711743 with h1 | h1
            · omega
            · have h2 := HTOP.out (by omega)
              have : b ≠ 63 := by intro e; rw [e, h2] at hbX; exact absurd hbX.2 (by decide)
              omega
          obtain ⟨m1, hm1⟩ : ∃ m1, 64 * x = m1 := ⟨_, rfl⟩
          obtain ⟨m2, hm2⟩ : ∃ m2, m1 + b = m2 := ⟨_, rfl⟩
          obtain ⟨m3, hm3⟩ : ∃ m3, m2 + 1 = m3 := ⟨_, rfl⟩
          have e1 : IntKind.u64.wrap (64 * (x : Int)) = (m1 : Int) := by rw [IntKind.wrap_u64]; omega
          have e2 : IntKind.u64.wrap (b : Int) = (b : Int) := by rw [IntKind.wrap_u64]; omega
          have e3 : IntKind.u64.wrap ((m1 : Int) + (b : Int)) = (m2 : Int) := by rw [IntKind.wrap_u64]; omega
          have e4 : IntKind.u64.wrap ((m2 : Int) + 1) = (m3 : Int) := by rw [IntKind.wrap_u64]; omega
          have e5 : 64 * (x : Int) = (m1 : Int) := by omega
          have e6 : (m1 : Int) + (b : Int) = (m2 : Int) := by omega
          have e7 : (m2 : Int) + 1 = (m3 : Int) := by omega
          have e11 : IntKind.u64.wrap (m1 : Int) = (m1 : Int) := by rw [IntKind.wrap_u64]; omega
          have e12 : IntKind.u64.wrap (m2 : Int) = (m2 : Int) := by rw [IntKind.wrap_u64]; omega
          have e13 : IntKind.u64.wrap (m3 : Int) = (m3 : Int) := by rw [IntKind.wrap_u64]; omega
          have e8 : IntKind.u64.wrap ((y : Int) - 1) = ((y - 1 : Nat) : Int) := by rw [IntKind.wrap_u64]; omega
          have e9 : ((y : Int) - 1) = ((y - 1 : Nat) : Int) := by omega
          obtain ⟨y1, hy1⟩ : ∃ y1, y - 1 = y1 := ⟨_, rfl⟩
          rw [hy1] at e8 e9 hand
          have e14 : IntKind.u64.wrap (y1 : Int) = (y1 : Int) := by rw [IntKind.wrap_u64]; omega
          have e10 : bits .and .u64 (y : Int) (y1 : Int) = (y2 : Int) := by rw [bits_and_u64_nat _ _ hyl (by omega), hand]
          have HNX : Fact (numsOf x X = (dn ++ [m3]) ++ numsOf x y2) := ⟨by
            rw [HDN.out]
            unfold numsOf
            rw [hpre, ← hm3, ← hm2, ← hm1]
            simp⟩
          have HYL2 : Fact ((bitsL y2).length + 1 = gk) := ⟨by rw [← HYL.out, hpre]; simp⟩
          have HGi : Fact (LaidB wr) := ⟨HG3.out.below HBi.out HLT2.out⟩
          have HTZ := Fact.mk (TZ_calls wr HGi.out y b m hbm hyl)
          have HSB : Fact (Sl rNat (wr.alloc (.cells #[.int .u64 (m3 : Int)] 50)) (fun k => k = wr.heap.size) (some ⟨wr.heap.size, 0, none⟩) 1 1 [m3]) := ⟨by
            have h1 := (Sl.box (F := fun _ => False) wr 50 (els_nat _ _ m3) (by simp)).mono (F' := fun k => k = wr.heap.size) (fun k hk => by simpa using hk)
            simpa using h1⟩
          have HQ : Fact ((allK D ((keysL D).take k) ++ dn).length ≤ 200000) := ⟨by rw [hq]; exact hq2⟩
          have hz2 : ((y : Int) != 0) = true := by simp; omega
          clear hq hq2 hpre hand hy2 hy1 hm1 hm2 hm3 hbX hnt hbm
          go_wp2_with (first
            | (go_at_call 76; refine HTZ.out.mono ?_; rintro e w9 ⟨rfl, hw9⟩; obtain rfl : wr = w9 := hw9.symm)
            | (at_builtin
               refine wpList_app rNat (w0 := w2) w2.heap.size rfl (.tmp 32) (.tmp 40) 61 50 (.int .u64 0) 8 rfl Tryd.underlying61 info_u64 rfl (by decide) (by decide) (fun _ => False) (fun k => k = wr.heap.size) (.slice A3 q cA) (allK D ((keysL D).take k) ++ dn) [m3] _ 1 1 rfl rfl (HO2.out.below ((Below.refl _ _).alloc (Nat.le_refl _) _) (fun _ h => h.elim)) HSB.out (HBi.out.alloc HBi.out.size _) (by have := HBi.out.size; simp at this ⊢; omega) (by have := HQ.out; omega) (fun _ h => h.elim) (fun _ _ h => h) ?_
               intro v3 w3 ho3 hb3 hg3 hat3
               have HO3 := Fact.mk ho3
               have HB3 := Fact.mk hb3
               clear ho3 hb3 hg3 hat3))
          go_roundg ((bitsL y2).length)
          case measure => have := HYL2.out; omega
          case rel => exact ⟨y2, dn ++ [m3], rfl, ⟨hy2l⟩, ⟨rfl⟩, HNX, ⟨by rw [← List.append_assoc]; exact HO3.out⟩, HB3⟩
    · obtain rfl : k = L := by omega
      have HTF : Fact (allK D ((keysL D).take k) = allL D) := ⟨by rw [List.take_of_length_le (by rw [HLL.out]; exact Nat.le_refl _)]; rfl⟩
      obtain ⟨A1, cA, hv, hs1⟩ := HO.out.sl
      subst hv
      have ho := HO.out
      rw [HTF.out] at ho hs1
      have HS := Fact.mk (ow_slF ho)
      rw [HTF.out]
      clear ho hs1
      go_wp2_with fail
      go_ret
      have HBE : Fact (Below w.heap.size w wr) := ⟨HB2.out.trans (HB.out.mono HB2.out.size)⟩
      exact ⟨⟨A1, cA, rfl, ⟨HS.out.mono (fun k hk => ⟨Nat.le_trans HB2.out.size hk.1, hk.2⟩)⟩⟩, HBE.out⟩
end Go.Proofs.YtkmcjokoinoahaaDoor.WordsD
