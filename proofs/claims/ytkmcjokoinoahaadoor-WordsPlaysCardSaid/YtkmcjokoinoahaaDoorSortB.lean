/- slices.insertionSortOrdered at uint64: the library's own text computes 'insertionSort'. -/
import Derived.Test.YtkmcjokoinoahaaDoorSortA
set_option linter.unusedVariables false
set_option linter.unusedSimpArgs false
namespace Go.Proofs.YtkmcjokoinoahaaDoor.SortB
open Go.RowKit Go.Proofs.YtkmcjokoinoahaaDoor.Lib Go.Proofs.YtkmcjokoinoahaaDoor.SortA
open Go.Sort (swp insInner insOuter insertionSort size_swp)
/-- A call that leaves the world, behind draws. -/
theorem quiet_more {P : Program} {f : FuncId} {args : Array Value} {w : World} {a n : Nat} {v : Value} (h : Calls P f args (w.drewN (a + n)) fun e w' => e = .returned v ∧ w' = w.drewN (a + n)) :
    Calls P f args (w.drewN (a + n)) fun e w'' => e = .returned v ∧ ∃ m, w'' = w.drewN (a + m) := by
  refine h.mono ?_
  rintro e w' ⟨rfl, rfl⟩
  exact ⟨rfl, n, rfl⟩
theorem inner_go (a j : Nat) (d : Array Nat) (hj : a < j) (hl : ltN d[j]! d[j - 1]! = true) : insInner ltN a j d = insInner ltN a (j - 1) (swp d j (j - 1)) := by
  cases j with
  | zero => omega
  | succ k =>
    simp only [Nat.add_sub_cancel] at hl ⊢
    conv => lhs; unfold insInner
    simp [hj, hl]
theorem inner_stop (a j : Nat) (d : Array Nat) (h : j ≤ a ∨ ltN d[j]! d[j - 1]! = false) : insInner ltN a j d = d := by
  cases j with
  | zero => rfl
  | succ k =>
    conv => lhs; unfold insInner
    simp only [Nat.add_sub_cancel] at h
    rcases h with h | h
    · rw [if_neg (by simp; omega)]
    · rw [if_neg (by simp [h])]
theorem outer_go (a b i : Nat) (d : Array Nat) (h : i < b) : insOuter ltN a b i d = insOuter ltN a b (i + 1) (insInner ltN a i d) := by
  conv => lhs; unfold insOuter
  rw [if_pos h]
/-- The cells as a family. -/
theorem fam {w : World} {g off N : Nat} {d : Array Nat} (h : Arr w g off d N) : ∃ G : Nat → Nat, (∀ t, G t = d[t]!) ∧ (∀ t, t < d.size → w.cell? ⟨g, off + t, none⟩ = some (.int .u64 (G t : Int))) ∧ (∀ t, t < d.size → w.frozen? ⟨g, off + t, none⟩ = false) :=
  ⟨fun t => d[t]!, fun _ => rfl, fun t ht => h.cell ht, fun t _ => h.free _⟩
theorem swap_world {wr : World} {g off N : Nat} {d : Array Nat} {G : Nat → Nat} (hA : Arr wr g off d N) (hG : ∀ t, G t = d[t]!) {i j : Nat} (hi : i < d.size) (hj : j < d.size) (q : Nat) :
    Arr (((wr.drewN q).setCell ⟨g, off + i, none⟩ (.int .u64 (G j : Int))).setCell ⟨g, off + j, none⟩ (.int .u64 (G i : Int))) g off (swp d i j) N := by
  rw [hG, hG]
  exact (hA.drewN q).swap hi hj
theorem swap_grown {w wr : World} {g : Nat} (h : w.grownBy wr (some g)) (q o1 o2 : Nat) (v1 v2 : Value) : w.grownBy (((wr.drewN q).setCell ⟨g, o1, none⟩ v1).setCell ⟨g, o2, none⟩ v2) (some g) := grown_set (grown_set (grown_drewN h q) _ _) _ _
set_option maxHeartbeats 1000000 in
set_option maxRecDepth 100000 in
theorem Ins_calls (w : World) (g off cap a b N : Nat) (d : Array Nat) (hA : Arr w g off d N) (hab : a ≤ b) (hb : b ≤ d.size) (hsz : d.size < 4611686018427387904) :
    Calls Tryd.prog 100 #[.slice (some ⟨g, off, none⟩) d.size cap, .int .i64 (a : Int), .int .i64 (b : Int)] w fun e w' => e = .returned (.tuple #[]) ∧ Fact (Arr w' g off (insertionSort ltN d a b) N) ∧ Fact (w.grownBy w' (some g)) := by
  have HA := Fact.mk hA
  clear hA
  obtain ⟨n, hn⟩ : ∃ n, d.size = n := ⟨_, rfl⟩
  rw [hn] at hb hsz ⊢
  have HN := Fact.mk hn
  clear hn
  go_enter Tryd.func100, Tryd.ntmps100
  go_wp2
  go_loopg [6] (b - a) (fun kq vi wr => ∃ (i : Nat) (dk : Array Nat), vi = .int .i64 (i : Int) ∧ Fact (i + kq = b + 1) ∧ Fact (a < i) ∧ Fact (dk.size = n) ∧ Fact (Arr wr g off dk N) ∧ Fact (w.grownBy wr (some g)) ∧ Fact (insOuter ltN a b i dk = insOuter ltN a b (a + 1) d))
  case atStart => exact ⟨a + 1, d, by go_num, ⟨by omega⟩, ⟨by omega⟩, HN, HA, ⟨grown_refl _ _⟩, ⟨rfl⟩⟩
  case round =>
    obtain ⟨i, dk, rfl, HK, HAI, HSK, HAR, HGR, HO⟩ := hrel
    have hib : i ≤ b + 1 := by have := HK.out; omega
    have hai := HAI.out
    by_cases hlt : i < b
    · go_wp2
      go_loopg [7] i (fun kj vj w2 => ∃ (j : Nat) (dj : Array Nat), vj = .int .i64 (j : Int) ∧ Fact (j = kj) ∧ Fact (a ≤ j ∧ j ≤ i) ∧ Fact (dj.size = n) ∧ Fact (Arr w2 g off dj N) ∧ Fact (w.grownBy w2 (some g)) ∧ Fact (insInner ltN a j dj = insInner ltN a i dk))
      case atStart => exact ⟨i, dk, rfl, ⟨rfl⟩, ⟨by omega⟩, HSK, HAR, HGR, ⟨rfl⟩⟩
      case round =>
        obtain ⟨j, dj, rfl, HJ, HJB, HSJ, HAJ, HGJ, HI⟩ := hrel
        have hj1 := HJB.out
        go_wp2
        by_cases hja : a < j
        · obtain ⟨G, hG, hcw, hfw⟩ := fam HAJ.out
          rw [HSJ.out] at hcw hfw
          have HG := Fact.mk hG
          clear hG
          by_cases hl : ltN (G j) (G (j - 1)) = true
          · go_quiet ((go_at_call 106; refine Calls.quiet_of_same (Less_calls _ _ _)))
            go_wp2
            go_region
            all_goals go_wp2
            go_roundg (j - 1)
            case measure => have := HJ.out; omega
            case rel => exact ⟨j - 1, swp dj j (j - 1), by congr 1; omega, ⟨rfl⟩, ⟨by omega⟩, ⟨by rw [size_swp]; exact HSJ.out⟩, ⟨swap_world HAJ.out HG.out (by rw [HSJ.out]; omega) (by rw [HSJ.out]; omega) _⟩, ⟨swap_grown HGJ.out _ _ _ _ _⟩, ⟨by rw [← HI.out, inner_go a j dj hja (by rw [← HG.out, ← HG.out]; exact hl)]⟩⟩
          · have hl' : ltN (G j) (G (j - 1)) = false := by simpa using hl
            clear hl
            go_quiet ((go_at_call 106; refine Calls.quiet_of_same (Less_calls _ _ _)))
            go_wp2
            go_roundg (b - i)
            case measure => have := HK.out; omega
            case rel => exact ⟨i + 1, dj, by go_num, ⟨by have := HK.out; omega⟩, ⟨by omega⟩, HSJ, ⟨HAJ.out.drewN _⟩, ⟨grown_drewN HGJ.out _⟩, ⟨by rw [← HO.out, outer_go a b i dk hlt, ← HI.out, inner_stop a j dj (.inr (by rw [← HG.out, ← HG.out]; exact hl'))]⟩⟩
        · go_quiet ((go_at_call 106; refine Calls.quiet_of_same (Less_calls _ _ _)))
          go_wp2
          go_roundg (b - i)
          case measure => have := HK.out; omega
          case rel => exact ⟨i + 1, dj, by go_num, ⟨by have := HK.out; omega⟩, ⟨by omega⟩, HSJ, ⟨HAJ.out.drewN _⟩, ⟨grown_drewN HGJ.out _⟩, ⟨by rw [← HO.out, outer_go a b i dk hlt, ← HI.out, inner_stop a j dj (.inl (by omega))]⟩⟩
    · go_wp2
      go_end0
      exact ⟨rfl, ⟨by unfold insertionSort; rw [← HO.out]; unfold insOuter; rw [if_neg hlt]; exact HAR.out⟩, HGR⟩
end Go.Proofs.YtkmcjokoinoahaaDoor.SortB
