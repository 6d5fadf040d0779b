/- slices.choosePivotOrdered at uint64 and its three: the library's own text computes 'choosePivot'. -/
import Derived.Test.YtkmcjokoinoahaaDoorSortG
import Derived.Sort.LotD3
import Derived.Deep.RegionWith
set_option linter.unusedVariables false
set_option linter.unusedSimpArgs false
namespace Go.Proofs.YtkmcjokoinoahaaDoor.SortH
open Go.RowKit Go.Proofs.YtkmcjokoinoahaaDoor.Lib Go.Proofs.YtkmcjokoinoahaaDoor.SortA Go.Proofs.YtkmcjokoinoahaaDoor.SortB Go.Proofs.YtkmcjokoinoahaaDoor.SortC Go.Proofs.YtkmcjokoinoahaaDoor.SortE
open Go.Sort (swp size_swp order2 median medianAdjacent choosePivot Hint)
/-- The counter in a block of its own. -/
def P1 (w : World) (sb s : Nat) : Prop := w.heap[sb]? = some (.cells #[.int .i64 (s : Int)] 3 (0, 0))
theorem P1.cell {w : World} {sb s : Nat} (h : P1 w sb s) : w.cell? ⟨sb, 0, none⟩ = some (.int .i64 (s : Int)) := rowc h rfl
theorem P1.free {w : World} {sb s : Nat} (h : P1 w sb s) : w.frozen? ⟨sb, 0, none⟩ = false := frozen_of_row w sb 0 _ _ h
theorem P1.set {w : World} {sb s : Nat} (h : P1 w sb s) (t : Nat) : P1 (w.setCell ⟨sb, 0, none⟩ (.int .i64 (t : Int))) sb t := by
  have := heap_setCell_same w sb 0 _ _ (.int .i64 (t : Int)) h
  exact this
theorem P1.drewN {w : World} {sb s : Nat} (h : P1 w sb s) (q : Nat) : P1 (w.drewN q) sb s := h
theorem arr_grown {w w' : World} {g off N sb : Nat} {d : Array Nat} (h : Arr w g off d N) (k : w.grownBy w' (some sb)) (hne : sb ≠ g) : Arr w' g off d N :=
  h.move (k.block g h.lt (by intro e; exact hne (Option.some.inj e).symm))
theorem Less_is {x y : Nat} {b : Bool} (h : ltN x y = b) (w : World) : Calls Tryd.prog 106 #[.int .u64 (x : Int), .int .u64 (y : Int)] w fun e w' => e = .returned (.bool b) ∧ w' = w := by
  have := Less_calls w x y
  rw [h] at this
  exact this
set_option maxHeartbeats 1000000 in
set_option maxRecDepth 100000 in
theorem Ord2_calls (w : World) (g off n cap a b N sb s : Nat) (d : Array Nat) (hA : Arr w g off d N) (hn : d.size = n) (ha : a < n) (hb : b < n) (hS : P1 w sb s) (hs : s < 4611686018427387904) :
    Calls Tryd.prog 118 #[.slice (some ⟨g, off, none⟩) n cap, .int .i64 (a : Int), .int .i64 (b : Int), .pointer (some ⟨sb, 0, none⟩)] w fun e w' => e = .returned (.tuple #[.int .i64 ((order2 ltN d a b s).1 : Int), .int .i64 ((order2 ltN d a b s).2.1 : Int)]) ∧ Fact (P1 w' sb (order2 ltN d a b s).2.2) ∧ Fact (w.grownBy w' (some sb)) := by
  have HA := Fact.mk hA
  have HS := Fact.mk hS
  have cs := hS.cell
  have fs := hS.free
  clear hA hS
  obtain ⟨G, hG, hcw, hfw⟩ := fam HA.out
  rw [hn] at hcw hfw
  have HG := Fact.mk hG
  clear hG hn
  by_cases hl : ltN (G b) (G a) = true
  · have e2 : order2 ltN d a b s = (b, a, s + 1) := by unfold order2; rw [← HG.out, ← HG.out, hl]; rfl
    rw [e2]
    clear e2
    go_enter Tryd.func118, Tryd.ntmps118
    go_wp2
    go_quiet ((go_at_call 106; refine Calls.quiet_of_same (Less_is hl _)))
    go_wp2
    go_ret2
    exact ⟨rfl, ⟨by have := (HS.out.drewN nq).set (s + 1); simpa using this⟩, ⟨grown_set (grown_drewN (grown_refl _ _) _) _ _⟩⟩
  · have hl' : ltN (G b) (G a) = false := by simpa using hl
    clear hl
    have e2 : order2 ltN d a b s = (a, b, s) := by unfold order2; rw [← HG.out, ← HG.out, hl']; rfl
    rw [e2]
    clear e2
    go_enter Tryd.func118, Tryd.ntmps118
    go_wp2
    go_quiet ((go_at_call 106; refine Calls.quiet_of_same (Less_is hl' _)))
    go_wp2
    go_ret2
    exact ⟨rfl, ⟨HS.out.drewN _⟩, ⟨grown_drewN (grown_refl _ _) _⟩⟩
theorem order2_lt (d : Array Nat) {a b n : Nat} (s : Nat) (ha : a < n) (hb : b < n) : (order2 ltN d a b s).1 < n ∧ (order2 ltN d a b s).2.1 < n := by
  unfold order2
  split
  · exact ⟨hb, ha⟩
  · exact ⟨ha, hb⟩
theorem order2_swaps (d : Array Nat) (a b s : Nat) : (order2 ltN d a b s).2.2 ≤ s + 1 := by
  unfold order2
  split <;> simp
set_option maxHeartbeats 1000000 in
set_option maxRecDepth 100000 in
theorem Med_calls (w : World) (g off n cap a b c N sb s : Nat) (d : Array Nat) (hA : Arr w g off d N) (hn : d.size = n) (ha : a < n) (hb : b < n) (hc : c < n) (hne : sb ≠ g) (hS : P1 w sb s) (hs : s < 1000) :
    Calls Tryd.prog 116 #[.slice (some ⟨g, off, none⟩) n cap, .int .i64 (a : Int), .int .i64 (b : Int), .int .i64 (c : Int), .pointer (some ⟨sb, 0, none⟩)] w fun e w' => e = .returned (.int .i64 ((median ltN d a b c s).1 : Int)) ∧ Fact (P1 w' sb (median ltN d a b c s).2) ∧ Fact (w.grownBy w' (some sb)) := by
  have HA := Fact.mk hA
  have HS := Fact.mk hS
  have HN := Fact.mk hn
  have HNE := Fact.mk hne
  clear hA hS hn hne
  obtain ⟨a1, b1, s1, e1⟩ : ∃ a1 b1 s1, order2 ltN d a b s = (a1, b1, s1) := ⟨_, _, _, rfl⟩
  obtain ⟨b2, c2, s2, e2⟩ : ∃ b2 c2 s2, order2 ltN d b1 c s1 = (b2, c2, s2) := ⟨_, _, _, rfl⟩
  obtain ⟨a3, b3, s3, e3⟩ : ∃ a3 b3 s3, order2 ltN d a1 b2 s2 = (a3, b3, s3) := ⟨_, _, _, rfl⟩
  have em : median ltN d a b c s = (b3, s3) := by
    unfold median
    simp only [e1, e2, e3]
  rw [em]
  clear em
  have l1 := order2_lt d s ha hb
  have m1 := order2_swaps d a b s
  rw [e1] at l1 m1
  have l2 := order2_lt d s1 l1.2 hc
  have m2 := order2_swaps d b1 c s1
  rw [e2] at l2 m2
  simp only at l1 m1 l2 m2
  have E1 := Fact.mk e1
  have E2 := Fact.mk e2
  have E3 := Fact.mk e3
  have L1 := Fact.mk l1
  have L2 := Fact.mk l2
  have M1 := Fact.mk m1
  have M2 := Fact.mk m2
  clear e1 e2 e3 l1 l2 m1 m2
  go_enter Tryd.func116, Tryd.ntmps116
  go_wp2_with (go_at_call 118; fail)
  refine (Ord2_calls w g off n cap a b N sb s d HA.out HN.out ha hb HS.out (by omega)).mono ?_
  rw [E1.out]
  rintro e w1 ⟨rfl, HS1, HG1⟩
  have HA1 : Fact (Arr w1 g off d N) := ⟨arr_grown HA.out HG1.out HNE.out⟩
  go_wp2_with (go_at_call 118; fail)
  refine (Ord2_calls w1 g off n cap b1 c N sb s1 d HA1.out HN.out L1.out.2 hc HS1.out (by have := M1.out; omega)).mono ?_
  rw [E2.out]
  rintro e w2 ⟨rfl, HS2, HG2⟩
  have HA2 : Fact (Arr w2 g off d N) := ⟨arr_grown HA1.out HG2.out HNE.out⟩
  go_wp2_with (go_at_call 118; fail)
  refine (Ord2_calls w2 g off n cap a1 b2 N sb s2 d HA2.out HN.out L1.out.1 L2.out.1 HS2.out (by have := M1.out; have := M2.out; omega)).mono ?_
  rw [E3.out]
  rintro e w3 ⟨rfl, HS3, HG3⟩
  go_wp2
  go_ret
  exact ⟨rfl, HS3, ⟨grown_trans (grown_trans HG1.out HG2.out) HG3.out⟩⟩
set_option maxHeartbeats 1000000 in
set_option maxRecDepth 100000 in
theorem MedA_calls (w : World) (g off n cap a N sb s : Nat) (d : Array Nat) (hA : Arr w g off d N) (hn : d.size = n) (ha0 : 1 ≤ a) (ha : a + 1 < n) (hsz : n < 4611686018427387904) (hne : sb ≠ g) (hS : P1 w sb s) (hs : s < 1000) :
    Calls Tryd.prog 115 #[.slice (some ⟨g, off, none⟩) n cap, .int .i64 (a : Int), .pointer (some ⟨sb, 0, none⟩)] w fun e w' => e = .returned (.int .i64 ((medianAdjacent ltN d a s).1 : Int)) ∧ Fact (P1 w' sb (medianAdjacent ltN d a s).2) ∧ Fact (w.grownBy w' (some sb)) := by
  have HC := Fact.mk (Med_calls w g off n cap (a - 1) a (a + 1) N sb s d hA hn (by omega) (by omega) ha hne hS hs)
  clear hA hS hn
  go_enter Tryd.func115, Tryd.ntmps115
  go_wp2_with (go_at_call 116; rw [show ((a : Int) - 1) = ((a - 1 : Nat) : Int) by omega, show ((a : Int) + 1) = ((a + 1 : Nat) : Int) by omega]; refine HC.out.mono ?_; rintro e w1 ⟨rfl, HS1, HG1⟩)
  go_ret
  exact ⟨rfl, HS1, HG1⟩
/-- A hint's number. -/
def hintC : Hint → Int
  | .unknown => 0
  | .increasing => 1
  | .decreasing => 2
theorem median_lt (d : Array Nat) {a b c n : Nat} (s : Nat) (ha : a < n) (hb : b < n) (hc : c < n) : (median ltN d a b c s).1 < n := by
  unfold median
  have l1 := order2_lt d s ha hb
  have l2 := order2_lt d (order2 ltN d a b s).2.2 l1.2 hc
  exact (order2_lt d _ l1.1 l2.1).2
theorem median_swaps (d : Array Nat) (a b c s : Nat) : (median ltN d a b c s).2 ≤ s + 3 := by
  unfold median
  have m1 := order2_swaps d a b s
  have m2 := order2_swaps d (order2 ltN d a b s).2.1 c (order2 ltN d a b s).2.2
  have m3 := order2_swaps d (order2 ltN d a b s).1 (order2 ltN d (order2 ltN d a b s).2.1 c (order2 ltN d a b s).2.2).1 (order2 ltN d (order2 ltN d a b s).2.1 c (order2 ltN d a b s).2.2).2.2
  simp only
  omega
/-- choosePivot ahead of its hint. -/
def rawPiv (d : Array Nat) (a b : Nat) : Nat × Nat :=
  if b - a ≥ 8 then
    if b - a ≥ 50 then
      median ltN d (medianAdjacent ltN d (a + (b - a) / 4 * 1) 0).1 (medianAdjacent ltN d (a + (b - a) / 4 * 2) (medianAdjacent ltN d (a + (b - a) / 4 * 1) 0).2).1
        (medianAdjacent ltN d (a + (b - a) / 4 * 3) (medianAdjacent ltN d (a + (b - a) / 4 * 2) (medianAdjacent ltN d (a + (b - a) / 4 * 1) 0).2).2).1
        (medianAdjacent ltN d (a + (b - a) / 4 * 3) (medianAdjacent ltN d (a + (b - a) / 4 * 2) (medianAdjacent ltN d (a + (b - a) / 4 * 1) 0).2).2).2
    else median ltN d (a + (b - a) / 4 * 1) (a + (b - a) / 4 * 2) (a + (b - a) / 4 * 3) 0
  else (a + (b - a) / 4 * 2, 0)
def hintS (s : Nat) : Hint := if s = 0 then .increasing else if s = 12 then .decreasing else .unknown
theorem choose_eq (d : Array Nat) (a b : Nat) : choosePivot ltN d a b = ((rawPiv d a b).1, hintS (rawPiv d a b).2) := rfl
theorem grown_alloc (w : World) (o : Obj) (r : Option Nat) : w.grownBy (w.alloc o) r := by
  have hb := (Below.refl w.heap.size w).alloc (Nat.le_refl _) o
  exact ⟨hb.os, hb.tape, hb.output, hb.size, fun k hk _ => hb.block k hk⟩
/-- What a new block alone was turned in is grown by none. -/
theorem grown_own {w w1 w2 : World} (h : Below w.heap.size w w1) (k : w1.grownBy w2 (some w.heap.size)) : Below w.heap.size w w2 :=
  ⟨k.os.trans h.os, k.tape.trans h.tape, k.output.trans h.output, Nat.le_trans h.size k.size, fun i hi => (k.block i (Nat.lt_of_lt_of_le hi h.size) (by intro e; exact absurd (Option.some.inj e) (by omega))).trans (h.block i hi)⟩
set_option maxHeartbeats 2000000 in
set_option maxRecDepth 100000 in
theorem Choose_calls (w : World) (g off n cap a b N : Nat) (d : Array Nat) (hA : Arr w g off d N) (hn : d.size = n) (hab : a < b) (hb : b ≤ n) (hsz : n < 4611686018427387904) :
    Calls Tryd.prog 103 #[.slice (some ⟨g, off, none⟩) n cap, .int .i64 (a : Int), .int .i64 (b : Int)] w fun e w' => e = .returned (.tuple #[.int .i64 ((choosePivot ltN d a b).1 : Int), .int .i64 (hintC (choosePivot ltN d a b).2)]) ∧ Below w.heap.size w w' := by
  have HA0 : Fact (Arr (w.alloc (.cells #[.int .i64 0] 3)) g off d N) := ⟨hA.move (Below.heap_alloc _ _ _ hA.lt)⟩
  have HS0 : Fact (P1 (w.alloc (.cells #[.int .i64 0] 3)) w.heap.size 0) := ⟨heap_alloc_new _ _⟩
  have HB0 : Fact (Below w.heap.size w (w.alloc (.cells #[.int .i64 0] 3))) := ⟨(Below.refl _ _).alloc (Nat.le_refl _) _⟩
  have HNE : Fact (w.heap.size ≠ g) := ⟨by have := hA.lt; omega⟩
  have HN := Fact.mk hn
  clear hA hn
  have cs0 := HS0.out.cell
  have fs0 := HS0.out.free
  rw [choose_eq]
  obtain ⟨I, hI⟩ : ∃ I : Nat, I = a + (b - a) / 4 * 1 := ⟨_, rfl⟩
  obtain ⟨J, hJ⟩ : ∃ J : Nat, J = a + (b - a) / 4 * 2 := ⟨_, rfl⟩
  obtain ⟨K, hK⟩ : ∃ K : Nat, K = a + (b - a) / 4 * 3 := ⟨_, rfl⟩
  have eI : ((a : Int) + ((b : Int) - (a : Int)) / 4) = (I : Int) := by omega
  have eJ : ((a : Int) + ((b : Int) - (a : Int)) / 4 * 2) = (J : Int) := by omega
  have eK : ((a : Int) + ((b : Int) - (a : Int)) / 4 * 3) = (K : Int) := by omega
  obtain ⟨p, s, hps⟩ : ∃ p s, rawPiv d a b = (p, s) := ⟨_, _, rfl⟩
  have hraw : rawPiv d a b = (p, s) := hps
  rw [hps]
  obtain ⟨Hc, hHc⟩ : ∃ Hc : Int, Hc = hintC (hintS s) := ⟨_, rfl⟩
  have hh0 : s = 0 → Hc = 1 := fun h => by rw [hHc, h]; rfl
  have hh12 : s = 12 → Hc = 2 := fun h => by rw [hHc, h]; rfl
  have hhx : s ≠ 0 → s ≠ 12 → Hc = 0 := fun h1 h2 => by rw [hHc]; unfold hintS; rw [if_neg h1, if_neg h2]; rfl
  show Calls _ _ _ _ fun e w' => e = .returned (.tuple #[.int .i64 (p : Int), .int .i64 (hintC (hintS s))]) ∧ _
  rw [← hHc]
  have HH : Fact ((s = 0 → Hc = 1) ∧ (s = 12 → Hc = 2) ∧ (s ≠ 0 → s ≠ 12 → Hc = 0)) := ⟨hh0, hh12, hhx⟩
  clear hHc hh0 hh12 hhx hps
  by_cases h8 : b - a ≥ 8
  · have h8z : (b : Int) - (a : Int) ≥ 8 := by omega
    by_cases h50 : b - a ≥ 50
    · have h50z : (b : Int) - (a : Int) ≥ 50 := by omega
      obtain ⟨i1, s1, e1⟩ : ∃ i1 s1, medianAdjacent ltN d I 0 = (i1, s1) := ⟨_, _, rfl⟩
      obtain ⟨j1, s2, e2⟩ : ∃ j1 s2, medianAdjacent ltN d J s1 = (j1, s2) := ⟨_, _, rfl⟩
      obtain ⟨k1, s3, e3⟩ : ∃ k1 s3, medianAdjacent ltN d K s2 = (k1, s3) := ⟨_, _, rfl⟩
      have hr : median ltN d i1 j1 k1 s3 = (p, s) := by
        rw [← hraw]
        unfold rawPiv
        rw [if_pos h8, if_pos h50, ← hI, ← hJ, ← hK, e1, e2, e3]
      have r1 : i1 < n := by have h := median_lt d (n := n) 0 (show I - 1 < n by omega) (show I < n by omega) (show I + 1 < n by omega); unfold medianAdjacent at e1; rw [e1] at h; exact h
      have r2 : j1 < n := by have h := median_lt d (n := n) s1 (show J - 1 < n by omega) (show J < n by omega) (show J + 1 < n by omega); unfold medianAdjacent at e2; rw [e2] at h; exact h
      have r3 : k1 < n := by have h := median_lt d (n := n) s2 (show K - 1 < n by omega) (show K < n by omega) (show K + 1 < n by omega); unfold medianAdjacent at e3; rw [e3] at h; exact h
      have n1 : s1 ≤ 3 := by have h := median_swaps d (I - 1) I (I + 1) 0; unfold medianAdjacent at e1; rw [e1] at h; exact h
      have n2 : s2 ≤ s1 + 3 := by have h := median_swaps d (J - 1) J (J + 1) s1; unfold medianAdjacent at e2; rw [e2] at h; exact h
      have n3 : s3 ≤ s2 + 3 := by have h := median_swaps d (K - 1) K (K + 1) s2; unfold medianAdjacent at e3; rw [e3] at h; exact h
      have n4 : s ≤ s3 + 3 := by have h := median_swaps d i1 j1 k1 s3; rw [hr] at h; exact h
      have bI : 1 ≤ I ∧ I + 1 < n := by omega
      have bJ : 1 ≤ J ∧ J + 1 < n := by omega
      have bK : 1 ≤ K ∧ K + 1 < n := by omega
      have E := Fact.mk (And.intro e1 (And.intro e2 (And.intro e3 hr)))
      clear e1 e2 e3 hr hraw hI hJ hK
      go_enter Tryd.func103, Tryd.ntmps103
      go_wp2_with (go_at_call 115; fail)
      generalize w.alloc (.cells #[.int .i64 0] 3) = w0 at HA0 HS0 HB0 cs0 fs0 ⊢
      refine (MedA_calls w0 g off n cap I N w.heap.size 0 d HA0.out HN.out bI.1 bI.2 hsz HNE.out HS0.out (by omega)).mono ?_
      rw [E.out.1]
      rintro e w1 ⟨rfl, HS1, HG1⟩
      have HA1 : Fact (Arr w1 g off d N) := ⟨arr_grown HA0.out HG1.out HNE.out⟩
      clear cs0 fs0
      go_wp2_with (go_at_call 115; fail)
      refine (MedA_calls w1 g off n cap J N w.heap.size s1 d HA1.out HN.out bJ.1 bJ.2 hsz HNE.out HS1.out (by omega)).mono ?_
      rw [E.out.2.1]
      rintro e w2 ⟨rfl, HS2, HG2⟩
      have HA2 : Fact (Arr w2 g off d N) := ⟨arr_grown HA1.out HG2.out HNE.out⟩
      go_wp2_with (go_at_call 115; fail)
      refine (MedA_calls w2 g off n cap K N w.heap.size s2 d HA2.out HN.out bK.1 bK.2 hsz HNE.out HS2.out (by omega)).mono ?_
      rw [E.out.2.2.1]
      rintro e w3 ⟨rfl, HS3, HG3⟩
      have HA3 : Fact (Arr w3 g off d N) := ⟨arr_grown HA2.out HG3.out HNE.out⟩
      go_wp2_with (go_at_call 116; fail)
      refine (Med_calls w3 g off n cap i1 j1 k1 N w.heap.size s3 d HA3.out HN.out r1 r2 r3 HNE.out HS3.out (by omega)).mono ?_
      rw [E.out.2.2.2]
      rintro e w4 ⟨rfl, HS4, HG4⟩
      have HB4 : Fact (Below w.heap.size w w4) := ⟨grown_own HB0.out (grown_trans (grown_trans (grown_trans HG1.out HG2.out) HG3.out) HG4.out)⟩
      have cs4 := HS4.out.cell
      rcases Nat.lt_or_ge s 1 with h0 | h0
      · obtain rfl : s = 0 := by omega
        go_wp2
        go_ret2
        exact ⟨by have hz := HH.out.1 (by trivial); rw [hz]; rfl, HB4.out⟩
      · by_cases h12 : s = 12
        · subst h12
          go_wp2
          go_ret2
          exact ⟨by have hz := HH.out.2.1 (by trivial); rw [hz]; rfl, HB4.out⟩
        · have z0 : ((s : Int) == 0) = false := by simp; omega
          have z1 : ((s : Int) == 12) = false := by simp; omega
          go_wp2
          go_ret2
          exact ⟨by have hz := HH.out.2.2 (by omega) h12; rw [hz]; rfl, HB4.out⟩
    · have h50z : ¬ (b : Int) - (a : Int) ≥ 50 := by omega
      have hr : median ltN d I J K 0 = (p, s) := by
        rw [← hraw]
        unfold rawPiv
        rw [if_pos h8, if_neg h50, ← hI, ← hJ, ← hK]
      have n4 : s ≤ 3 := by have h := median_swaps d I J K 0; rw [hr] at h; exact h
      have b3 : I < n ∧ J < n ∧ K < n := by omega
      have E := Fact.mk hr
      clear hr hraw hI hJ hK
      go_enter Tryd.func103, Tryd.ntmps103
      go_wp2_with (go_at_call 116; fail)
      generalize w.alloc (.cells #[.int .i64 0] 3) = w0 at HA0 HS0 HB0 cs0 fs0 ⊢
      refine (Med_calls w0 g off n cap I J K N w.heap.size 0 d HA0.out HN.out b3.1 b3.2.1 b3.2.2 HNE.out HS0.out (by omega)).mono ?_
      rw [E.out]
      rintro e w4 ⟨rfl, HS4, HG4⟩
      have HB4 : Fact (Below w.heap.size w w4) := ⟨grown_own HB0.out HG4.out⟩
      have cs4 := HS4.out.cell
      clear cs0 fs0
      rcases Nat.lt_or_ge s 1 with h0 | h0
      · obtain rfl : s = 0 := by omega
        go_wp2
        go_ret2
        exact ⟨by have hz := HH.out.1 (by trivial); rw [hz]; rfl, HB4.out⟩
      · have h12 : s ≠ 12 := by omega
        have z0 : ((s : Int) == 0) = false := by simp; omega
        have z1 : ((s : Int) == 12) = false := by simp; omega
        go_wp2
        go_ret2
        exact ⟨by have hz := HH.out.2.2 (by omega) h12; rw [hz]; rfl, HB4.out⟩
  · have h8z : ¬ (b : Int) - (a : Int) ≥ 8 := by omega
    have hr : (J, 0) = (p, s) := by
      rw [← hraw]
      unfold rawPiv
      rw [if_neg h8, ← hJ]
    obtain ⟨rfl, rfl⟩ := Prod.mk.inj hr
    clear hr hraw hI hJ hK
    go_enter Tryd.func103, Tryd.ntmps103
    go_wp2
    go_ret2
    exact ⟨by have hz := HH.out.1 (by trivial); rw [hz]; rfl, HB0.out⟩
end Go.Proofs.YtkmcjokoinoahaaDoor.SortH
