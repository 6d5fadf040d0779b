/- math/bits.Len64, Len, slices.nextPowerOfTwo, (*slices.xorshift).Next, slices.breakPatternsOrdered at uint64: the library's own text computes 'breakPatterns'. -/
import Derived.Test.YtkmcjokoinoahaaDoorSortH
import Derived.Test.YtkmcjokoinoahaaDoorBitsL
import Derived.Lib.BitFns
import Derived.Sort.LotD5
import Derived.Laws.Bits64
import Derived.Laws.Bits64b
import Derived.Laws.Shifts
set_option linter.unusedVariables false
set_option linter.unusedSimpArgs false
namespace Go.Proofs.YtkmcjokoinoahaaDoor.SortI
open Go.RowKit Go.Proofs.YtkmcjokoinoahaaDoor.Lib Go.Proofs.YtkmcjokoinoahaaDoor.SortA Go.Proofs.YtkmcjokoinoahaaDoor.SortB Go.Proofs.YtkmcjokoinoahaaDoor.SortC Go.Proofs.YtkmcjokoinoahaaDoor.SortE Go.Proofs.YtkmcjokoinoahaaDoor.SortH Go.Proofs.YtkmcjokoinoahaaDoor.BitsL
open Go.Sort (swp size_swp bitsLen bitsLen_le_iff two_pow_bitsLen_le xorNext xorNextN xorNext_toNat xorNextN_lt breakPatterns breakStep)
/-- The shelf's bitLen is the sort's bitsLen. -/
theorem bitLen_eq (x : Nat) (h : x < 2 ^ 64) : Lib.bitLen x = bitsLen x := by
  induction x using Nat.strongRecOn with
  | _ x ih =>
    by_cases h0 : x = 0
    · subst h0; rfl
    · rw [Lib.bitLen_half x h0 h, ih (x / 2) (by omega) (by omega)]
      unfold bitsLen
      rw [if_neg h0, Nat.log2_def x]
      by_cases h2 : 2 ≤ x
      · rw [if_pos h2, if_neg (by omega)]; omega
      · obtain rfl : x = 1 := by omega
        simp
theorem Len_calls (n : Nat) (w : World) (h : n < 18446744073709551616) :
    Calls Tryd.prog 96 #[.int .u64 (n : Int)] w fun e w' => e = .returned (.int .i64 ((bitsLen n : Nat) : Int)) ∧ w' = w := by
  have hc : ∀ w, Calls Tryd.prog 110 #[.int .u64 (n : Int)] w fun e w' => e = .returned (.int .i64 ((bitsLen n : Nat) : Int)) ∧ w' = w := fun w => by
    have h := Len64_calls (n : Int) w (by omega) (by omega)
    rwa [Int.toNat_natCast, bitLen_eq _ (by omega)] at h
  go_enter Tryd.func96, Tryd.ntmps96
  go_wp2_with (go_at_call 110; refine (hc _).mono ?_; rintro e w' ⟨rfl, rfl⟩)
  go_ret
  exact ⟨rfl, rfl⟩
theorem wrap_two_pow (k : Nat) (hk : k ≤ 62) : IntKind.u64.wrap ((2 : Int) ^ k) = ((1 <<< k : Nat) : Int) := by
  have h : (2 : Nat) ^ k ≤ 2 ^ 62 := Nat.pow_le_pow_right (by decide) hk
  rw [IntKind.wrap_u64, Nat.one_shiftLeft, show ((2 : Int) ^ k) = ((2 ^ k : Nat) : Int) by push_cast; rfl]
  generalize (2 : Nat) ^ k = p at h
  omega
theorem NPow_calls (n : Nat) (hn : n < 4611686018427387904) (w : World) :
    Calls Tryd.prog 113 #[.int .i64 (n : Int)] w fun e w' => e = .returned (.int .u64 ((1 <<< bitsLen n : Nat) : Int)) ∧ w' = w := by
  have hLen := fun w => Len_calls n w (by omega)
  have hk : bitsLen n ≤ 62 := (bitsLen_le_iff n 62).2 (by omega)
  have hp := wrap_two_pow (bitsLen n) hk
  go_enter Tryd.func113, Tryd.ntmps113
  go_wp2_with (first | (go_at_call 96; refine (hLen _).mono ?_; rintro e w' ⟨rfl, rfl⟩))
  go_ret
  exact ⟨rfl, rfl⟩
/-- The generator's block. -/
def PX (w : World) (b r : Nat) : Prop := w.heap[b]? = some (.cells #[.int .u64 (r : Int)] 198 (0, 0))
theorem PX.cell {w : World} {b r : Nat} (h : PX w b r) : w.cell? ⟨b, 0, none⟩ = some (.int .u64 (r : Int)) := rowc h rfl
theorem PX.free {w : World} {b r : Nat} (h : PX w b r) : w.frozen? ⟨b, 0, none⟩ = false := frozen_of_row w b 0 _ _ h
theorem PX.set {w : World} {b r : Nat} (h : PX w b r) (t : Nat) : PX (w.setCell ⟨b, 0, none⟩ (.int .u64 (t : Int))) b t := heap_setCell_same w b 0 _ _ (.int .u64 (t : Int)) h
set_option maxHeartbeats 1000000 in
set_option maxRecDepth 100000 in
theorem Next_calls (b X : Nat) (hX : X < 18446744073709551616) (w : World) (h : PX w b X) :
    Calls Tryd.prog 114 #[.pointer (some ⟨b, 0, none⟩)] w fun e w' => e = .returned (.int .u64 ((xorNextN X : Nat) : Int)) ∧ Fact (PX w' b (xorNextN X)) ∧ Fact (w.grownBy w' (some b)) := by
  obtain ⟨A, hA⟩ : ∃ A : Nat, A = X ^^^ (X * 8192 % 18446744073709551616) := ⟨_, rfl⟩
  obtain ⟨B, hB⟩ : ∃ B : Nat, B = A ^^^ (A / 128) := ⟨_, rfl⟩
  obtain ⟨C, hC⟩ : ∃ C : Nat, C = B ^^^ (B * 131072 % 18446744073709551616) := ⟨_, rfl⟩
  have lA : A < 18446744073709551616 := by rw [hA]; exact Nat.xor_lt_two_pow (n := 64) (by omega) (by omega)
  have lB : B < 18446744073709551616 := by rw [hB]; exact Nat.xor_lt_two_pow (n := 64) (by omega) (by omega)
  have e1 : bits .xor .u64 (X : Int) (IntKind.u64.wrap ((X : Int) * 8192)) = (A : Int) := by
    rw [IntKind.wrap_u64, show ((X : Int) * 8192 % 18446744073709551616) = ((X * 8192 % 18446744073709551616 : Nat) : Int) by omega, bits_xor_u64_nat _ _ hX (by omega), hA]
  have e2 : bits .xor .u64 (A : Int) ((A : Int) / 128) = (B : Int) := by
    rw [show ((A : Int) / 128) = ((A / 128 : Nat) : Int) by omega, bits_xor_u64_nat _ _ lA (by omega), hB]
  have e3 : bits .xor .u64 (B : Int) (IntKind.u64.wrap ((B : Int) * 131072)) = (C : Int) := by
    rw [IntKind.wrap_u64, show ((B : Int) * 131072 % 18446744073709551616) = ((B * 131072 % 18446744073709551616 : Nat) : Int) by omega, bits_xor_u64_nat _ _ lB (by omega), hC]
  have hv : xorNextN X = C := by unfold xorNextN; simp only []; rw [← hA, ← hB, ← hC]
  rw [hv]
  clear hA hB hC hv
  have HP0 := Fact.mk h
  have hc := h.cell
  have hf := h.free
  clear h
  go_enter Tryd.func114, Tryd.ntmps114
  go_wp2
  go_region
  all_goals go_wp2
  have HP1 : Fact (PX (w.setCell ⟨b, 0, none⟩ (.int .u64 (A : Int))).drew b A ∧ w.grownBy (w.setCell ⟨b, 0, none⟩ (.int .u64 (A : Int))).drew (some b)) := ⟨HP0.out.set A, grown_drewN (grown_set (grown_refl _ _) 0 _) 1⟩
  generalize (w.setCell ⟨b, 0, none⟩ (.int .u64 (A : Int))).drew = w1 at HP1 ⊢
  clear hc hf
  have hc := HP1.out.1.cell
  have hf := HP1.out.1.free
  go_region
  all_goals go_wp2
  have HP2 : Fact (PX (w1.setCell ⟨b, 0, none⟩ (.int .u64 (B : Int))).drew b B ∧ w.grownBy (w1.setCell ⟨b, 0, none⟩ (.int .u64 (B : Int))).drew (some b)) := ⟨HP1.out.1.set B, grown_drewN (grown_set HP1.out.2 0 _) 1⟩
  generalize (w1.setCell ⟨b, 0, none⟩ (.int .u64 (B : Int))).drew = w2 at HP2 ⊢
  clear hc hf
  have hc := HP2.out.1.cell
  have hf := HP2.out.1.free
  go_region
  all_goals go_wp2
  have HP3 : Fact (PX (w2.setCell ⟨b, 0, none⟩ (.int .u64 (C : Int))).drew b C ∧ w.grownBy (w2.setCell ⟨b, 0, none⟩ (.int .u64 (C : Int))).drew (some b)) := ⟨HP2.out.1.set C, grown_drewN (grown_set HP2.out.2 0 _) 1⟩
  generalize (w2.setCell ⟨b, 0, none⟩ (.int .u64 (C : Int))).drew = w3 at HP3 ⊢
  clear hc hf
  have hc := HP3.out.1.cell
  have hf := HP3.out.1.free
  all_goals go_wp2
  go_ret
  exact ⟨rfl, ⟨HP3.out.1⟩, ⟨HP3.out.2⟩⟩
theorem grown_new {w a : World} {r : Option Nat} (h : w.grownBy a r) {b : Nat} (hb : w.heap.size ≤ b) (o : Nat) (v : Value) : w.grownBy (a.setCell ⟨b, o, none⟩ v) r := by
  have hbl := (Below.refl b a).setCell (p := ⟨b, o, none⟩) (Nat.le_refl _) v
  exact ⟨hbl.os.trans h.os, hbl.tape.trans h.tape, hbl.output.trans h.output, Nat.le_trans h.size hbl.size, fun k hk hne => (hbl.block k (by omega)).trans (h.block k hk hne)⟩
theorem grown_newBy {w a c : World} {r : Option Nat} (h : w.grownBy a r) {b : Nat} (hb : w.heap.size ≤ b) (k : a.grownBy c (some b)) : w.grownBy c r :=
  ⟨k.os.trans h.os, k.tape.trans h.tape, k.output.trans h.output, Nat.le_trans h.size k.size, fun i hi hne => (k.block i (Nat.lt_of_lt_of_le hi h.size) (by intro e; have := Option.some.inj e; omega)).trans (h.block i hi hne)⟩
/-- So many rounds are left; t have been made. -/
def bpRest (a L M i0 : Nat) : Nat → Nat → UInt64 × Array Nat → Array Nat
  | 0, _, st => st.2
  | k + 1, t, st => bpRest a L M i0 k (t + 1) (breakStep a L M st (i0 + t))
theorem breakPatterns_eq (d : Array Nat) (a L : Nat) (h8 : 8 ≤ L) : breakPatterns d a (a + L) = bpRest a L (1 <<< bitsLen L) (a + L / 4 * 2 - 1) 3 0 (UInt64.ofNat L, d) := by
  unfold breakPatterns
  simp only [Nat.add_sub_cancel_left]
  rw [if_pos h8]
  rfl
theorem bp_step (a L M i0 t : Nat) (r : UInt64) (d : Array Nat) (o : Nat) (ht : t < 3) (ho : (if (xorNext r).toNat &&& (M - 1) ≥ L then ((xorNext r).toNat &&& (M - 1)) - L else (xorNext r).toNat &&& (M - 1)) = o) :
    bpRest a L M i0 (3 - t) t (r, d) = bpRest a L M i0 (3 - (t + 1)) (t + 1) (xorNext r, swp d (i0 + t) (a + o)) := by
  rw [show 3 - t = (3 - (t + 1)) + 1 by omega, bpRest]
  unfold breakStep
  simp only [ho]
set_option maxHeartbeats 4000000 in
set_option maxRecDepth 100000 in
theorem Break_calls (w : World) (g off n cap a b N : Nat) (d : Array Nat) (hA : Arr w g off d N) (hn : d.size = n) (hab : a ≤ b) (hb : b ≤ n) (hsz : n < 4611686018427387904) :
    Calls Tryd.prog 102 #[.slice (some ⟨g, off, none⟩) n cap, .int .i64 (a : Int), .int .i64 (b : Int)] w fun e w' => e = .returned (.tuple #[]) ∧ Fact (Arr w' g off (breakPatterns d a b) N) ∧ Fact (w.grownBy w' (some g)) := by
  obtain ⟨L, rfl⟩ : ∃ L, b = a + L := ⟨b - a, by omega⟩
  by_cases h8 : 8 ≤ L
  · have h8z : (((a + L : Nat) : Int) - (a : Int)) ≥ 8 := by omega
    have eL : (((a + L : Nat) : Int) - (a : Int)) = (L : Int) := by omega
    have eL2 : ((a : Int) + (L : Int) - (a : Int)) = (L : Int) := by omega
    obtain ⟨R0, hR0⟩ : ∃ R0, breakPatterns d a (a + L) = R0 := ⟨_, rfl⟩
    have HR0 : Fact (bpRest a L (1 <<< bitsLen L) (a + L / 4 * 2 - 1) 3 0 (UInt64.ofNat L, d) = R0) := ⟨by rw [← hR0, breakPatterns_eq d a L h8]⟩
    rw [hR0]
    clear hR0
    obtain ⟨M, hM⟩ : ∃ M : Nat, M = 1 <<< bitsLen L := ⟨_, rfl⟩
    have hM1 : 1 ≤ M := by rw [hM, Nat.one_shiftLeft]; exact Nat.two_pow_pos _
    have hM2 : M ≤ 2 * L := by rw [hM, Nat.one_shiftLeft]; exact two_pow_bitsLen_le (by omega)
    have HNP : Fact (∀ w, Calls Tryd.prog 113 #[.int .i64 (L : Int)] w fun e w' => e = .returned (.int .u64 (M : Int)) ∧ w' = w) := ⟨by rw [hM]; exact fun w => NPow_calls L (by omega) w⟩
    rw [← hM] at HR0
    clear hM
    have HA0 : Fact (Arr (w.alloc (.cells #[.int .u64 (L : Int)] 198)) g off d N) := ⟨hA.move (Below.heap_alloc _ _ _ hA.lt)⟩
    have HX0 : Fact (PX (w.alloc (.cells #[.int .u64 (L : Int)] 198)) w.heap.size L) := ⟨heap_alloc_new _ _⟩
    have HG0 : Fact (w.grownBy (w.alloc (.cells #[.int .u64 (L : Int)] 198)) (some g)) := ⟨grown_alloc _ _ _⟩
    have HNE : Fact (w.heap.size ≠ g) := ⟨by have := hA.lt; omega⟩
    have HN := Fact.mk hn
    have HLL : Fact (L < 18446744073709551616) := ⟨by omega⟩
    clear hA hn
    go_enter Tryd.func102, Tryd.ntmps102
    go_wp2_with (first | (go_at_call 113; first | rw [eL2] | rw [eL] | skip; refine (HNP.out _).mono ?_; rintro e w' ⟨rfl, rfl⟩))
    generalize w.alloc (.cells #[.int .u64 (L : Int)] 198) = w0 at HA0 HX0 HG0 ⊢
    obtain ⟨I0, hI0⟩ : ∃ I0, a + L / 4 * 2 - 1 = I0 := ⟨_, rfl⟩
    have HI0 : Fact (I0 + 1 = a + L / 4 * 2) := ⟨by omega⟩
    go_loopg [9] 3 (fun kq vi wr => ∃ (t : Nat) (r : UInt64) (dk : Array Nat), vi = .int .i64 ((I0 + t : Nat) : Int) ∧ Fact (t + kq = 3) ∧ Fact (dk.size = n) ∧ Fact (Arr wr g off dk N) ∧ Fact (PX wr w.heap.size r.toNat) ∧ Fact (w.grownBy wr (some g)) ∧ Fact (bpRest a L M I0 (3 - t) t (r, dk) = R0))
    case atStart => exact ⟨0, UInt64.ofNat L, d, by congr 1; omega, ⟨rfl⟩, HN, HA0, ⟨by have := HX0.out; rwa [show (UInt64.ofNat L).toNat = L by simp; have := HLL.out; omega]⟩, HG0, ⟨by rw [← hI0]; exact HR0.out⟩⟩
    case round =>
      obtain ⟨t, r, dk, rfl, HT, HSK, HAR, HXR, HGR, HO⟩ := hrel
      have ht3 := HT.out
      have hi0 := HI0.out
      rcases Nat.lt_or_ge t 3 with htl | htl
      · obtain ⟨R, hR⟩ : ∃ R : Nat, R = r.toNat := ⟨_, rfl⟩
        have lR : R < 18446744073709551616 := by rw [hR]; exact r.toNat_lt
        rw [← hR] at HXR
        obtain ⟨R', hR'⟩ : ∃ R' : Nat, R' = xorNextN R := ⟨_, rfl⟩
        have lR' : R' < 18446744073709551616 := by rw [hR']; exact xorNextN_lt R lR
        obtain ⟨O, hO⟩ : ∃ O : Nat, O = R' &&& (M - 1) := ⟨_, rfl⟩
        have lO : O ≤ M - 1 := by rw [hO]; exact Nat.and_le_right
        have eAnd : bits .and .u64 (R' : Int) ((M : Int) - 1) = (O : Int) := by
          rw [show ((M : Int) - 1) = ((M - 1 : Nat) : Int) by omega, bits_and_u64_nat _ _ lR' (by omega), hO]
        have HNX := Fact.mk (Next_calls w.heap.size R lR wr HXR.out)
        rw [← hR'] at HNX
        have HQ : Fact (R' = (xorNext r).toNat ∧ O = (xorNext r).toNat &&& (M - 1)) := ⟨by
          have e : R' = (xorNext r).toNat := by rw [hR', hR, xorNext_toNat]
          exact ⟨e, by rw [hO, e]⟩⟩
        clear hR hR' hO
        have q1 : ((I0 + t : Nat) : Int) ≤ (a : Int) + (L : Int) / 4 * 2 + 1 := by omega
        go_wp2_with (go_at_call 114; refine HNX.out.mono ?_; rintro e wx ⟨rfl, HX1, HG1⟩)
        all_goals
          have HA1 : Fact (Arr wx g off dk N) := ⟨arr_grown HAR.out HG1.out HNE.out⟩
          have HGW : Fact (w.grownBy wx (some g)) := ⟨grown_newBy HGR.out (Nat.le_refl _) HG1.out⟩
          obtain ⟨G, hG, hcw, hfw⟩ := fam HA1.out
          rw [HSK.out] at hcw hfw
          have HG := Fact.mk hG
          clear hG
        · have hLO : L ≤ O := by omega
          obtain ⟨x2, hx2⟩ : ∃ x2, a + (O - L) = x2 := ⟨_, rfl⟩
          have e5 : (a : Int) + ((O : Int) - (L : Int)) = (x2 : Int) := by omega
          have bx : x2 < n := by omega
          have bi : I0 + t < n := by omega
          have HXX := Fact.mk hx2
          clear hx2
          obtain ⟨v9, hcs0⟩ := cell?_setCell_some (p := ⟨g, off + (I0 + t), none⟩) (x := .int .u64 (G x2 : Int)) (hcw x2 bx)
          have hcs : ∀ q, ((wx.drewN q).setCell ⟨g, off + (I0 + t), none⟩ (.int .u64 (G x2 : Int))).cell? ⟨g, off + x2, none⟩ = some v9 := fun q => hcs0
          go_region
          all_goals go_wp2
          go_roundg (3 - (t + 1))
          case measure => omega
          case rel => exact ⟨t + 1, xorNext r, swp dk (I0 + t) x2, by first | rfl | (congr 1; omega), ⟨by omega⟩, ⟨by rw [size_swp]; exact HSK.out⟩, ⟨swap_world HA1.out HG.out (by rw [HSK.out]; omega) (by rw [HSK.out]; omega) _⟩, ⟨by rw [← HQ.out.1]; exact (heap_setCell_other _ _ _ _ (by have := HNE.out; simp; omega)).trans ((heap_setCell_other _ _ _ _ (by have := HNE.out; simp; omega)).trans HX1.out)⟩, ⟨swap_grown HGW.out _ _ _ _ _⟩, ⟨by rw [← HO.out, bp_step a L M I0 t r dk (O - L) htl (by rw [← HQ.out.2, if_pos (by omega)]), HXX.out]⟩⟩
        · have hLO : ¬ L ≤ O := by omega
          obtain ⟨x2, hx2⟩ : ∃ x2, a + O = x2 := ⟨_, rfl⟩
          have e5 : (a : Int) + (O : Int) = (x2 : Int) := by omega
          have bx : x2 < n := by omega
          have bi : I0 + t < n := by omega
          have HXX := Fact.mk hx2
          clear hx2
          obtain ⟨v9, hcs0⟩ := cell?_setCell_some (p := ⟨g, off + (I0 + t), none⟩) (x := .int .u64 (G x2 : Int)) (hcw x2 bx)
          have hcs : ∀ q, ((wx.drewN q).setCell ⟨g, off + (I0 + t), none⟩ (.int .u64 (G x2 : Int))).cell? ⟨g, off + x2, none⟩ = some v9 := fun q => hcs0
          go_region
          all_goals go_wp2
          go_roundg (3 - (t + 1))
          case measure => omega
          case rel => exact ⟨t + 1, xorNext r, swp dk (I0 + t) x2, by first | rfl | (congr 1; omega), ⟨by omega⟩, ⟨by rw [size_swp]; exact HSK.out⟩, ⟨swap_world HA1.out HG.out (by rw [HSK.out]; omega) (by rw [HSK.out]; omega) _⟩, ⟨by rw [← HQ.out.1]; exact (heap_setCell_other _ _ _ _ (by have := HNE.out; simp; omega)).trans ((heap_setCell_other _ _ _ _ (by have := HNE.out; simp; omega)).trans HX1.out)⟩, ⟨swap_grown HGW.out _ _ _ _ _⟩, ⟨by rw [← HO.out, bp_step a L M I0 t r dk O htl (by rw [← HQ.out.2, if_neg (by omega)]), HXX.out]⟩⟩
      · have : t = 3 := by omega
        subst this
        have q1 : ¬ ((I0 + 3 : Nat) : Int) ≤ (a : Int) + (L : Int) / 4 * 2 + 1 := by omega
        go_wp2
        go_end0
        exact ⟨rfl, ⟨by rw [← HO.out]; exact HAR.out⟩, HGR⟩
  · have hv : breakPatterns d a (a + L) = d := by unfold breakPatterns; simp only [Nat.add_sub_cancel_left]; rw [if_neg h8]
    rw [hv]
    have h8z : ¬ (((a + L : Nat) : Int) - (a : Int)) ≥ 8 := by omega
    have HA := Fact.mk hA
    clear hA
    go_enter Tryd.func102, Tryd.ntmps102
    go_wp2
    go_end0
    exact ⟨rfl, HA, ⟨grown_refl _ _⟩⟩
end Go.Proofs.YtkmcjokoinoahaaDoor.SortI
