/- words: Put of what is there; Awake. -/
import Derived.Test.YtkmcjokoinoahaaDoorWordsA
set_option linter.unusedVariables false
set_option linter.unusedSimpArgs false
namespace Go.Proofs.YtkmcjokoinoahaaDoor.WordsB
open Go.RowKit Go.Proofs.YtkmcjokoinoahaaDoor.Lib Go.Proofs.YtkmcjokoinoahaaDoor.Reg Go.Proofs.YtkmcjokoinoahaaDoor.RegB Go.Proofs.YtkmcjokoinoahaaDoor.WordsA Go.Maps
set_option maxHeartbeats 1000000 in
set_option maxRecDepth 100000 in
theorem Put_old (w : World) (pb mb N : Nat) (D : DataW Unit) (n : Nat) (h : Ws w pb mb N D) (hn : 1 ≤ n) (hn2 : n < 18446744073709551616) (hh : hasB D n = true) : Calls Tryd.prog 46 #[.pointer (some ⟨pb, 0, none⟩), .int .u64 (n : Int)] w fun e w' => e = .returned (.bool false) ∧ ∃ q, w' = w.drewN q := by
  have hnz : ((n : Int) == 0) = false := by simp; omega
  go_enter Tryd.func46, Tryd.ntmps46
  go_wp2_with (go_at_call 50; refine (Has_calls _ pb mb N D n h hn hn2).mono ?_; rintro e w1 ⟨rfl, hw⟩; rw [hh])
  go_ret
  exact ⟨rfl, hw⟩
theorem Word_calls' (w : World) (pb mb N : Nat) (D : DataW Unit) (k : Nat) (x : Nat) (h : Ws w pb mb N D) (hk : k < 18446744073709551616) (hx : wd D k = x) : Calls Tryd.prog 56 #[.pointer (some ⟨pb, 0, none⟩), .int .u64 (k : Int)] w fun e w' => e = .returned (.int .u64 (x : Int)) ∧ ∃ q, w' = w.drewN q := by
  subst hx
  exact Word_calls w pb mb N D k h hk
theorem Len_calls' (w : World) (pb mb N : Nat) (D : DataW Unit) (m : Nat) (h : Ws w pb mb N D) (hm : Maps.size D = m) : Calls Tryd.prog 49 #[.pointer (some ⟨pb, 0, none⟩)] w fun e w' => e = .returned (.int .i64 (m : Int)) ∧ ∃ q, w' = w.drewN q := by
  subst hm
  exact Len_calls w pb mb N D h
theorem Turned.below {w w' : World} {mb : Nat} (h : Turned w w' mb) (hm : w.heap.size ≤ mb) : Below w.heap.size w w' := h.lo hm (Nat.le_refl _)
set_option maxHeartbeats 1000000 in
set_option maxRecDepth 100000 in
theorem Awake_calls (w : World) : Calls Tryd.prog 44 #[] w fun e w' => e = .returned (.bool true) ∧ Below w.heap.size w w' := by
  go_enter Tryd.func44, Tryd.ntmps44
  go_wp2_with (first
    | (go_at_call 45; refine (New_calls _).mono ?_; rintro e w1 ⟨pb, mb, rfl, HP, HM, HW1, hb⟩; have HB1 := Fact.mk hb; clear hb)
    | (go_at_call 46; fail))
  refine (Put_new _ pb mb 0 _ 1 HW1.out (by omega) (by omega) (by omega) (by kernel_rfl)).mono ?_
  rintro e w2 ⟨rfl, HW2, ht⟩
  have HB2 : Fact (Below w.heap.size w w2) := ⟨HB1.out.trans (ht.lo HM.out HB1.out.size)⟩
  clear ht
  go_wp2_with (go_at_call 46; fail)
  refine (Put_new _ pb mb 1 _ 64 HW2.out (by omega) (by omega) (by omega) (by kernel_rfl)).mono ?_
  rintro e w3 ⟨rfl, HW3, ht⟩
  have HB3 : Fact (Below w.heap.size w w3) := ⟨HB2.out.trans (ht.lo HM.out HB2.out.size)⟩
  clear ht
  go_wp2_with (go_at_call 46; fail)
  refine (Put_new _ pb mb 2 _ 65 HW3.out (by omega) (by omega) (by omega) (by kernel_rfl)).mono ?_
  rintro e w4 ⟨rfl, HW4, ht⟩
  have HB4 : Fact (Below w.heap.size w w4) := ⟨HB3.out.trans (ht.lo HM.out HB3.out.size)⟩
  clear ht
  go_wp2_with (go_at_call 46; fail)
  refine (Put_old _ pb mb 3 _ 1 HW4.out (by omega) (by omega) (by kernel_rfl)).mono ?_
  rintro e w5 ⟨rfl, hw⟩
  have HW5 := Fact.mk (HW4.out.quiet hw)
  have HB5 : Fact (Below w.heap.size w w5) := ⟨by obtain ⟨q, rfl⟩ := hw; exact below_drewN' HB4.out q⟩
  clear hw
  have e9 : ((9223372036854775809 : Nat) : Int) = 9223372036854775809 := rfl
  have e1 : ((1 : Nat) : Int) = 1 := rfl
  have e2 : ((2 : Nat) : Int) = 2 := rfl
  go_wp2_with (go_at_call 56; fail)
  refine (Word_calls' _ pb mb 3 _ 0 9223372036854775809 HW5.out (by omega) (by kernel_rfl)).mono ?_
  rintro e w6 ⟨rfl, hw⟩
  have HW6 := Fact.mk (HW5.out.quiet hw)
  have HB6 : Fact (Below w.heap.size w w6) := ⟨by obtain ⟨q, rfl⟩ := hw; exact below_drewN' HB5.out q⟩
  clear hw
  rw [e9]
  go_wp2_with (go_at_call 56; fail)
  refine (Word_calls' _ pb mb 3 _ 1 1 HW6.out (by omega) (by kernel_rfl)).mono ?_
  rintro e w7 ⟨rfl, hw⟩
  have HW7 := Fact.mk (HW6.out.quiet hw)
  have HB7 : Fact (Below w.heap.size w w7) := ⟨by obtain ⟨q, rfl⟩ := hw; exact below_drewN' HB6.out q⟩
  clear hw
  rw [e1]
  go_wp2_with (go_at_call 49; fail)
  refine (Len_calls' _ pb mb 3 _ 2 HW7.out (by kernel_rfl)).mono ?_
  rintro e w8 ⟨rfl, hw⟩
  have HB8 : Fact (Below w.heap.size w w8) := ⟨by obtain ⟨q, rfl⟩ := hw; exact below_drewN' HB7.out q⟩
  clear hw
  rw [e2]
  go_wp2_with fail
  go_ret
  exact ⟨rfl, HB8.out⟩
end Go.Proofs.YtkmcjokoinoahaaDoor.WordsB
