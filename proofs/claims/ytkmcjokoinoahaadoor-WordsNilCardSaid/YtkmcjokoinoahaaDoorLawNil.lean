/- WordsNil: for every input the law answers true; what was in memory before is as it was. -/
import Derived.Test.YtkmcjokoinoahaaDoorWordsB
set_option linter.unusedVariables false
set_option linter.unusedSimpArgs false
namespace Go.Proofs.YtkmcjokoinoahaaDoor.LawNil
open Go.RowKit Go.Proofs.YtkmcjokoinoahaaDoor.Lib Go.Proofs.YtkmcjokoinoahaaDoor.Reg Go.Proofs.YtkmcjokoinoahaaDoor.WordsA Go.Proofs.YtkmcjokoinoahaaDoor.WordsB
theorem Has_nil (w : World) (ni : Int) : Calls Tryd.prog 50 #[.pointer none, .int .u64 ni] w fun e w' => e = .returned (.bool false) ∧ Below w.heap.size w w' := by
  go_enter Tryd.func50, Tryd.ntmps50
  go_wp2_with fail
  go_ret
  exact ⟨rfl, Below.refl _ _⟩
theorem Put_nil (w : World) (ni : Int) : Calls Tryd.prog 46 #[.pointer none, .int .u64 ni] w fun e w' => e = .returned (.bool false) ∧ Below w.heap.size w w' := by
  go_enter Tryd.func46, Tryd.ntmps46
  go_wp2_with fail
  go_ret
  exact ⟨rfl, Below.refl _ _⟩
theorem Word_nil (w : World) (ni : Int) : Calls Tryd.prog 56 #[.pointer none, .int .u64 ni] w fun e w' => e = .returned (.int .u64 0) ∧ Below w.heap.size w w' := by
  go_enter Tryd.func56, Tryd.ntmps56
  go_wp2_with fail
  go_ret
  exact ⟨rfl, Below.refl _ _⟩
theorem Len_nil (w : World) (ni : Int) : Calls Tryd.prog 49 #[.pointer none] w fun e w' => e = .returned (.int .i64 0) ∧ Below w.heap.size w w' := by
  go_enter Tryd.func49, Tryd.ntmps49
  go_wp2_with fail
  go_ret
  exact ⟨rfl, Below.refl _ _⟩
theorem All_nil (w : World) (ni : Int) : Calls Tryd.prog 48 #[.pointer none] w fun e w' => e = .returned (.slice none 0 0) ∧ Below w.heap.size w w' := by
  go_enter Tryd.func48, Tryd.ntmps48
  go_wp2_with fail
  go_ret
  exact ⟨rfl, Below.refl _ _⟩
theorem Cut_nil (w : World) (ni : Int) : Calls Tryd.prog 54 #[.pointer none, .int .u64 ni] w fun e w' => e = .returned (.bool false) ∧ Below w.heap.size w w' := by
  go_enter Tryd.func54, Tryd.ntmps54
  go_wp2_with (go_at_call 50; fail)
  refine (Has_nil _ ni).mono ?_
  rintro e w1 ⟨rfl, hb⟩
  have HB := Fact.mk hb
  clear hb
  go_wp2_with fail
  go_ret
  exact ⟨rfl, HB.out⟩
set_option maxHeartbeats 2000000 in
set_option maxRecDepth 100000 in
theorem WordsNil_calls (w : World) (ni : Int) (h0 : 0 ≤ ni) (h1 : ni ≤ 18446744073709551615) : Calls Tryd.prog 17 #[.int .u64 ni] w fun e w' => e = .returned (.bool true) ∧ Below w.heap.size w w' := by
  go_enter Tryd.func17, Tryd.ntmps17
  go_wp2_with (first
    | (go_at_call 44; refine (Awake_calls _).mono ?_; rintro e w1 ⟨rfl, hb⟩; have HB1 := Fact.mk hb; clear hb)
    | (go_at_call 46; fail))
  refine (Put_nil _ ni).mono ?_
  rintro e w2 ⟨rfl, hb⟩
  have HB2 : Fact (Below w.heap.size w w2) := ⟨HB1.out.trans (hb.mono HB1.out.size)⟩
  clear hb
  go_wp2_with (go_at_call 54; fail)
  refine (Cut_nil _ ni).mono ?_
  rintro e w3 ⟨rfl, hb⟩
  have HB3 : Fact (Below w.heap.size w w3) := ⟨HB2.out.trans (hb.mono HB2.out.size)⟩
  clear hb
  go_wp2_with (go_at_call 50; fail)
  refine (Has_nil _ ni).mono ?_
  rintro e w4 ⟨rfl, hb⟩
  have HB4 : Fact (Below w.heap.size w w4) := ⟨HB3.out.trans (hb.mono HB3.out.size)⟩
  clear hb
  go_wp2_with (go_at_call 56; fail)
  refine (Word_nil _ ni).mono ?_
  rintro e w5 ⟨rfl, hb⟩
  have HB5 : Fact (Below w.heap.size w w5) := ⟨HB4.out.trans (hb.mono HB4.out.size)⟩
  clear hb
  go_wp2_with (go_at_call 49; fail)
  refine (Len_nil _ ni).mono ?_
  rintro e w6 ⟨rfl, hb⟩
  have HB6 : Fact (Below w.heap.size w w6) := ⟨HB5.out.trans (hb.mono HB5.out.size)⟩
  clear hb
  go_wp2_with (go_at_call 48; fail)
  refine (All_nil _ ni).mono ?_
  rintro e w7 ⟨rfl, hb⟩
  have HB7 : Fact (Below w.heap.size w w7) := ⟨HB6.out.trans (hb.mono HB6.out.size)⟩
  clear hb
  go_wp2_with fail
  go_ret
  exact ⟨rfl, HB7.out⟩
end Go.Proofs.YtkmcjokoinoahaaDoor.LawNil
