/- FaultNone, FaultCodes: for every input the law answers true; what was in memory before is as it was. -/
import Derived.Test.YtkmcjokoinoahaaDoorFaultH
import Derived.Test.YtkmcjokoinoahaaDoorFaultG
set_option linter.unusedVariables false
set_option linter.unusedSimpArgs false
namespace Go.Proofs.YtkmcjokoinoahaaDoor.LawFNone
open Go.RowKit Go.Proofs.YtkmcjokoinoahaaDoor.Lib Go.Proofs.YtkmcjokoinoahaaDoor.FaultB Go.Proofs.YtkmcjokoinoahaaDoor.FaultC Go.Proofs.YtkmcjokoinoahaaDoor.FaultD Go.Proofs.YtkmcjokoinoahaaDoor.FaultE Go.Proofs.YtkmcjokoinoahaaDoor.FaultF Go.Proofs.YtkmcjokoinoahaaDoor.FaultG Go.Proofs.YtkmcjokoinoahaaDoor.FaultH
set_option maxHeartbeats 4000000 in
set_option maxRecDepth 100000 in
theorem FaultNone_calls (w : World) (hg : Laid w) (s : ByteArray) (n code : Int) : Calls Tryd.prog 5 #[.string s, .int .i64 n, .int .i64 code] w fun ev w' => ev = .returned (.bool true) ∧ Below w.heap.size w w' := by
  have HG := Fact.mk hg
  clear hg
  have nh := nil_held
  go_enter Tryd.func5, Tryd.ntmps5
  go_wp2_with (go_at_call 18; fail)
  refine (Awake_calls w HG.out).mono ?_
  rintro ev w1 ⟨rfl, hb⟩
  have HB1 := Fact.mk hb
  clear hb
  by_cases hc : code = 0
  · subst hc
    go_wp2_with (go_at_call 22; fail)
    refine (Of_zero w1).mono ?_
    rintro ev w2 ⟨rfl, rfl⟩
    go_wp2_with (go_at_call 23; fail)
    refine (At_nil w2 s n).mono ?_
    rintro ev w3 ⟨rfl, rfl⟩
    go_wp2_with (go_at_call 19; fail)
    refine (Code_nil w3).mono ?_
    rintro ev w4 ⟨rfl, hb⟩
    have HB4 : Fact (Below w.heap.size w w4) := ⟨HB1.out.trans (hb.mono HB1.out.size)⟩
    clear hb
    go_wp2_with fail
    go_ret
    exact ⟨rfl, HB4.out⟩
  · have kc : (code == 0) = false := by simpa using hc
    have HC := Fact.mk hc
    clear hc
    go_wp2_with (go_at_call 22; fail)
    refine (Of_calls w1 code HC.out).mono ?_
    rintro ev w2 ⟨rfl, rfl⟩
    generalize hve : vOf (.num code) = ve
    have HVE := Fact.mk hve
    have en := eql_nil (.num code)
    have gn := guard_nil (.num code)
    rw [hve] at en gn
    clear hve
    go_wp2_with (go_at_call 23; fail)
    refine (At_nil w2 s n).mono ?_
    rintro ev w3 ⟨rfl, rfl⟩
    go_wp2_with (go_at_call 19; fail)
    rw [← HVE.out]
    refine (Code_calls w3 0 (.num code) trivial (HG.out.below HB1.out HG.out.lt) (Nat.zero_le _)).mono ?_
    rintro ev w4 ⟨rfl, hb⟩
    rw [show codeL (.num code) = code from rfl]
    have HB4 : Fact (Below w.heap.size w w4) := ⟨HB1.out.trans (hb.mono HB1.out.size)⟩
    clear hb
    go_wp2_with fail
    go_ret
    exact ⟨rfl, HB4.out⟩
set_option maxHeartbeats 4000000 in
set_option maxRecDepth 100000 in
theorem FaultCodes_calls (w : World) (hg : Laid w) (F : Nat → Prop) (A : Option Addr) (n c : Nat) (l : List (ByteArray × Int64 × Bool)) (h : Sl rPl w F A n c l) (hF : ∀ k, F k → k < w.heap.size) (code : Int) : Calls Tryd.prog 3 #[.int .i64 code, .slice A n c] w fun ev w' => ev = .returned (.bool true) ∧ Below w.heap.size w w' := by
  have HG := Fact.mk hg
  have H := Fact.mk h
  have HF := Fact.mk hF
  clear hg h hF
  go_enter Tryd.func3, Tryd.ntmps3
  go_wp2_with (go_at_call 18; fail)
  refine (Awake_calls w HG.out).mono ?_
  rintro ev w1 ⟨rfl, hb⟩
  have HB1 := Fact.mk hb
  clear hb
  have main : ∀ (kc : Bool), (code == 0) = kc → True := fun _ _ => trivial
  clear main
  by_cases hc : code = 0
  · subst hc
    go_wp2_with (go_at_call 20; fail)
    refine (made_calls w1 F A n c l (H.out.move (Same.of_below HB1.out HF.out)) (fun k hk => by have := HF.out k hk; have := HB1.out.size; omega) 0).mono ?_
    rintro ev w2 ⟨e, rfl, hin, hnum, hwh, hb⟩
    have HB2 : Fact (Below w.heap.size w w2) := ⟨HB1.out.trans (hb.mono HB1.out.size)⟩
    have HCD : Fact (codeL e = 9) := ⟨by unfold codeL; rw [hnum.out]; rfl⟩
    have HIN := hin
    clear hin hnum hwh hb
    generalize hve : vOf e = ve
    have HVE := Fact.mk hve
    clear hve
    go_wp2_with (go_at_call 19; fail)
    rw [← HVE.out]
    refine (Code_calls w2 w2.heap.size e HIN.out (HG.out.below HB2.out HG.out.lt) (Nat.le_refl _)).mono ?_
    rintro ev w3 ⟨rfl, hb⟩
    rw [HCD.out]
    have HB3 : Fact (Below w.heap.size w w3) := ⟨HB2.out.trans (hb.mono HB2.out.size)⟩
    clear hb
    go_wp2_with (go_at_call 19; fail)
    refine (Code_nil w3).mono ?_
    rintro ev w4 ⟨rfl, hb⟩
    have HB4 : Fact (Below w.heap.size w w4) := ⟨HB3.out.trans (hb.mono HB3.out.size)⟩
    clear hb
    go_wp2_with fail
    go_ret
    exact ⟨rfl, HB4.out⟩
  · have kc : (code == 0) = false := by simpa using hc
    have HBS : Fact (baseL code = some code) := ⟨by unfold baseL; rw [if_neg hc]⟩
    clear hc
    go_wp2_with (go_at_call 20; fail)
    refine (made_calls w1 F A n c l (H.out.move (Same.of_below HB1.out HF.out)) (fun k hk => by have := HF.out k hk; have := HB1.out.size; omega) code).mono ?_
    rintro ev w2 ⟨e, rfl, hin, hnum, hwh, hb⟩
    have HB2 : Fact (Below w.heap.size w w2) := ⟨HB1.out.trans (hb.mono HB1.out.size)⟩
    have HCD : Fact (codeL e = code) := ⟨by unfold codeL; rw [hnum.out, HBS.out]; rfl⟩
    have HIN := hin
    clear hin hnum hwh hb
    generalize hve : vOf e = ve
    have HVE := Fact.mk hve
    clear hve
    go_wp2_with (go_at_call 19; fail)
    rw [← HVE.out]
    refine (Code_calls w2 w2.heap.size e HIN.out (HG.out.below HB2.out HG.out.lt) (Nat.le_refl _)).mono ?_
    rintro ev w3 ⟨rfl, hb⟩
    rw [HCD.out]
    have HB3 : Fact (Below w.heap.size w w3) := ⟨HB2.out.trans (hb.mono HB2.out.size)⟩
    clear hb
    go_wp2_with (go_at_call 19; fail)
    refine (Code_nil w3).mono ?_
    rintro ev w4 ⟨rfl, hb⟩
    have HB4 : Fact (Below w.heap.size w w4) := ⟨HB3.out.trans (hb.mono HB3.out.size)⟩
    clear hb
    go_wp2_with fail
    go_ret
    exact ⟨rfl, HB4.out⟩
end Go.Proofs.YtkmcjokoinoahaaDoor.LawFNone
