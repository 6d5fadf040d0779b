/- fault.Code, fault.At, fault.Of, errors.New: contracts over any world. -/
import Derived.Test.YtkmcjokoinoahaaDoorFaultC
set_option linter.unusedVariables false
set_option linter.unusedSimpArgs false
namespace Go.Proofs.YtkmcjokoinoahaaDoor.FaultD
open Go.RowKit Go.Extern.Stop Go.Stop Go.Extern Go.Proofs.YtkmcjokoinoahaaDoor.Lib Go.Proofs.YtkmcjokoinoahaaDoor.FaultA Go.Proofs.YtkmcjokoinoahaaDoor.FaultA2 Go.Proofs.YtkmcjokoinoahaaDoor.FaultB Go.Proofs.YtkmcjokoinoahaaDoor.FaultC
/-- An error's number; 9 of none. -/
def codeL (e : Ch) : Int := (numL e).getD 9
set_option maxHeartbeats 2000000 in
set_option maxRecDepth 100000 in
theorem Code_calls (w : World) (B : Nat) (e : Ch) (hin : In w B e) (hg : Laid w) (hB : B ≤ w.heap.size) : Calls Tryd.prog 19 #[vOf e] w fun ev w' => ev = .returned (.int .i64 (codeL e)) ∧ Below w.heap.size w w' := by
  have en := eql_nil e
  have gn := guard_nil e
  have HI : Fact (In (w.alloc (.cells #[.int .i64 0] 24)) B e) := ⟨hin.move (fun k hk => Below.heap_alloc _ _ _ (by omega))⟩
  have HL : Fact (Laid (w.alloc (.cells #[.int .i64 0] 24))) := ⟨hg.below ((Below.refl w.heap.size w).alloc (Nat.le_refl _) _) hg.lt⟩
  have HBS := Fact.mk hB
  clear hin hg hB
  generalize hve : vOf e = ve at en gn ⊢
  have HVE := Fact.mk hve
  clear hve
  go_enter Tryd.func19, Tryd.ntmps19
  go_wp2_with (go_at_call 24; fail)
  rw [← HVE.out]
  refine (AsE_calls _ B e HI.out w.heap.size (.int .i64 0) (by simp) (by simp) HL.out (by have := HBS.out; simp; omega)).mono ?_
  rintro ev w2 ⟨ha, hfz, hbt⟩
  have HBL : Fact (Below w.heap.size w w2) := ⟨((Below.refl w.heap.size w).alloc (Nat.le_refl _) _).trans ⟨hbt.out.2.1, hbt.out.2.2.1, hbt.out.2.2.2.1, hbt.out.1, fun k hk => hbt.out.2.2.2.2 k (by simp; omega) (by omega)⟩⟩
  unfold AnsE at ha
  cases hn : numL e with
  | none =>
    rw [hn] at ha
    obtain ⟨rfl, hc⟩ := ha
    have HC : Fact (codeL e = 9) := ⟨by unfold codeL; rw [hn]; rfl⟩
    clear hc hbt hfz hn
    go_wp2_with fail
    go_ret
    exact ⟨by rw [HC.out]; rfl, HBL.out⟩
  | some c =>
    rw [hn] at ha
    obtain ⟨rfl, hc⟩ := ha
    have HC : Fact (codeL e = c) := ⟨by unfold codeL; rw [hn]; rfl⟩
    have hc' := hc.out
    clear hc hbt hfz hn
    go_wp2_with fail
    go_ret
    exact ⟨by rw [HC.out]; rfl, HBL.out⟩
theorem Code_nil (w : World) : Calls Tryd.prog 19 #[.nilIface] w fun ev w' => ev = .returned (.int .i64 0) ∧ Below w.heap.size w w' := by
  go_enter Tryd.func19, Tryd.ntmps19
  go_wp2_with fail
  go_ret
  exact ⟨rfl, (Below.refl _ _).alloc (Nat.le_refl _) _⟩
theorem At_nil (w : World) (s : ByteArray) (n : Int) : Calls Tryd.prog 23 #[.string s, .int .i64 n, .nilIface] w fun ev w' => ev = .returned .nilIface ∧ w' = w := by
  go_enter Tryd.func23, Tryd.ntmps23
  go_wp2_with fail
  go_ret
  exact ⟨rfl, rfl⟩
set_option maxHeartbeats 1000000 in
theorem At_calls (w : World) (B : Nat) (s : ByteArray) (n : Int) (e : Ch) (hin : In w B e) (hB : B ≤ w.heap.size) : Calls Tryd.prog 23 #[.string s, .int .i64 n, vOf e] w fun ev w' => ev = .returned (vOf (.step w.heap.size s n e)) ∧ Fact (In w' (w.heap.size + 1) (.step w.heap.size s n e)) ∧ w' = w.alloc (.cells #[.string s, .int .i64 n, vOf e] 43) := by
  have en := eql_nil e
  have gn := guard_nil e
  have HI : Fact (In (w.alloc (.cells #[.string s, .int .i64 n, vOf e] 43)) (w.heap.size + 1) (.step w.heap.size s n e)) := ⟨⟨Nat.lt_succ_self _, by simp, by simp, by simp, In.mono (by omega) (hin.move (fun k hk => Below.heap_alloc _ _ _ (by omega)))⟩⟩
  generalize hve : vOf e = ve at en gn ⊢
  have HVE := Fact.mk hve
  clear hve hin
  obtain ⟨t, v, hv⟩ := vOf_iface e
  rw [HVE.out] at hv HI
  subst hv
  go_enter Tryd.func23, Tryd.ntmps23
  go_wp2_with fail
  go_ret
  exact ⟨rfl, HI, rfl⟩
theorem Of_zero (w : World) : Calls Tryd.prog 22 #[.int .i64 0] w fun ev w' => ev = .returned .nilIface ∧ w' = w := by
  go_enter Tryd.func22, Tryd.ntmps22
  go_wp2_with fail
  go_ret
  exact ⟨rfl, rfl⟩
theorem Of_calls (w : World) (c : Int) (h : c ≠ 0) : Calls Tryd.prog 22 #[.int .i64 c] w fun ev w' => ev = .returned (vOf (.num c)) ∧ w' = w := by
  have k : (c == 0) = false := by simpa using h
  go_enter Tryd.func22, Tryd.ntmps22
  go_wp2_with fail
  go_ret
  exact ⟨rfl, rfl⟩
theorem New_calls (w : World) (s : ByteArray) : Calls Tryd.prog 59 #[.string s] w fun ev w' => ev = .returned (vOf (.plain w.heap.size)) ∧ w' = w.alloc (.cells #[.string s] 146) := by
  go_enter Tryd.func59, Tryd.ntmps59
  go_wp2_with fail
  go_ret
  exact ⟨rfl, rfl⟩
end Go.Proofs.YtkmcjokoinoahaaDoor.FaultD
