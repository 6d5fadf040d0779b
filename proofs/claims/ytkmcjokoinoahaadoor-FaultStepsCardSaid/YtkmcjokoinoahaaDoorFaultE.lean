/- errors.Is over any chain; fault.Is: contracts over any world. -/
import Derived.Test.YtkmcjokoinoahaaDoorFaultC
set_option linter.unusedVariables false
set_option linter.unusedSimpArgs false
namespace Go.Proofs.YtkmcjokoinoahaaDoor.FaultE
open Go.RowKit Go.Extern.Stop Go.Stop Go.Extern Go.Proofs.YtkmcjokoinoahaaDoor.Lib Go.Proofs.YtkmcjokoinoahaaDoor.FaultA Go.Proofs.YtkmcjokoinoahaaDoor.FaultA2 Go.Proofs.YtkmcjokoinoahaaDoor.FaultB Go.Proofs.YtkmcjokoinoahaaDoor.FaultC
def isL (t : Int) (e : Ch) : Bool := numL e == some t
theorem eql_num (c t : Int) (w : World) : (binOp .eql 27 (.iface 24 (.int .i64 c)) (.iface 24 (.int .i64 t))).run Tryd.prog w = .ok (.bool (c == t)) w := by
  have hu := Tryd.underlying27
  have h2 := Tryd.underlying24
  obtain ⟨i, hi, hc⟩ : ∃ i, Tryd.prog.info? 24 = some i ∧ i.comparable = true := by
    have h : (Tryd.prog.info? 24).map (·.comparable) = some true := by kernel_rfl
    obtain ⟨i, h1, h2⟩ := Option.map_eq_some_iff.1 h
    exact ⟨i, h1, h2⟩
  have h : ∀ d : Nat, (Op.equalIn (d + 2) 27 (.iface 24 (.int .i64 c)) (.iface 24 (.int .i64 t))).run Tryd.prog w = .ok (c == t) w := fun d => by
    simp [Op.equalIn, run_underlying hu, run_underlying h2, typeInfo, hi, hc]
  simp only [binOp]
  simp [Op.equal, Op.maxDepth, h 9998]
theorem eql_oth {T : TypeId} (hT : T ≠ 24) (v : Value) (t : Int) (w : World) : (binOp .eql 27 (.iface T v) (.iface 24 (.int .i64 t))).run Tryd.prog w = .ok (.bool false) w :=
  run_eql_iface_types _ _ _ _ Tryd.underlying27 hT w
theorem guard_if (T U : TypeId) (v u : Value) (t : TypeId) (x y : Operand) : eqGuard .eql t x y (.iface T v) (.iface U u) = pure () := rfl
set_option maxHeartbeats 8000000 in
set_option maxRecDepth 100000 in
theorem is_calls (w : World) (B : Nat) (e : Ch) (hin : In w B e) (t : Int) (hB : B ≤ w.heap.size) :
    Calls Tryd.prog 65 #[vOf e, .iface 24 (.int .i64 t), .bool true] w fun ev w' => ev = .returned (.bool (isL t e)) ∧ Below w.heap.size w w' := by
  have HBS := Fact.mk hB
  have HIN := Fact.mk hin
  have HB0 := Fact.mk (Below.refl w.heap.size w)
  clear hin hB
  have gi := guard_if
  go_enter Tryd.func65, Tryd.ntmps65
  go_wp2_with fail
  go_loopg [0] (deep e) (fun kq s wr => ∃ e' : Ch, s = vOf e' ∧ Fact (deep e' = kq) ∧ Fact (In wr B e') ∧ Fact (numL e' = numL e) ∧ Fact (Below w.heap.size w wr))
  case atStart => exact ⟨e, rfl, ⟨rfl⟩, HIN, ⟨rfl⟩, HB0⟩
  case round =>
    obtain ⟨e', rfl, HD, HI, HN, HB⟩ := hrel
    cases e' with
    | num c =>
      unfold vOf
      have nA := noIsE
      have uw := unwE
      have ul := unlE
      by_cases hc : c = t
      · have eq := eql_num c t wr
        have k : (c == t) = true := by simpa using hc
        rw [k] at eq
        have HR : Fact (isL t e = true) := ⟨by unfold isL; rw [← HN.out]; simp [numL, hc]⟩
        clear hc k
        go_wp2_with fail
        go_ret
        exact ⟨by rw [HR.out]; rfl, HB.out⟩
      · have eq := eql_num c t wr
        have k : (c == t) = false := by simpa using hc
        rw [k] at eq
        have HR : Fact (isL t e = false) := ⟨by unfold isL; rw [← HN.out]; simp [numL, hc]⟩
        clear hc k
        go_wp2_with fail
        go_ret
        exact ⟨by rw [HR.out]; rfl, HB.out⟩
    | plain b =>
      unfold vOf
      have nA := noIsP
      have uw := unwP
      have ul := unlP
      have eq := eql_oth (T := 144) (by decide) (.pointer (some ⟨b, 0, none⟩)) t wr
      have HR : Fact (isL t e = false) := ⟨by unfold isL; rw [← HN.out]; simp [numL]⟩
      go_wp2_with fail
      go_ret
      exact ⟨by rw [HR.out]; rfl, HB.out⟩
    | step b wh n e1 =>
      unfold vOf
      have nA := noIsS
      have uw := unwS
      have mU := mUnwS
      have en := eql_nil e1
      have gn := guard_nil e1
      have eq := eql_oth (T := 37) (by decide) (.pointer (some ⟨b, 0, none⟩)) t wr
      go_wp2_with (go_at_call 137; fail)
      refine (UnwS_calls wr b (vOf e1) HI.out.2.2.2.1).mono ?_
      rintro ev w2 ⟨rfl, rfl⟩
      go_wp2_with fail
      go_roundg (deep e1)
      case measure => have := HD.out; unfold deep at this; omega
      case rel => exact ⟨e1, rfl, ⟨rfl⟩, ⟨HI.out.2.2.2.2⟩, ⟨by rw [← HN.out]; rfl⟩, HB⟩
    | oth e1 =>
      unfold vOf
      have nA := noIsO
      have uw := unwO
      have mU := mUnwO
      have en := eql_nil e1
      have gn := guard_nil e1
      have eq := eql_oth (T := 40) (by decide) (.agg #[vOf e1]) t wr
      go_wp2_with (go_at_call 139; fail)
      refine (UnwO_calls wr (vOf e1)).mono ?_
      rintro ev w2 ⟨rfl, hb⟩
      have HB2 : Fact (Below w.heap.size w w2) := ⟨HB.out.trans (hb.mono HB.out.size)⟩
      have HI2 : Fact (In w2 B e1) := ⟨In.move (show In wr B e1 from HI.out) (fun k hk => hb.block k (by have := HBS.out; have := HB.out.size; omega))⟩
      clear hb
      go_wp2_with fail
      go_roundg (deep e1)
      case measure => have := HD.out; unfold deep at this; omega
      case rel => exact ⟨e1, rfl, ⟨rfl⟩, HI2, ⟨by rw [← HN.out]; rfl⟩, HB2⟩
theorem compE' (w : World) : (ReflectliteType.method (fun t => do Rtype.noPackHeld "Comparable" t; (fun a : TypeInfo => Value.bool a.comparable) <$> typeInfo t) #[.agg #[.pointer (some ⟨4, 24, none⟩)]]).run Tryd.prog w = .ok (.bool true) w := by kernel_rfl
theorem nil_held (T : TypeId) (v : Value) (w : World) : (binOp .eql 27 (.iface T v) .nilIface).run Tryd.prog w = .ok (.bool false) w := by
  have hu := Tryd.underlying27
  have h : ∀ d : Nat, (Op.equalIn (d + 1) 27 (.iface T v) .nilIface).run Tryd.prog w = .ok false w := fun d => by simp [Op.equalIn, run_underlying hu]
  simp only [binOp]
  simp [Op.equal, Op.maxDepth, h 9999]
set_option maxHeartbeats 8000000 in
set_option maxRecDepth 100000 in
theorem EIs_calls (w : World) (B : Nat) (e : Ch) (hin : In w B e) (t : Int) (hB : B ≤ w.heap.size) :
    Calls Tryd.prog 28 #[vOf e, .iface 24 (.int .i64 t)] w fun ev w' => ev = .returned (.bool (isL t e)) ∧ Below w.heap.size w w' := by
  have h64 := ext64
  have hC := extComp
  have mC := mComp
  have cE := compE'
  have tO := typeOfE
  have en := eql_nil e
  have gn := guard_nil e
  have nh := nil_held
  have HI := Fact.mk hin
  have HBS := Fact.mk hB
  clear hin hB
  generalize hve : vOf e = ve at en gn ⊢
  have HVE := Fact.mk hve
  clear hve
  go_enter Tryd.func28, Tryd.ntmps28
  go_wp2_with (go_at_call 65; fail)
  rw [← HVE.out]
  refine (is_calls w B e HI.out t HBS.out).mono ?_
  rintro ev w2 ⟨rfl, hb⟩
  have HB := Fact.mk hb
  clear hb
  go_wp2_with fail
  go_ret
  exact ⟨rfl, HB.out⟩
theorem EIs_nil (w : World) (t : Int) : Calls Tryd.prog 28 #[.nilIface, .iface 24 (.int .i64 t)] w fun ev w' => ev = .returned (.bool false) ∧ w' = w := by
  have nh := nil_held
  have hr := run_eql_iface_nil_left (P := Tryd.prog) (w := w) 24 (.int .i64 t) Tryd.underlying27
  go_enter Tryd.func28, Tryd.ntmps28
  go_wp2_with fail
  go_ret
  exact ⟨rfl, rfl⟩
theorem FIs_calls (w : World) (B : Nat) (e : Ch) (hin : In w B e) (t : Int) (hB : B ≤ w.heap.size) :
    Calls Tryd.prog 27 #[vOf e, .int .i64 t] w fun ev w' => ev = .returned (.bool (isL t e)) ∧ Below w.heap.size w w' := by
  have HI := Fact.mk hin
  have HBS := Fact.mk hB
  clear hin hB
  generalize hve : vOf e = ve
  have HVE := Fact.mk hve
  clear hve
  go_enter Tryd.func27, Tryd.ntmps27
  go_wp2_with (go_at_call 28; fail)
  rw [← HVE.out]
  refine (EIs_calls w B e HI.out t HBS.out).mono ?_
  rintro ev w2 ⟨rfl, hb⟩
  have HB := Fact.mk hb
  clear hb
  go_wp2_with fail
  go_ret
  exact ⟨rfl, HB.out⟩
theorem FIs_nil (w : World) (t : Int) : Calls Tryd.prog 27 #[.nilIface, .int .i64 t] w fun ev w' => ev = .returned (.bool false) ∧ w' = w := by
  go_enter Tryd.func27, Tryd.ntmps27
  go_wp2_with (go_at_call 28; fail)
  refine (EIs_nil w t).mono ?_
  rintro ev w2 ⟨rfl, rfl⟩
  go_wp2_with fail
  go_ret
  exact ⟨rfl, rfl⟩
end Go.Proofs.YtkmcjokoinoahaaDoor.FaultE
