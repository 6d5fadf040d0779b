/- A region that draws its order, where more than one operation that turns the world may be ready: a plan with a branch for each. Over any program. -/
import Derived.Test.YtkmcjokoinoahaaDoorMBase
set_option linter.unusedVariables false
set_option linter.unusedSimpArgs false
namespace Go.Proofs.YtkmcjokoinoahaaDoor.RegC
open Go.RowKit Go.Proofs.YtkmcjokoinoahaaDoor.Lib Go.Proofs.YtkmcjokoinoahaaDoor.Reg
/-- In which order the operations are taken: one that only tells first; of those that turn the world a branch each. -/
inductive Plan where
  | done : Plan
  | tell (i : Nat) (r : Plan) : Plan
  | one (i : Nat) (r : Plan) : Plan
  | two (i : Nat) (p : Plan) (j : Nat) (q : Plan) : Plan
def okPlan (md : Region.Mode) (ops : Array Oper) : Nat → Plan → Array Bool → Bool
  | 0, .done, listed => (Region.ready md ops listed).isEmpty
  | n + 1, .tell i r, listed => (Region.ready md ops listed).contains i && Region.free md ops listed i && okPlan md ops n r (listed.setIfInBounds i true)
  | n + 1, .one i r, listed => (Region.ready md ops listed) == [i] && okPlan md ops n r (listed.setIfInBounds i true)
  | n + 1, .two i p j q, listed => (Region.ready md ops listed) == [i, j] && okPlan md ops n p (listed.setIfInBounds i true) && okPlan md ops n q (listed.setIfInBounds j true)
  | _, _, _ => false
section
variable {P : Program} {ops : Array Oper} {Q : Exit → Act → World → Prop} {md : Region.Mode} {S : World → Prop}
/-- One that turns the world, then K. -/
def Turn (P : Program) (ops : Array Oper) (S : World → Prop) (Q : Exit → Act → World → Prop) (i : Nat) (K : Act → World → Prop) (a : Act) (w : World) : Prop :=
  ∀ o, ops[i]? = some o → if Region.wanted o (yielded ops a.tmps) then o.wp P a w (fun a' w' => S w' ∧ K a' w') Q else K (a.put o.dst undef) w
def wpPlan (P : Program) (ops : Array Oper) (S : World → Prop) (Q : Exit → Act → World → Prop) : Plan → Act → World → Prop
  | .done, a, w => Q .normal a w
  | .tell i r, a, w => ∀ o, ops[i]? = some o → ∃ v, YieldsS P ops S o v a ∧ wpPlan P ops S Q r (a.put o.dst v) w
  | .one i r, a, w => Turn P ops S Q i (wpPlan P ops S Q r) a w
  | .two i p j q, a, w => Turn P ops S Q i (wpPlan P ops S Q p) a w ∧ Turn P ops S Q j (wpPlan P ops S Q q) a w
theorem Turn.wpOp {i : Nat} {K K' : Act → World → Prop} {a : Act} {w : World} {o : Oper} (ho : ops[i]? = some o) (hw : S w) (h : Turn P ops S Q i K a w) (hk : ∀ a w, S w → K a w → K' a w) : wpOp P ops Q i K' a w := by
  unfold Go.wpOp
  simp only [ho]
  have h := h o ho
  split
  · rename_i hwt
    rw [if_pos hwt] at h
    exact .inl (Oper.wp_mono (fun a' w' hh => hk a' w' hh.1 hh.2) h)
  · rename_i hwt
    rw [if_neg hwt] at h
    exact hk _ _ hw h
theorem wpAnyS_of_plan (hs : Region.noSelect ops = true) (hQ : ∀ c (a : Act) (d : Option Tmp) v w, Q (.panic c) (a.put d v) w → Q (.panic c) a w) : ∀ (n : Nat) (p : Plan) (listed : Array Bool) (a : Act) (w : World), okPlan md ops n p listed = true → S w → wpPlan P ops S Q p a w → Reg.wpAnyS P md ops S Q n listed a w := by
  intro n
  induction n with
  | zero =>
    intro p listed a w hok hw h
    match p, hok, h with
    | .done, hok, h => exact ⟨hw, by simpa [okPlan] using hok, h⟩
  | succ n ih =>
    intro p listed a w hok hw h
    match p, hok, h with
    | .tell i r, hok, h =>
      simp only [okPlan, Bool.and_eq_true] at hok
      obtain ⟨⟨hr, hf⟩, hrest⟩ := hok
      have hr' : i ∈ Region.ready md ops listed := by simpa using hr
      obtain ⟨_, o, ho, _⟩ := mem_ready.1 hr'
      obtain ⟨v, hy, h⟩ := h o ho
      exact Reg.wpAnyS_first ho (Region.noSelect_spec hs) (fun c a w => hQ c a _ v w) n listed a w (Region.free_spec ho hf) hr' hy (ih r _ _ _ hrest hw h)
    | .one i r, hok, h =>
      simp only [okPlan, Bool.and_eq_true, beq_iff_eq] at hok
      obtain ⟨hr, hrest⟩ := hok
      refine ⟨hw, fun h0 => (by rw [h0] at hr; cases hr), fun j hj => ?_⟩
      have hj' := hj
      rw [hr, List.mem_singleton] at hj'
      subst hj'
      obtain ⟨_, o, ho, _⟩ := mem_ready.1 hj
      exact Turn.wpOp ho hw h (fun a w hS hh => ih r _ a w hrest hS hh)
    | .two i p j q, hok, h =>
      simp only [okPlan, Bool.and_eq_true, beq_iff_eq] at hok
      obtain ⟨⟨hr, hp⟩, hq⟩ := hok
      obtain ⟨h1, h2⟩ := h
      refine ⟨hw, fun h0 => (by rw [h0] at hr; cases hr), fun k hj => ?_⟩
      have hj' := hj
      rw [hr] at hj'
      simp only [List.mem_cons, List.not_mem_nil, or_false] at hj'
      obtain ⟨_, o, ho, _⟩ := mem_ready.1 hj
      rcases hj' with rfl | rfl
      · exact Turn.wpOp ho hw h1 (fun a w hS hh => ih p _ a w hp hS hh)
      · exact Turn.wpOp ho hw h2 (fun a w hS hh => ih q _ a w hq hS hh)
/-- A region that draws its order, walked by a plan. -/
theorem wp_region_P {id : Nat} {a : Act} {w : World} (S : World → Prop) (p : Plan) (hm : P.follows .mixedOrders = true) (hs : Region.noSelect ops = true) (hok : okPlan .any ops ops.size p (Array.replicate ops.size false) = true)
    (hQ : ∀ c (a : Act) (d : Option Tmp) v w, Q (.panic c) (a.put d v) w → Q (.panic c) a w) (hw : S w.drew) (h : wpPlan P ops S Q p a w.drew) : (Code.region id ops true).wp P Q a w := by
  refine wp_region_any hm ?_
  exact (wpAnyS_of_plan (md := .any) hs hQ ops.size p (Array.replicate ops.size false) a w.drew hok hw h).any
theorem plan_tell {i : Nat} {r : Plan} {o : Oper} {a : Act} {w : World} {v : Value} (ho : ops[i]? = some o) (hg : o.guard = none) (hv : ∀ w, S w → (execOp a.eval o).run P w = .ok (.value v) w) (h : wpPlan P ops S Q r (a.put o.dst v) w) : wpPlan P ops S Q (.tell i r) a w := by
  intro o' ho'
  obtain rfl := Option.some.inj (ho.symm.trans ho')
  exact ⟨v, .inl ⟨by simp [Region.wanted, hg], hv⟩, h⟩
theorem turn_do {i : Nat} {K : Act → World → Prop} {o : Oper} {a : Act} {w w' : World} {v : Value} (ho : ops[i]? = some o) (hg : o.guard = none) (hv : (execOp a.eval o).run P w = .ok (.value v) w') (hS : S w') (h : K (a.put o.dst v) w') : Turn P ops S Q i K a w := by
  intro o' ho'
  obtain rfl := Option.some.inj (ho.symm.trans ho')
  have hw : Region.wanted o (yielded ops a.tmps) = true := by simp [Region.wanted, hg]
  rw [if_pos hw]
  unfold Oper.wp
  rw [hv]
  exact ⟨hS, h⟩
/-- One that turns the world and tells nothing. -/
theorem turn_mute {i : Nat} {K : Act → World → Prop} {o : Oper} {a : Act} {w w' : World} (ho : ops[i]? = some o) (hg : o.guard = none) (hv : (execOp a.eval o).run P w = .ok .skip w') (hS : S w') (h : K (a.put o.dst undef) w') : Turn P ops S Q i K a w := by
  intro o' ho'
  obtain rfl := Option.some.inj (ho.symm.trans ho')
  have hw : Region.wanted o (yielded ops a.tmps) = true := by simp [Region.wanted, hg]
  rw [if_pos hw]
  unfold Oper.wp
  rw [hv]
  exact ⟨hS, h⟩
theorem turn_call {i : Nat} {K : Act → World → Prop} {o : Oper} {a : Act} {w : World} {f : FuncId} {fn : Func} {ars : Array Operand} {ts : Array TypeId} (ho : ops[i]? = some o) (hg : o.guard = none) (hop : o.op = .call { callee := .value (.func f), args := ars, argTypes := ts })
    (hf : P.funcs[f]? = some fn) (hname : (fn.name == "runtime.NumGoroutine") = false) (hb : fn.body.isSome = true) {args : Array Value} (hargs : ars.map a.eval = args)
    (h : Calls P f args w fun e w' => ∃ v, e = .returned v ∧ S w' ∧ K (a.put o.dst v) w') : Turn P ops S Q i K a w := by
  intro o' ho'
  obtain rfl := Option.some.inj (ho.symm.trans ho')
  have hw : Region.wanted o (yielded ops a.tmps) = true := by simp [Region.wanted, hg]
  rw [if_pos hw]
  have hrun : (execOp a.eval o).run P w = .ok (.enter f args) w := by
    have h1 : fn.name ≠ "runtime.NumGoroutine" := by simpa using hname
    obtain ⟨c, hc⟩ := Option.isSome_iff_exists.1 hb
    have henter : (callFunc f args).run P w = .ok (.enter f args) w := by simp [callFunc, hf, h1, hc]
    unfold execOp
    simp [hop, resolve, Deferred.ofValue, invoke, Act.eval, hargs, henter]
  unfold Oper.wp
  rw [hrun, Oper.upon_enter]
  refine h.mono ?_
  rintro e w' ⟨v, rfl, hS, hh⟩
  exact ⟨hS, hh⟩
end
end Go.Proofs.YtkmcjokoinoahaaDoor.RegC
