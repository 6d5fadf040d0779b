/- A region that draws its order whose last operation turns what the others read (it stands behind all of them): a plan for the others, then the last. Over any program. -/
import Derived.Test.YtkmcjokoinoahaaDoorRegC
set_option linter.unusedVariables false
set_option linter.unusedSimpArgs false
namespace Go.Proofs.YtkmcjokoinoahaaDoor.RegD
open Go.RowKit Go.Proofs.YtkmcjokoinoahaaDoor.Lib Go.Proofs.YtkmcjokoinoahaaDoor.Reg Go.Proofs.YtkmcjokoinoahaaDoor.RegC
section
variable {P : Program} {ops : Array Oper} {Q : Exit → Act → World → Prop} {md : Region.Mode} {S : World → Prop}
/-- All that k stands behind is listed. -/
def Deps (md : Region.Mode) (ops : Array Oper) (listed : Array Bool) (k : Nat) : Prop := ∀ o, ops[k]? = some o → ∀ e ∈ o.after, Region.binds md e = true → listed.getD e.on false = true
def Closed (md : Region.Mode) (ops : Array Oper) (listed : Array Bool) : Prop := ∀ k, listed.getD k false = true → Deps md ops listed k
theorem closed_none (n : Nat) : Closed md ops (Array.replicate n false) := by
  intro k hk
  simp only [Array.getD_eq_getD_getElem?, Array.getElem?_replicate] at hk
  split at hk <;> cases hk
theorem Deps.more {listed : Array Bool} {k i : Nat} (h : Deps md ops listed k) : Deps md ops (listed.setIfInBounds i true) k := fun o ho e he hb => getD_set_true (h o ho e he hb)
theorem deps_ready {listed : Array Bool} {i : Nat} (h : i ∈ Region.ready md ops listed) : Deps md ops listed i := by
  obtain ⟨_, o, ho, hall⟩ := mem_ready.1 h
  intro o' ho'
  obtain rfl := Option.some.inj (ho.symm.trans ho')
  exact hall
theorem Closed.step {listed : Array Bool} {i : Nat} (h : Closed md ops listed) (hi : i ∈ Region.ready md ops listed) : Closed md ops (listed.setIfInBounds i true) := by
  intro k hk
  by_cases hki : i = k
  · subst hki
    exact (deps_ready hi).more
  · rw [getD_set_ne false hki] at hk
    exact (h k hk).more
/-- Each of 'todo' stands ahead of one of those that are known. -/
def cov (md : Region.Mode) (ops : Array Oper) : List Nat → List Nat → Bool
  | _, [] => true
  | known, j :: todo => (known.any fun k => match ops[k]? with | some o => o.after.any (fun e => Region.binds md e && e.on == j) | none => false) && cov md ops (j :: known) todo
theorem cov_listed {listed : Array Bool} (hc : Closed md ops listed) : ∀ (todo known : List Nat), cov md ops known todo = true → (∀ k ∈ known, Deps md ops listed k) → ∀ j ∈ todo, listed.getD j false = true
  | [], _, _, _, j, hj => by cases hj
  | i :: todo, known, h, hk, j, hj => by
    simp only [cov, Bool.and_eq_true] at h
    obtain ⟨h1, h2⟩ := h
    obtain ⟨k, hkm, hk1⟩ := List.any_eq_true.1 h1
    have hi : listed.getD i false = true := by
      cases ho : ops[k]? with
      | none => simp [ho] at hk1
      | some o =>
        simp only [ho] at hk1
        obtain ⟨e, he, hb⟩ := Array.any_eq_true'.1 hk1
        simp only [Bool.and_eq_true, beq_iff_eq] at hb
        have := hk k hkm o ho e he hb.1
        rwa [hb.2] at this
    rcases List.mem_cons.1 hj with rfl | hj
    · exact hi
    · exact cov_listed hc todo (i :: known) h2 (fun k hkk => by
        rcases List.mem_cons.1 hkk with rfl | hkk
        · exact hc _ hi
        · exact hk k hkk) j hj
/-- Whatever the order; each world ahead of L is one of S. -/
def wpAnyT (P : Program) (md : Region.Mode) (ops : Array Oper) (S : World → Prop) (L : Nat) (Q : Exit → Act → World → Prop) : Nat → Array Bool → Act → World → Prop
  | 0, listed, a, w => (listed.getD L true = false → S w) ∧ Region.ready md ops listed = [] ∧ Q .normal a w
  | fuel + 1, listed, a, w => (listed.getD L true = false → S w) ∧ (Region.ready md ops listed = [] → Q .normal a w) ∧ ∀ i ∈ Region.ready md ops listed, wpOp P ops Q i (wpAnyT P md ops S L Q fuel (listed.setIfInBounds i true)) a w
theorem wpAnyT.any {L : Nat} : ∀ (fuel : Nat) (listed : Array Bool) (a : Act) (w : World), wpAnyT P md ops S L Q fuel listed a w → wpAny P md ops Q fuel listed a w
  | 0, _, _, _, h => h.2
  | fuel + 1, listed, _, _, h => ⟨h.2.1, fun i hi => wpOp_mono (fun a w => wpAnyT.any fuel (listed.setIfInBounds i true) a w) (h.2.2 i hi)⟩
theorem wpAnyT.here {L fuel : Nat} {listed : Array Bool} {a : Act} {w : World} (h : wpAnyT P md ops S L Q fuel listed a w) : listed.getD L true = false → S w := by
  cases fuel <;> exact h.1
theorem wpAnyT_first {L i : Nat} {oi : Oper} {v : Value} (hi : ops[i]? = some oi) (hsel : ∀ (j : Nat) (o : Oper) cs b, ops[j]? = some o → o.op ≠ .select cs b) (hQ : ∀ c a w, Q (.panic c) (a.put oi.dst v) w → Q (.panic c) a w) (hL : L ≠ i)
    (hcov : ∀ listed, Closed md ops listed → L ∈ Region.ready md ops listed → ∀ k, k ≠ L → k < ops.size → listed.getD k false = true) :
    ∀ (fuel : Nat) (listed : Array Bool) (a : Act) (w : World),
      (∀ j oj, ops[j]? = some oj → j ≠ i → listed.getD j true = false → (∀ e ∈ oj.after, Region.binds md e = true → e.on ≠ i) → oi.apart ops oj = true) →
      listed.getD L true = false → Closed md ops listed →
      i ∈ Region.ready md ops listed → YieldsS P ops S oi v a →
      wpAnyT P md ops S L Q fuel (listed.setIfInBounds i true) (a.put oi.dst v) w → wpAnyT P md ops S L Q (fuel + 1) listed a w := by
  intro fuel
  induction fuel with
  | zero =>
    intro listed a w _ hun hcl hr hy H
    have hS : S w := H.1 (by rw [getD_set_ne true hL.symm]; exact hun)
    refine ⟨fun _ => hS, fun h => (by rw [h] at hr; cases hr), fun j hj => ?_⟩
    by_cases hji : j = i
    · subst hji; exact hy.wpOp hi hS H
    · have := ready_mono hj hji
      rw [H.2.1] at this
      cases this
  | succ fuel ih =>
    intro listed a w hfree hun hcl hr hy H
    have hS : S w := H.1 (by rw [getD_set_ne true hL.symm]; exact hun)
    refine ⟨fun _ => hS, fun h => (by rw [h] at hr; cases hr), fun j hj => ?_⟩
    by_cases hji : j = i
    · subst hji; exact hy.wpOp hi hS H
    · have h1 := H.2.2 j (ready_mono hj hji)
      obtain ⟨hjun, oj, hoj, hall⟩ := mem_ready.1 hj
      have h0 := (mem_ready.1 hr).1
      have hlt : i < ops.size := (Array.getElem?_eq_some_iff.1 hi).1
      have hiu : ¬ listed.getD i false = true := by
        intro h1
        rcases Nat.lt_or_ge i listed.size with h' | h'
        · simp [h'] at h0 h1; rw [h0] at h1; cases h1
        · simp [Array.getElem?_eq_none h'] at h1
      have hjL : j ≠ L := fun h => hiu (hcov listed hcl (h ▸ hj) i hL.symm hlt)
      have hnot : ∀ e ∈ oj.after, Region.binds md e = true → e.on ≠ i := fun e he hb heq => hiu (heq ▸ hall e he hb)
      have h2 := wpOp_putS hoj (hfree j oj hoj hji hjun hnot) (fun cs b => hsel i oi cs b hi) (fun cs b => hsel j oj cs b hoj) hQ hy h1
      have hfree' : ∀ k ok, ops[k]? = some ok → k ≠ i → (listed.setIfInBounds j true).getD k true = false →
          (∀ e ∈ ok.after, Region.binds md e = true → e.on ≠ i) → oi.apart ops ok = true := fun k ok hk hki hun hno => by
        refine hfree k ok hk hki ?_ hno
        by_cases hjk : j = k
        · subst hjk; exact hjun
        · rw [getD_set_ne true hjk] at hun; exact hun
      refine wpOp_mono (fun a' w' h3 => ih (listed.setIfInBounds j true) a' w' hfree' (by rw [getD_set_ne true hjL]; exact hun) (hcl.step hj) (ready_mono hr (Ne.symm hji)) h3.1 ?_) h2
      rw [Array.setIfInBounds_comm _ _ hji]
      exact h3.2
/-- May the operations be taken so, L ars the last? -/
def okPlanD (md : Region.Mode) (ops : Array Oper) (L : Nat) : Nat → Plan → Array Bool → Bool
  | 1, .done, listed => (Region.ready md ops listed) == [L] && (Region.ready md ops (listed.setIfInBounds L true)).isEmpty
  | n + 1, .tell i r, listed => (Region.ready md ops listed).contains i && Region.free md ops listed i && L != i && okPlanD md ops L n r (listed.setIfInBounds i true)
  | n + 1, .one i r, listed => (Region.ready md ops listed) == [i] && L != i && okPlanD md ops L n r (listed.setIfInBounds i true)
  | n + 1, .two i p j q, listed => (Region.ready md ops listed) == [i, j] && L != i && L != j && okPlanD md ops L n p (listed.setIfInBounds i true) && okPlanD md ops L n q (listed.setIfInBounds j true)
  | _, _, _ => false
def wpPlanD (P : Program) (ops : Array Oper) (S : World → Prop) (Q : Exit → Act → World → Prop) (D : Act → World → Prop) : Plan → Act → World → Prop
  | .done, a, w => D a w
  | .tell i r, a, w => ∀ o, ops[i]? = some o → ∃ v, YieldsS P ops S o v a ∧ wpPlanD P ops S Q D r (a.put o.dst v) w
  | .one i r, a, w => Turn P ops S Q i (wpPlanD P ops S Q D r) a w
  | .two i p j q, a, w => Turn P ops S Q i (wpPlanD P ops S Q D p) a w ∧ Turn P ops S Q j (wpPlanD P ops S Q D q) a w
theorem wpAnyT_of_plan {L : Nat} (hs : Region.noSelect ops = true) (hQ : ∀ c (a : Act) (d : Option Tmp) v w, Q (.panic c) (a.put d v) w → Q (.panic c) a w)
    (hcov : ∀ listed, Closed md ops listed → L ∈ Region.ready md ops listed → ∀ k, k ≠ L → k < ops.size → listed.getD k false = true) :
    ∀ (n : Nat) (p : Plan) (listed : Array Bool) (a : Act) (w : World), okPlanD md ops L n p listed = true → listed.getD L true = false → Closed md ops listed → S w → wpPlanD P ops S Q (wpOp P ops Q L fun a w => Q .normal a w) p a w → wpAnyT P md ops S L Q n listed a w := by
  intro n
  induction n with
  | zero =>
    intro p listed a w hok hun hcl hw h
    cases p <;> simp [okPlanD] at hok
  | succ n ih =>
    intro p listed a w hok hun hcl hw h
    match p, hok, h with
    | .done, hok, h =>
      cases n with
      | succ n => simp [okPlanD] at hok
      | zero =>
        have hok' : ((Region.ready md ops listed) == [L] && (Region.ready md ops (listed.setIfInBounds L true)).isEmpty) = true := hok
        simp only [Bool.and_eq_true, beq_iff_eq] at hok'
        obtain ⟨hr, he⟩ := hok'
        refine ⟨fun _ => hw, fun h0 => (by rw [h0] at hr; cases hr), fun j hj => ?_⟩
        have hj' := hj
        rw [hr, List.mem_singleton] at hj'
        subst hj'
        refine wpOp_mono (fun a w hh => ⟨fun hf => ?_, by simpa using he, hh⟩) h
        exfalso
        rcases Nat.lt_or_ge j listed.size with h' | h'
        · simp [h'] at hf
        · rw [Array.getD_eq_getD_getElem?, Array.getElem?_eq_none h'] at hun
          cases hun
    | .tell i r, hok, h =>
      simp only [okPlanD, Bool.and_eq_true, bne_iff_ne] at hok
      obtain ⟨⟨⟨hr, hf⟩, hL⟩, hrest⟩ := hok
      have hr' : i ∈ Region.ready md ops listed := by simpa using hr
      obtain ⟨_, o, ho, _⟩ := mem_ready.1 hr'
      obtain ⟨v, hy, h⟩ := h o ho
      exact wpAnyT_first ho (Region.noSelect_spec hs) (fun c a w => hQ c a _ v w) hL hcov n listed a w (Region.free_spec ho hf) hun hcl hr' hy (ih r _ _ _ hrest (by rw [getD_set_ne true hL.symm]; exact hun) (hcl.step hr') hw h)
    | .one i r, hok, h =>
      simp only [okPlanD, Bool.and_eq_true, beq_iff_eq, bne_iff_ne] at hok
      obtain ⟨⟨hr, hL⟩, hrest⟩ := hok
      refine ⟨fun _ => hw, fun h0 => (by rw [h0] at hr; cases hr), fun j hj => ?_⟩
      have hj' := hj
      rw [hr, List.mem_singleton] at hj'
      subst hj'
      obtain ⟨_, o, ho, _⟩ := mem_ready.1 hj
      exact Turn.wpOp ho hw h (fun a w hS hh => ih r _ a w hrest (by rw [getD_set_ne true hL.symm]; exact hun) (hcl.step hj) hS hh)
    | .two i p j q, hok, h =>
      simp only [okPlanD, Bool.and_eq_true, beq_iff_eq, bne_iff_ne] at hok
      obtain ⟨⟨⟨⟨hr, hLi⟩, hLj⟩, hp⟩, hq⟩ := hok
      obtain ⟨h1, h2⟩ := h
      refine ⟨fun _ => hw, fun h0 => (by rw [h0] at hr; cases hr), fun k hj => ?_⟩
      have hj' := hj
      rw [hr] at hj'
      simp only [List.mem_cons, List.not_mem_nil, or_false] at hj'
      obtain ⟨_, o, ho, _⟩ := mem_ready.1 hj
      rcases hj' with rfl | rfl
      · exact Turn.wpOp ho hw h1 (fun a w hS hh => ih p _ a w hp (by rw [getD_set_ne true hLi.symm]; exact hun) (hcl.step hj) hS hh)
      · exact Turn.wpOp ho hw h2 (fun a w hS hh => ih q _ a w hq (by rw [getD_set_ne true hLj.symm]; exact hun) (hcl.step hj) hS hh)
/-- The check, in one. -/
def okLast (ops : Array Oper) (L : Nat) (c : List Nat) (p : Plan) : Bool :=
  okPlanD .any ops L ops.size p (Array.replicate ops.size false) && cov .any ops [L] c && decide (L < ops.size) && (List.range ops.size).all fun k => k == L || c.contains k
theorem wp_region_L {id : Nat} {a : Act} {w : World} (S : World → Prop) (L : Nat) (c : List Nat) (p : Plan) (hm : P.follows .mixedOrders = true) (hs : Region.noSelect ops = true) (hok : okLast ops L c p = true)
    (hQ : ∀ c (a : Act) (d : Option Tmp) v w, Q (.panic c) (a.put d v) w → Q (.panic c) a w) (hw : S w.drew) (h : wpPlanD P ops S Q (wpOp P ops Q L fun a w => Q .normal a w) p a w.drew) : (Code.region id ops true).wp P Q a w := by
  simp only [okLast, Bool.and_eq_true, decide_eq_true_eq] at hok
  obtain ⟨⟨⟨h1, h2⟩, h3⟩, h4⟩ := hok
  refine wp_region_any hm ?_
  refine (wpAnyT_of_plan (md := .any) (L := L) hs hQ ?_ ops.size p (Array.replicate ops.size false) a w.drew h1 (by simp [h3]) (closed_none _) hw h).any
  intro listed hcl hr k hk hlt
  refine cov_listed hcl c [L] h2 (fun k hk => ?_) k ?_
  · rw [List.mem_singleton] at hk
    subst hk
    exact deps_ready hr
  · have := List.all_eq_true.1 h4 k (List.mem_range.2 hlt)
    simp only [Bool.or_eq_true, beq_iff_eq] at this
    rcases this with this | this
    · exact absurd this hk
    · simpa using this
variable {D : Act → World → Prop}
theorem pd_tell {i : Nat} {r : Plan} {o : Oper} {a : Act} {w : World} {v : Value} (ho : ops[i]? = some o) (hg : o.guard = none) (hv : ∀ w, S w → (execOp a.eval o).run P w = .ok (.value v) w) (h : wpPlanD P ops S Q D r (a.put o.dst v) w) : wpPlanD P ops S Q D (.tell i r) a w := by
  intro o' ho'
  obtain rfl := Option.some.inj (ho.symm.trans ho')
  exact ⟨v, .inl ⟨by simp [Region.wanted, hg], hv⟩, h⟩
/-- The last one, a store. -/
theorem last_mute {L : Nat} {o : Oper} {a : Act} {w w' : World} (ho : ops[L]? = some o) (hg : o.guard = none) (hv : (execOp a.eval o).run P w = .ok .skip w') (h : Q .normal (a.put o.dst undef) w') : wpOp P ops Q L (fun a w => Q .normal a w) a w := by
  have hw : Region.wanted o (yielded ops a.tmps) = true := by simp [Region.wanted, hg]
  unfold wpOp
  simp only [ho]
  rw [if_pos hw]
  left
  unfold Oper.wp
  rw [hv]
  exact h
/-! guarded operations -/
theorem plan_tellG {i : Nat} {r : Plan} {o : Oper} {a : Act} {w : World} {v : Value} (ho : ops[i]? = some o) (hg : Region.wanted o (yielded ops a.tmps) = true) (hv : ∀ w, S w → (execOp a.eval o).run P w = .ok (.value v) w) (h : wpPlan P ops S Q r (a.put o.dst v) w) : wpPlan P ops S Q (.tell i r) a w := by
  intro o' ho'
  obtain rfl := Option.some.inj (ho.symm.trans ho')
  exact ⟨v, .inl ⟨hg, hv⟩, h⟩
theorem plan_skip {i : Nat} {r : Plan} {o : Oper} {a : Act} {w : World} (ho : ops[i]? = some o) (hg : Region.wanted o (yielded ops a.tmps) = false) (h : wpPlan P ops S Q r (a.put o.dst undef) w) : wpPlan P ops S Q (.tell i r) a w := by
  intro o' ho'
  obtain rfl := Option.some.inj (ho.symm.trans ho')
  exact ⟨undef, .inr ⟨hg, rfl⟩, h⟩
theorem turn_skip {i : Nat} {K : Act → World → Prop} {o : Oper} {a : Act} {w : World} (ho : ops[i]? = some o) (hg : Region.wanted o (yielded ops a.tmps) = false) (h : K (a.put o.dst undef) w) : Turn P ops S Q i K a w := by
  intro o' ho'
  obtain rfl := Option.some.inj (ho.symm.trans ho')
  rw [if_neg (by rw [hg]; decide)]
  exact h
theorem turn_callG {i : Nat} {K : Act → World → Prop} {o : Oper} {a : Act} {w : World} {f : FuncId} {fn : Func} {ars : Array Operand} {ts : Array TypeId} (ho : ops[i]? = some o) (hw : Region.wanted o (yielded ops a.tmps) = true) (hop : o.op = .call { callee := .value (.func f), args := ars, argTypes := ts })
    (hf : P.funcs[f]? = some fn) (hname : (fn.name == "runtime.NumGoroutine") = false) (hb : fn.body.isSome = true) {args : Array Value} (hargs : ars.map a.eval = args)
    (h : Calls P f args w fun e w' => ∃ v, e = .returned v ∧ S w' ∧ K (a.put o.dst v) w') : Turn P ops S Q i K a w := by
  intro o' ho'
  obtain rfl := Option.some.inj (ho.symm.trans ho')
  rw [if_pos hw]
  have hrun : (execOp a.eval o).run P w = .ok (.enter f args) w := by
    have h1 : fn.name ≠ "runtime.NumGoroutine" := by simpa using hname
    obtain ⟨c, hc⟩ := Option.isSome_iff_exists.1 hb
    have henter : (callFunc f args).run P w = .ok (.enter f args) w := by simp [callFunc, hf, h1, hc]
    unfold execOp
    simp [hop, resolve, Deferred.ofValue, invoke, Act.eval, hargs, henter]
  unfold Oper.wp
  rw [hrun, Oper.upon_enter]
  refine h.mono ?_
  rintro e w' ⟨v, rfl, hS, hh⟩
  exact ⟨hS, hh⟩
end
end Go.Proofs.YtkmcjokoinoahaaDoor.RegD
