/- A region that draws its order, walked in one order: operations that tell the same in every world of S may be taken first; what turns the world stays in its own order. Over any program. -/
import Derived.Orders
import Derived.RegionTactic
import Derived.Test.YtkmcjokoinoahaaDoorLib
set_option linter.unusedVariables false
set_option linter.unusedSimpArgs false
namespace Go.Proofs.YtkmcjokoinoahaaDoor.Reg
open Go.RowKit Go.Proofs.YtkmcjokoinoahaaDoor.Lib

section
variable {P : Program} {ops : Array Oper} {Q : Exit → Act → World → Prop} {md : Region.Mode} {S : World → Prop}

/-- In each world of S the operation tells v, and turns nothing. -/
def YieldsS (P : Program) (ops : Array Oper) (S : World → Prop) (o : Oper) (v : Value) (a : Act) : Prop :=
  (Region.wanted o (yielded ops a.tmps) = true ∧ ∀ w, S w → (execOp a.eval o).run P w = .ok (.value v) w) ∨
  (Region.wanted o (yielded ops a.tmps) = false ∧ v = undef)
theorem YieldsS.wpOp {i : Nat} {o : Oper} {v : Value} {a : Act} (hi : ops[i]? = some o) (hy : YieldsS P ops S o v a) {K : Act → World → Prop} {w : World} (hw : S w) (h : K (a.put o.dst v) w) : wpOp P ops Q i K a w := by
  unfold Go.wpOp
  simp only [hi]
  rcases hy with ⟨hw', hv⟩ | ⟨hw', rfl⟩
  · simp only [hw', if_true, Oper.wp, hv w hw, Oper.upon]; exact .inl h
  · simp only [hw', Bool.false_eq_true, if_false]; exact h
theorem YieldsS.of_same {o : Oper} {v : Value} {a a' : Act} (hy : YieldsS P ops S o v a) (he : execOp a'.eval o = execOp a.eval o) (hw : Region.wanted o (yielded ops a'.tmps) = Region.wanted o (yielded ops a.tmps)) : YieldsS P ops S o v a' := by
  unfold YieldsS at *
  rw [he, hw]
  exact hy
theorem wpOp_putS {j : Nat} {oi oj : Oper} {v : Value} (hj : ops[j]? = some oj) (hap : oi.apart ops oj = true) (hsi : ∀ cs b, oi.op ≠ .select cs b) (hsj : ∀ cs b, oj.op ≠ .select cs b)
    (hQ : ∀ c a w, Q (.panic c) (a.put oi.dst v) w → Q (.panic c) a w) {K : Act → World → Prop} {a : Act} {w : World} (hy : YieldsS P ops S oi v a) (h : wpOp P ops Q j K (a.put oi.dst v) w) :
    wpOp P ops Q j (fun a' w' => YieldsS P ops S oi v a' ∧ K (a'.put oi.dst v) w') a w := by
  obtain ⟨h1, h2, h3⟩ := Oper.apart_spec hap
  have keep : ∀ (a : Act), YieldsS P ops S oi v a → ∀ u, YieldsS P ops S oi v (a.put oj.dst u) := fun a hy u => hy.of_same (execOp_put oi hsi a oj.dst u h3) (wanted_put oi a oj.dst u h3)
  have keepD : ∀ d, YieldsS P ops S oi v { a with defers := d :: a.defers } := fun d => hy.of_same rfl rfl
  unfold wpOp at *
  simp only [hj] at *
  rw [wanted_put oj a oi.dst v h1] at h
  split
  · rename_i hw
    simp only [hw, if_true] at h
    rcases h with h | ⟨hasks, hlets⟩
    case inr => exact .inr ⟨by unfold Oper.asks at *; rw [execOp_put oj hsj a oi.dst v h1] at hasks; exact hasks, hlets⟩
    refine .inl ?_
    unfold Oper.wp at *
    rw [execOp_put oj hsj a oi.dst v h1] at h
    generalize (execOp a.eval oj).run P w = r at *
    cases r with
    | ok n w' =>
      cases n <;> simp only [Oper.upon] at h ⊢
      case value u => exact ⟨keep a hy u, by rw [← Act.put_comm a v u h2]; exact h⟩
      case skip => exact ⟨keep a hy _, by rw [← Act.put_comm a v undef h2]; exact h⟩
      case defer d =>
        refine ⟨keep _ (keepD d) _, ?_⟩
        rw [← Act.put_comm _ v undef h2, ← Act.put_defers]
        exact h
      case enter f args =>
        refine Calls.mono h fun e w'' he => ?_
        cases e with
        | returned u => exact ⟨keep a hy u, by rw [← Act.put_comm a v u h2]; exact he⟩
        | panicked c => exact hQ _ _ _ he
        | outgrown => exact he
      case row row args => exact Rows.mono h fun u w'' he => ⟨keep a hy u, by rw [← Act.put_comm a v u h2]; exact he⟩
    | halt x w' =>
      cases x <;> simp only [Oper.upon] at h ⊢
      case panic u => exact hQ _ _ _ h
  · rename_i hw
    simp only [hw] at h
    exact ⟨keep a hy _, by rw [← Act.put_comm a v undef h2]; exact h⟩

/-- Whatever the order; each world on the way is one of S. -/
def wpAnyS (P : Program) (md : Region.Mode) (ops : Array Oper) (S : World → Prop) (Q : Exit → Act → World → Prop) : Nat → Array Bool → Act → World → Prop
  | 0, listed, a, w => S w ∧ Region.ready md ops listed = [] ∧ Q .normal a w
  | fuel + 1, listed, a, w => S w ∧ (Region.ready md ops listed = [] → Q .normal a w) ∧ ∀ i ∈ Region.ready md ops listed, wpOp P ops Q i (wpAnyS P md ops S Q fuel (listed.setIfInBounds i true)) a w
theorem wpAnyS.any : ∀ (fuel : Nat) (listed : Array Bool) (a : Act) (w : World), wpAnyS P md ops S Q fuel listed a w → wpAny P md ops Q fuel listed a w
  | 0, _, _, _, h => h.2
  | fuel + 1, listed, _, _, h => ⟨h.2.1, fun i hi => wpOp_mono (fun a w => wpAnyS.any fuel (listed.setIfInBounds i true) a w) (h.2.2 i hi)⟩
theorem wpAnyS.here {fuel : Nat} {listed : Array Bool} {a : Act} {w : World} (h : wpAnyS P md ops S Q fuel listed a w) : S w := by
  cases fuel <;> exact h.1
theorem wpAnyS_first {i : Nat} {oi : Oper} {v : Value} (hi : ops[i]? = some oi) (hsel : ∀ (j : Nat) (o : Oper) cs b, ops[j]? = some o → o.op ≠ .select cs b) (hQ : ∀ c a w, Q (.panic c) (a.put oi.dst v) w → Q (.panic c) a w) :
    ∀ (fuel : Nat) (listed : Array Bool) (a : Act) (w : World),
      (∀ j oj, ops[j]? = some oj → j ≠ i → listed.getD j true = false → (∀ e ∈ oj.after, Region.binds md e = true → e.on ≠ i) → oi.apart ops oj = true) →
      i ∈ Region.ready md ops listed → YieldsS P ops S oi v a →
      wpAnyS P md ops S Q fuel (listed.setIfInBounds i true) (a.put oi.dst v) w → wpAnyS P md ops S Q (fuel + 1) listed a w := by
  intro fuel
  induction fuel with
  | zero =>
    intro listed a w _ hr hy H
    refine ⟨H.1, fun h => (by rw [h] at hr; cases hr), fun j hj => ?_⟩
    by_cases hji : j = i
    · subst hji; exact hy.wpOp hi H.1 H
    · have := ready_mono hj hji
      rw [H.2.1] at this
      cases this
  | succ fuel ih =>
    intro listed a w hfree hr hy H
    refine ⟨H.1, fun h => (by rw [h] at hr; cases hr), fun j hj => ?_⟩
    by_cases hji : j = i
    · subst hji; exact hy.wpOp hi H.1 H
    · have h1 := H.2.2 j (ready_mono hj hji)
      obtain ⟨hjun, oj, hoj, hall⟩ := mem_ready.1 hj
      have hnot : ∀ e ∈ oj.after, Region.binds md e = true → e.on ≠ i := fun e he hb heq => by
        have h1 := hall e he hb
        have h0 := (mem_ready.1 hr).1
        rw [heq] at h1
        rcases Nat.lt_or_ge i listed.size with h' | h'
        · simp [h'] at h0 h1; rw [h0] at h1; cases h1
        · simp [Array.getElem?_eq_none h'] at h1
      have h2 := wpOp_putS hoj (hfree j oj hoj hji hjun hnot) (fun cs b => hsel i oi cs b hi) (fun cs b => hsel j oj cs b hoj) hQ hy h1
      have hfree' : ∀ k ok, ops[k]? = some ok → k ≠ i → (listed.setIfInBounds j true).getD k true = false →
          (∀ e ∈ ok.after, Region.binds md e = true → e.on ≠ i) → oi.apart ops ok = true := fun k ok hk hki hun hno => by
        refine hfree k ok hk hki ?_ hno
        by_cases hjk : j = k
        · subst hjk; exact hjun
        · rw [getD_set_ne true hjk] at hun; exact hun
      refine wpOp_mono (fun a' w' h3 => ih (listed.setIfInBounds j true) a' w' hfree' (ready_mono hr (Ne.symm hji)) h3.1 ?_) h2
      rw [Array.setIfInBounds_comm _ _ hji]
      exact h3.2

/-- In a given order: of each operation its number, and whether it is one that only tells. -/
def wpSeqS (P : Program) (ops : Array Oper) (S : World → Prop) (Q : Exit → Act → World → Prop) : List (Oper × Bool) → Act → World → Prop
  | [], a, w => Q .normal a w
  | (o, true) :: rest, a, w => ∃ v, YieldsS P ops S o v a ∧ wpSeqS P ops S Q rest (a.put o.dst v) w
  | (o, false) :: rest, a, w => if Region.wanted o (yielded ops a.tmps) then o.wp P a w (fun a' w' => S w' ∧ wpSeqS P ops S Q rest a' w') Q else wpSeqS P ops S Q rest (a.put o.dst undef) w
/-- May the operations be taken so? -/
def okSeq (md : Region.Mode) (ops : Array Oper) : List (Nat × Bool) → Array Bool → Bool
  | [], listed => (Region.ready md ops listed).isEmpty
  | (i, true) :: rest, listed => (Region.ready md ops listed).contains i && Region.free md ops listed i && okSeq md ops rest (listed.setIfInBounds i true)
  | (i, false) :: rest, listed => (Region.ready md ops listed) == [i] && okSeq md ops rest (listed.setIfInBounds i true)
def pick (ops : Array Oper) (l : List (Nat × Bool)) : List (Oper × Bool) := l.filterMap fun x => (ops[x.1]?).map fun o => (o, x.2)
theorem wpAnyS_of_seq (hs : Region.noSelect ops = true) (hQ : ∀ c (a : Act) (d : Option Tmp) v w, Q (.panic c) (a.put d v) w → Q (.panic c) a w) : ∀ (l : List (Nat × Bool)) (listed : Array Bool) (a : Act) (w : World), okSeq md ops l listed = true → (∀ x ∈ l, x.1 < ops.size) → S w →
    wpSeqS P ops S Q (pick ops l) a w → wpAnyS P md ops S Q l.length listed a w
  | [], listed, a, w, hok, _, hw, h => ⟨hw, by simpa [okSeq] using hok, h⟩
  | (i, true) :: rest, listed, a, w, hok, hlt, hw, h => by
    simp only [okSeq, Bool.and_eq_true] at hok
    obtain ⟨⟨hr, hf⟩, hrest⟩ := hok
    have hi : ops[i]? = some (ops[i]'(hlt _ List.mem_cons_self)) := Array.getElem?_eq_getElem _
    have hp : pick ops ((i, true) :: rest) = (ops[i]'(hlt _ List.mem_cons_self), true) :: pick ops rest := by simp [pick, hi]
    rw [hp] at h
    obtain ⟨v, hy, h⟩ := h
    exact wpAnyS_first hi (Region.noSelect_spec hs) (fun c a w => hQ c a _ v w) rest.length listed a w (Region.free_spec hi hf) (by simpa using hr) hy (wpAnyS_of_seq hs hQ rest _ _ _ hrest (fun x hx => hlt x (List.mem_cons_of_mem _ hx)) hw h)
  | (i, false) :: rest, listed, a, w, hok, hlt, hw, h => by
    simp only [okSeq, Bool.and_eq_true, beq_iff_eq] at hok
    obtain ⟨hr, hrest⟩ := hok
    have hi : ops[i]? = some (ops[i]'(hlt _ List.mem_cons_self)) := Array.getElem?_eq_getElem _
    have hp : pick ops ((i, false) :: rest) = (ops[i]'(hlt _ List.mem_cons_self), false) :: pick ops rest := by simp [pick, hi]
    rw [hp] at h
    refine ⟨hw, fun h0 => (by rw [h0] at hr; cases hr), fun j hj => ?_⟩
    rw [hr, List.mem_singleton] at hj
    subst hj
    unfold wpOp
    simp only [hi]
    unfold wpSeqS at h
    split
    · rename_i hwt
      rw [if_pos hwt] at h
      exact .inl (Oper.wp_mono (fun a' w' hh => wpAnyS_of_seq hs hQ rest _ a' w' hrest (fun x hx => hlt x (List.mem_cons_of_mem _ hx)) hh.1 hh.2) h)
    · rename_i hwt
      rw [if_neg hwt] at h
      exact wpAnyS_of_seq hs hQ rest _ _ w hrest (fun x hx => hlt x (List.mem_cons_of_mem _ hx)) hw h
/-- A region that draws its order, walked in the order l. -/
theorem wp_region_S {id : Nat} {a : Act} {w : World} (S : World → Prop) (l : List (Nat × Bool)) (hm : P.follows .mixedOrders = true) (hs : Region.noSelect ops = true) (hok : okSeq .any ops l (Array.replicate ops.size false) = true) (hl : l.length = ops.size) (hlt : l.all (fun x => decide (x.1 < ops.size)) = true)
    (hQ : ∀ c (a : Act) (d : Option Tmp) v w, Q (.panic c) (a.put d v) w → Q (.panic c) a w) (hw : S w.drew) (h : wpSeqS P ops S Q (pick ops l) a w.drew) : (Code.region id ops true).wp P Q a w := by
  refine wp_region_any hm ?_
  have := wpAnyS_of_seq (md := .any) hs hQ l (Array.replicate ops.size false) a w.drew hok (fun x hx => of_decide_eq_true (List.all_eq_true.1 hlt x hx)) hw h
  rw [hl] at this
  exact this.any
/-- One that only tells. -/
theorem seq_tell {o : Oper} {rest : List (Oper × Bool)} {a : Act} {w : World} {v : Value} (hg : o.guard = none) (hv : ∀ w, S w → (execOp a.eval o).run P w = .ok (.value v) w) (h : wpSeqS P ops S Q rest (a.put o.dst v) w) : wpSeqS P ops S Q ((o, true) :: rest) a w :=
  ⟨v, .inl ⟨by simp [Region.wanted, hg], hv⟩, h⟩
theorem seq_tellG {o : Oper} {rest : List (Oper × Bool)} {a : Act} {w : World} {v : Value} (hg : Region.wanted o (yielded ops a.tmps) = true) (hv : ∀ w, S w → (execOp a.eval o).run P w = .ok (.value v) w) (h : wpSeqS P ops S Q rest (a.put o.dst v) w) : wpSeqS P ops S Q ((o, true) :: rest) a w :=
  ⟨v, .inl ⟨hg, hv⟩, h⟩
theorem seq_skip {o : Oper} {rest : List (Oper × Bool)} {a : Act} {w : World} (hg : Region.wanted o (yielded ops a.tmps) = false) (h : wpSeqS P ops S Q rest (a.put o.dst undef) w) : wpSeqS P ops S Q ((o, true) :: rest) a w :=
  ⟨undef, .inr ⟨hg, rfl⟩, h⟩
/-- One that turns the world. -/
theorem seq_do {o : Oper} {rest : List (Oper × Bool)} {a : Act} {w w' : World} {v : Value} (hg : o.guard = none) (hv : (execOp a.eval o).run P w = .ok (.value v) w') (hS : S w') (h : wpSeqS P ops S Q rest (a.put o.dst v) w') : wpSeqS P ops S Q ((o, false) :: rest) a w := by
  have hw : Region.wanted o (yielded ops a.tmps) = true := by simp [Region.wanted, hg]
  unfold wpSeqS
  rw [if_pos hw]
  unfold Oper.wp
  rw [hv]
  exact ⟨hS, h⟩
/-- A call of a function of the program. -/
theorem seq_call {o : Oper} {rest : List (Oper × Bool)} {a : Act} {w : World} {f : FuncId} {fn : Func} {as : Array Operand} {ts : Array TypeId} (hg : o.guard = none) (hop : o.op = .call { callee := .value (.func f), args := as, argTypes := ts })
    (hf : P.funcs[f]? = some fn) (hname : (fn.name == "runtime.NumGoroutine") = false) (hb : fn.body.isSome = true) {args : Array Value} (hargs : as.map a.eval = args)
    (h : Calls P f args w fun e w' => ∃ v, e = .returned v ∧ S w' ∧ wpSeqS P ops S Q rest (a.put o.dst v) w') : wpSeqS P ops S Q ((o, false) :: rest) a w := by
  have hw : Region.wanted o (yielded ops a.tmps) = true := by simp [Region.wanted, hg]
  unfold wpSeqS
  rw [if_pos hw]
  have hrun : (execOp a.eval o).run P w = .ok (.enter f args) w := by
    have h1 : fn.name ≠ "runtime.NumGoroutine" := by simpa using hname
    obtain ⟨c, hc⟩ := Option.isSome_iff_exists.1 hb
    have henter : (callFunc f args).run P w = .ok (.enter f args) w := by simp [callFunc, hf, h1, hc]
    unfold execOp
    simp [hop, resolve, Deferred.ofValue, invoke, Act.eval, hargs, henter]
  unfold Oper.wp
  rw [hrun, Oper.upon_enter]
  refine h.mono ?_
  rintro e w' ⟨v, rfl, hS, hh⟩
  exact ⟨hS, hh⟩
/-- append(v, ys...). -/
theorem seq_app {α : Type} (r : Rep α) {w0 W : World} {rest : List (Oper × Bool)} {o : Oper} {a : Act} (base : Nat) (hgd : o.guard = none) (s x : Operand) (t e : TypeId) (z : Value) (bytes : Nat)
    (ho : o.op = .call { callee := .builtin .append, args := #[s, x], argTypes := #[t, t] })
    (ht : P.underlying t = some (.slice e)) (hinfo : (P.info? e).map (fun i => (i.zero, i.size, i.bytes)) = some (some z, r.sz, bytes)) (hz : z.cells.size = r.sz) (hsz : 0 < r.sz) (hb : 0 < bytes)
    (F G : Nat → Prop) (v : Value) (xs ys : List α) (A : Option Addr) (m c : Nat) (hs : a.eval s = v) (hx : a.eval x = .slice A m c) (hv : Ow r e W base F v xs) (hy : Sl r W G A m c ys) (hB : Below base w0 W) (hbase : base ≤ W.heap.size) (hl : (xs.length + m) * bytes ≤ 140737488355328)
    (hF : ∀ k, F k → k < W.heap.size ∧ some k ≠ v.ownBlock) (hG : ∀ cs x, r.K W G x cs → r.K W F x cs)
    (h : ∀ v1 w1, Ow r e w1 base F v1 (xs ++ ys) → Below base w0 w1 → W.grownBy w1 v.ownBlock → (v1.ownBlock = v.ownBlock ∨ v1.ownBlock = some W.heap.size) → S w1 ∧ wpSeqS P ops S Q rest (a.put o.dst v1) w1) : wpSeqS P ops S Q ((o, false) :: rest) a W := by
  obtain ⟨v1, w1, hr, h2, h3, h4⟩ := run_app (P := P) r W base t o.type e z bytes ht hinfo hz hsz hb F G v xs ys A m c hv hy hbase hl hF hG
  obtain ⟨k1, k2⟩ := h v1 w1 h2 (hB.grown h3 hbase (fun k hk => (hv.lt k hk).1)) h3 h4
  exact seq_do hgd (exec_append W ho hs hx hr) k1 k2
theorem seq_doG {o : Oper} {rest : List (Oper × Bool)} {a : Act} {w w' : World} {v : Value} (hw : Region.wanted o (yielded ops a.tmps) = true) (hv : (execOp a.eval o).run P w = .ok (.value v) w') (hS : S w') (h : wpSeqS P ops S Q rest (a.put o.dst v) w') : wpSeqS P ops S Q ((o, false) :: rest) a w := by
  unfold wpSeqS
  rw [if_pos hw]
  unfold Oper.wp
  rw [hv]
  exact ⟨hS, h⟩
theorem seq_callG {o : Oper} {rest : List (Oper × Bool)} {a : Act} {w : World} {f : FuncId} {fn : Func} {as : Array Operand} {ts : Array TypeId} (hw : Region.wanted o (yielded ops a.tmps) = true) (hop : o.op = .call { callee := .value (.func f), args := as, argTypes := ts })
    (hf : P.funcs[f]? = some fn) (hname : (fn.name == "runtime.NumGoroutine") = false) (hb : fn.body.isSome = true) {args : Array Value} (hargs : as.map a.eval = args)
    (h : Calls P f args w fun e w' => ∃ v, e = .returned v ∧ S w' ∧ wpSeqS P ops S Q rest (a.put o.dst v) w') : wpSeqS P ops S Q ((o, false) :: rest) a w := by
  unfold wpSeqS
  rw [if_pos hw]
  have hrun : (execOp a.eval o).run P w = .ok (.enter f args) w := by
    have h1 : fn.name ≠ "runtime.NumGoroutine" := by simpa using hname
    obtain ⟨c, hc⟩ := Option.isSome_iff_exists.1 hb
    have henter : (callFunc f args).run P w = .ok (.enter f args) w := by simp [callFunc, hf, h1, hc]
    unfold execOp
    simp [hop, resolve, Deferred.ofValue, invoke, Act.eval, hargs, henter]
  unfold Oper.wp
  rw [hrun, Oper.upon_enter]
  refine h.mono ?_
  rintro e w' ⟨v, rfl, hS, hh⟩
  exact ⟨hS, hh⟩
theorem seq_skipF {o : Oper} {rest : List (Oper × Bool)} {a : Act} {w : World} (hg : Region.wanted o (yielded ops a.tmps) = false) (h : wpSeqS P ops S Q rest (a.put o.dst undef) w) : wpSeqS P ops S Q ((o, false) :: rest) a w := by
  unfold wpSeqS
  rw [hg]
  exact h
end
end Go.Proofs.YtkmcjokoinoahaaDoor.Reg
