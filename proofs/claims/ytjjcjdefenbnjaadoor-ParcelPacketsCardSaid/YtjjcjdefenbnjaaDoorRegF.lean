/- A region that draws its order and holds one operation that may come at any time (an alloc): it is walked with that operation ahead of each of the others that turn. Over any program. -/
import Derived.Test.YtjjcjdefenbnjaaDoorRegB
set_option linter.unusedVariables false
set_option linter.unusedSimpArgs false
namespace Go.Proofs.YtjjcjdefenbnjaaDoor.RegF
open Go.RowKit Go.Proofs.YtjjcjdefenbnjaaDoor.Lib Go.Proofs.YtjjcjdefenbnjaaDoor.Reg
section
variable {P : Program} {ops : Array Oper} {S : World → Prop} {Q : Exit → Act → World → Prop} {md : Region.Mode} {oj : Oper} {fin : List (Oper × Bool)}
def wpSeqF (P : Program) (ops : Array Oper) (S : World → Prop) (Q : Exit → Act → World → Prop) (oj : Oper) (fin : List (Oper × Bool)) : List (Oper × Bool) → Act → World → Prop
  | [], a, w => wpSeqS P ops S Q ((oj, false) :: fin) a w
  | (o, true) :: rest, a, w => ∃ v, YieldsS P ops S o v a ∧ wpSeqF P ops S Q oj fin rest (a.put o.dst v) w
  | (o, false) :: rest, a, w => (if Region.wanted o (yielded ops a.tmps) then o.wp P a w (fun a' w' => S w' ∧ wpSeqF P ops S Q oj fin rest a' w') Q else wpSeqF P ops S Q oj fin rest (a.put o.dst undef) w) ∧ wpSeqS P ops S Q ((oj, false) :: (o, false) :: (rest ++ fin)) a w
def okF (md : Region.Mode) (ops : Array Oper) (j : Nat) (fin : List (Nat × Bool)) : List (Nat × Bool) → Array Bool → Bool
  | [], listed => okSeq md ops ((j, false) :: fin) listed
  | (i, true) :: rest, listed => (Region.ready md ops listed).contains i && Region.free md ops listed i && okF md ops j fin rest (listed.setIfInBounds i true)
  | (i, false) :: rest, listed => ((Region.ready md ops listed) == [i, j] || (Region.ready md ops listed) == [j, i]) && okF md ops j fin rest (listed.setIfInBounds i true) && okSeq md ops ((i, false) :: (rest ++ fin)) (listed.setIfInBounds j true)
theorem pick_app (l m : List (Nat × Bool)) : pick ops (l ++ m) = pick ops l ++ pick ops m := by unfold pick; rw [List.filterMap_append]
theorem wpAnyS_of_seqF (hs : Region.noSelect ops = true) (hQ : ∀ c (a : Act) (d : Option Tmp) v w, Q (.panic c) (a.put d v) w → Q (.panic c) a w) (j : Nat) (hj : ops[j]? = some oj) (fin : List (Nat × Bool)) (hfin : ∀ x ∈ fin, x.1 < ops.size) :
    ∀ (l : List (Nat × Bool)) (listed : Array Bool) (a : Act) (w : World), okF md ops j fin l listed = true → (∀ x ∈ l, x.1 < ops.size) → S w →
    wpSeqF P ops S Q oj (pick ops fin) (pick ops l) a w → Reg.wpAnyS P md ops S Q (l.length + (fin.length + 1)) listed a w
  | [], listed, a, w, hok, _, hw, h => by
    have hjl : j < ops.size := (Array.getElem?_eq_some_iff.1 hj).1
    have hp : pick ops ((j, false) :: fin) = (oj, false) :: pick ops fin := by simp [pick, hj]
    have := Reg.wpAnyS_of_seq (P := P) (md := md) hs hQ ((j, false) :: fin) listed a w hok (fun x hx => by
      rcases List.mem_cons.1 hx with rfl | hx
      · exact hjl
      · exact hfin x hx) hw (by rw [hp]; exact h)
    simpa using this
  | (i, true) :: rest, listed, a, w, hok, hlt, hw, h => by
    simp only [okF, Bool.and_eq_true] at hok
    obtain ⟨⟨hr, hf⟩, hrest⟩ := hok
    have hi : ops[i]? = some (ops[i]'(hlt _ List.mem_cons_self)) := Array.getElem?_eq_getElem _
    have hp : pick ops ((i, true) :: rest) = (ops[i]'(hlt _ List.mem_cons_self), true) :: pick ops rest := by simp [pick, hi]
    rw [hp] at h
    obtain ⟨v, hy, h⟩ := h
    have := Reg.wpAnyS_first hi (Region.noSelect_spec hs) (fun c a w => hQ c a _ v w) (rest.length + (fin.length + 1)) listed a w (Region.free_spec hi hf) (by simpa using hr) hy (wpAnyS_of_seqF hs hQ j hj fin hfin rest _ _ _ hrest (fun x hx => hlt x (List.mem_cons_of_mem _ hx)) hw h)
    rw [List.length_cons, show rest.length + 1 + (fin.length + 1) = rest.length + (fin.length + 1) + 1 by omega]
    exact this
  | (i, false) :: rest, listed, a, w, hok, hlt, hw, h => by
    simp only [okF, Bool.and_eq_true, Bool.or_eq_true, beq_iff_eq] at hok
    obtain ⟨⟨hr, hrest⟩, hok2⟩ := hok
    have hi : ops[i]? = some (ops[i]'(hlt _ List.mem_cons_self)) := Array.getElem?_eq_getElem _
    have hp : pick ops ((i, false) :: rest) = (ops[i]'(hlt _ List.mem_cons_self), false) :: pick ops rest := by simp [pick, hi]
    rw [hp] at h
    obtain ⟨hA, hB⟩ := h
    rw [List.length_cons, show rest.length + 1 + (fin.length + 1) = rest.length + (fin.length + 1) + 1 by omega]
    refine ⟨hw, fun h0 => (by rcases hr with hr | hr <;> (rw [h0] at hr; cases hr)), fun m hm => ?_⟩
    have hm' : m = i ∨ m = j := by
      rcases hr with hr | hr <;> (rw [hr] at hm; simp at hm; omega)
    rcases hm' with rfl | rfl
    · unfold wpOp
      simp only [hi]
      split
      · rename_i hwt
        rw [if_pos hwt] at hA
        exact .inl (Oper.wp_mono (fun a' w' hh => wpAnyS_of_seqF hs hQ j hj fin hfin rest _ a' w' hrest (fun x hx => hlt x (List.mem_cons_of_mem _ hx)) hh.1 hh.2) hA)
      · rename_i hwt
        rw [if_neg hwt] at hA
        exact wpAnyS_of_seqF hs hQ j hj fin hfin rest _ _ w hrest (fun x hx => hlt x (List.mem_cons_of_mem _ hx)) hw hA
    · unfold wpOp
      simp only [hj]
      unfold wpSeqS at hB
      have hpp : pick ops ((i, false) :: (rest ++ fin)) = (ops[i]'(hlt _ List.mem_cons_self), false) :: (pick ops rest ++ pick ops fin) := by
        rw [← pick_app]; simp [pick, hi]
      have key : ∀ a' w', S w' → wpSeqS P ops S Q ((ops[i]'(hlt _ List.mem_cons_self), false) :: (pick ops rest ++ pick ops fin)) a' w' → Reg.wpAnyS P md ops S Q (rest.length + (fin.length + 1)) (listed.setIfInBounds m true) a' w' := by
        intro a' w' h1 h2
        have := Reg.wpAnyS_of_seq (P := P) (md := md) hs hQ ((i, false) :: (rest ++ fin)) (listed.setIfInBounds m true) a' w' hok2 (fun x hx => by
          rcases List.mem_cons.1 hx with rfl | hx
          · exact hlt _ List.mem_cons_self
          · rcases List.mem_append.1 hx with hx | hx
            · exact hlt x (List.mem_cons_of_mem _ hx)
            · exact hfin x hx) h1 (by rw [hpp]; exact h2)
        rw [List.length_cons, List.length_append, Nat.add_assoc] at this
        exact this
      split
      · rename_i hwt
        rw [if_pos hwt] at hB
        exact .inl (Oper.wp_mono (fun a' w' hh => key a' w' hh.1 hh.2) hB)
      · rename_i hwt
        rw [if_neg hwt] at hB
        exact key _ w hw hB
/-- A region that draws its order, walked in the order l, the j-th operation at any time. -/
theorem wp_region_F {id : Nat} {a : Act} {w : World} (S : World → Prop) (l fin : List (Nat × Bool)) (j : Nat) (hj : ops[j]? = some oj) (hm : P.follows .mixedOrders = true) (hs : Region.noSelect ops = true) (hok : okF .any ops j fin l (Array.replicate ops.size false) = true) (hl : l.length + (fin.length + 1) = ops.size) (hlt : (l ++ fin).all (fun x => decide (x.1 < ops.size)) = true)
    (hQ : ∀ c (a : Act) (d : Option Tmp) v w, Q (.panic c) (a.put d v) w → Q (.panic c) a w) (hw : S w.drew) (h : wpSeqF P ops S Q oj (pick ops fin) (pick ops l) a w.drew) : (Code.region id ops true).wp P Q a w := by
  refine wp_region_any hm ?_
  have := wpAnyS_of_seqF (md := .any) hs hQ j hj fin (fun x hx => of_decide_eq_true (List.all_eq_true.1 hlt x (List.mem_append_right _ hx))) l (Array.replicate ops.size false) a w.drew hok (fun x hx => of_decide_eq_true (List.all_eq_true.1 hlt x (List.mem_append_left _ hx))) hw h
  rw [hl] at this
  exact this.any
theorem seqF_tell {o : Oper} {rest : List (Oper × Bool)} {a : Act} {w : World} {v : Value} (hg : o.guard = none) (hv : ∀ w, S w → (execOp a.eval o).run P w = .ok (.value v) w) (h : wpSeqF P ops S Q oj fin rest (a.put o.dst v) w) : wpSeqF P ops S Q oj fin ((o, true) :: rest) a w :=
  ⟨v, .inl ⟨by simp [Region.wanted, hg], hv⟩, h⟩
theorem seqF_call {o : Oper} {rest : List (Oper × Bool)} {a : Act} {w : World} {f : FuncId} {fn : Func} {as : Array Operand} {ts : Array TypeId} (hg : o.guard = none) (hop : o.op = .call { callee := .value (.func f), args := as, argTypes := ts })
    (hf : P.funcs[f]? = some fn) (hname : (fn.name == "runtime.NumGoroutine") = false) (hb : fn.body.isSome = true) {args : Array Value} (hargs : as.map a.eval = args)
    (h : Calls P f args w fun e w' => ∃ v, e = .returned v ∧ S w' ∧ wpSeqF P ops S Q oj fin rest (a.put o.dst v) w')
    (hB : wpSeqS P ops S Q ((oj, false) :: (o, false) :: (rest ++ fin)) a w) : wpSeqF P ops S Q oj fin ((o, false) :: rest) a w := by
  have hw : Region.wanted o (yielded ops a.tmps) = true := by simp [Region.wanted, hg]
  refine ⟨?_, hB⟩
  rw [if_pos hw]
  have hrun : (execOp a.eval o).run P w = .ok (.enter f args) w := by
    have h1 : fn.name ≠ "runtime.NumGoroutine" := by simpa using hname
    obtain ⟨c, hc⟩ := Option.isSome_iff_exists.1 hb
    have henter : (callFunc f args).run P w = .ok (.enter f args) w := by simp [callFunc, hf, h1, hc]
    unfold execOp
    simp [hop, resolve, Deferred.ofValue, invoke, Act.eval, hargs, henter]
  unfold Oper.wp
  rw [hrun, Oper.upon_enter]
  refine h.mono ?_
  rintro e w' ⟨v, rfl, hS, hh⟩
  exact ⟨hS, hh⟩
end
end Go.Proofs.YtjjcjdefenbnjaaDoor.RegF
