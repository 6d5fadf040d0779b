/- A map from int to bool that the call made: a set of numbers. Over any program. -/
import Derived.Test.YtjjcjdefenbnjaaLib
import Derived.Maps.Own
import Derived.Maps.Views
set_option linter.unusedVariables false
set_option linter.unusedSimpArgs false
namespace Go.Proofs.Ytjjcjdefenbnjaa.MapB
open Go.RowKit Go.Proofs.Ytjjcjdefenbnjaa.Lib Go.Maps
section
variable {P : Program} {k e t : TypeId} {w w' : World} {b n : Nat} {S : Int → Bool}
def SetM (P : Program) (k e : TypeId) (w : World) (b n : Nat) (S : Int → Bool) : Prop :=
  ∃ D : DataW Unit, w.ownsMap P k (plainElem P e) b n D ∧ IsMap D ∧ ∀ a, D.atKey (.int .i64 a) (.lit (.bool false)) = .lit (.bool (S a))
theorem SetM.made (w : World) (P : Program) (k e : TypeId) : SetM P k e (w.alloc (.map #[] 0)) w.heap.size 0 (fun _ => false) :=
  ⟨_, World.ownsMap_made _ _ _ _, isMap_empty, fun _ => rfl⟩
theorem SetM.lt (h : SetM P k e w b n S) : b < w.heap.size := by
  obtain ⟨D, h, _⟩ := h
  exact h.lt
theorem SetM.move (h : SetM P k e w b n S) (hb : w'.heap[b]? = w.heap[b]?) : SetM P k e w' b n S := by
  obtain ⟨D, ⟨es, clock, hh, F, hs, hD⟩, h2⟩ := h
  exact ⟨D, ⟨es, clock, hb.trans hh, F, hs, hD⟩, h2⟩
theorem SetM.below (h : SetM P k e w b n S) {B : Nat} (hb : Below B w w') (hB : b < B) : SetM P k e w' b n S := h.move (hb.block b hB)
theorem plainElem_bool_inv (he : P.underlying e = some .bool) {v : Value} {d : DataW Unit} {ps : List MemPlace} {x : Bool} (h : plainElem P e v = some (d, ps)) (hd : d = .lit (.bool x)) : v = .bool x := by
  unfold plainElem at h
  rw [he] at h
  cases v <;> simp at h
  obtain ⟨h1, _⟩ := h
  rw [← h1] at hd
  injection hd with hd
  injection hd with hd
  rw [hd]
theorem key_int {a : Int} (hk : P.underlying k = some (.int .i64)) (ha : -9223372036854775808 ≤ a ∧ a ≤ 9223372036854775807) : keyOf P k (.int .i64 a) = some (.int .i64 a) :=
  keyOf_int_mk hk (WalkArith.wf_i64 (by omega))
theorem SetM.lookup (h : SetM P k e w b n S) (ht : P.underlying t = some (.map k e)) (hk : P.underlying k = some (.int .i64)) (he : P.underlying e = some .bool) (hz : (zeroValue e).run P w = .ok (.bool false) w) {a : Int} (ha : -9223372036854775808 ≤ a ∧ a ≤ 9223372036854775807) :
    (Instr.lookup t (.map (some b)) (.int .i64 a) false).run P w = .ok (.bool (S a)) w := by
  obtain ⟨D, ho, hm, hS⟩ := h
  obtain ⟨v, ps, hrun, hv⟩ := ho.lookup (int_keyed hk) ht hz (plainElem_bool he false) (key_int hk ha)
  rw [hrun, plainElem_bool_inv he hv (hS a)]
theorem SetM.put {D : DataW Unit} (hm : IsMap D) (hS : ∀ a, D.atKey (.int .i64 a) (.lit (.bool false)) = .lit (.bool (S a))) (a : Int) : IsMap (D.put (.int .i64 a) (.lit (.bool true))) ∧ ∀ c, (D.put (.int .i64 a) (.lit (.bool true))).atKey (.int .i64 c) (.lit (.bool false)) = .lit (.bool (S c || c == a)) := by
  refine ⟨hm.put _ _, fun c => ?_⟩
  by_cases hc : c = a
  · subst hc
    rw [atKey_put_same hm (by simp [WideAt.IsKeyLit])]
    simp
  · rw [atKey_put_other (by intro h; injection h with _ h; exact hc h), hS c]
    simp [hc]
/-- m[a] = true. -/
theorem wpList_setStore {ops : Array Oper} {rest : List Oper} {o : Oper} {ac : Act} {Q : Exit → Act → World → Prop}
    (hg : o.guard = none) (m x v : Operand) (t : TypeId) (hop : o.op = Op.mapUpdate t m x v ∨ o.op = Op.insert t m x v) (k e : TypeId)
    (ht : P.underlying t = some (.map k e)) (hk : P.underlying k = some (.int .i64)) (he : P.underlying e = some .bool) (b n : Nat) (S : Int → Bool)
    (hm : ac.eval m = .map (some b)) (hown : SetM P k e w b n S) (hn : n ≤ 9223372036854775806) (a : Int) (hx : ac.eval x = .int .i64 a) (hv : ac.eval v = .bool true) (ha : -9223372036854775808 ≤ a ∧ a ≤ 9223372036854775807)
    (hK : ∀ w', SetM P k e w' b (n + 1) (fun c => S c || c == a) → w.grownBy w' (some b) → wpList P ops Q rest (ac.put o.dst undef) w') :
    wpList P ops Q (o :: rest) ac w := by
  obtain ⟨D, ho, hM, hS⟩ := hown
  refine wpList_plain hg fun K' hK' => ?_
  obtain ⟨w', hrun, r1, r2⟩ := ho.update (int_keyed hk) ht (by unfold maxLen; omega) (key_int hk ha) (plainElem_bool he true)
  obtain ⟨h1, h2⟩ := SetM.put hM hS a
  unfold Oper.wp
  rcases hop with hop | hop
  · simp [execOp, hop, hm, hx, hv, hrun, Result.andThen]
    exact hK' _ _ (hK w' ⟨_, r1, h1, h2⟩ r2)
  · simp [execOp, hop, hm, hx, hv, hrun, Result.andThen]
    exact hK' _ _ (hK w' ⟨_, r1, h1, h2⟩ r2)
end
end Go.Proofs.Ytjjcjdefenbnjaa.MapB
