/- parcel.Seal: a contract over any world. -/
import Derived.Test.YtkmcjokoinoahaaDoorMBase
import Derived.Test.YtkmcjokoinoahaaDoorShaE
import Derived.Test.YtkmcjokoinoahaaDoorRegC
import Derived.Deep.MidRow
set_option linter.unusedVariables false
set_option linter.unusedSimpArgs false
namespace Go.Proofs.YtkmcjokoinoahaaDoor.SealA
open Go.RowKit Go.Proofs.YtkmcjokoinoahaaDoor.Lib Go.Proofs.YtkmcjokoinoahaaDoor.LibB Go.Proofs.YtkmcjokoinoahaaDoor.Reg Go.Proofs.YtkmcjokoinoahaaDoor.RegC Go.Proofs.YtkmcjokoinoahaaDoor.PlainS Go.Proofs.YtkmcjokoinoahaaDoor.ShaB Go.Proofs.YtkmcjokoinoahaaDoor.ShaC Go.Proofs.YtkmcjokoinoahaaDoor.ShaD Go.Proofs.YtkmcjokoinoahaaDoor.ShaDS Go.Proofs.YtkmcjokoinoahaaDoor.ShaE Go.Proofs.YtkmcjokoinoahaaDoor.PlainP Go.Proofs.YtkmcjokoinoahaaDoor.ParcelB
/-- Cells from o on turned. -/
def setFrom (cs : Array Value) : Nat → List Value → Array Value
  | _, [] => cs
  | o, v :: vs => setFrom (cs.setIfInBounds o v) (o + 1) vs
theorem setFrom_list : ∀ (vs pre old post : List Value) (cs : Array Value), cs.toList = pre ++ old ++ post → old.length = vs.length → (setFrom cs pre.length vs).toList = pre ++ vs ++ post
  | [], pre, old, post, cs, h, hl => by
    have : old = [] := List.eq_nil_of_length_eq_zero hl
    subst this
    simpa [setFrom] using h
  | v :: vs, pre, [], post, cs, h, hl => by cases hl
  | v :: vs, pre, x :: old, post, cs, h, hl => by
    have h1 : (cs.setIfInBounds pre.length v).toList = (pre ++ [v]) ++ old ++ post := by
      rw [Array.toList_setIfInBounds, h]
      simp
    have h2 := setFrom_list vs (pre ++ [v]) old post _ h1 (by simpa using hl)
    rw [List.length_append, List.length_singleton] at h2
    show (setFrom (cs.setIfInBounds pre.length v) (pre.length + 1) vs).toList = _
    rw [h2]
    simp
theorem row_setCells {b : Nat} {t : TypeId} : ∀ (vs : List Value) (o : Nat) (w : World) (cs : Array Value), w.heap[b]? = some (.cells cs t (0, 0)) → (w.setCells b o vs).heap[b]? = some (.cells (setFrom cs o vs) t (0, 0))
  | [], _, _, _, h => h
  | v :: vs, o, w, cs, h => row_setCells vs (o + 1) _ _ (row_set v h)
theorem below_setCells {B b : Nat} {a : World} : ∀ (vs : List Value) (o : Nat) {w : World}, Below B a w → B ≤ b → Below B a (w.setCells b o vs)
  | [], _, _, h, _ => h
  | v :: vs, o, w, h, hb => below_setCells vs (o + 1) (h.setCell (p := ⟨b, o, none⟩) hb v) hb
theorem other_setCells {b k : Nat} (hk : k ≠ b) : ∀ (vs : List Value) (o : Nat) (w : World), (w.setCells b o vs).heap[k]? = w.heap[k]?
  | [], _, _ => rfl
  | v :: vs, o, w => (other_setCells hk vs (o + 1) _).trans (Below.heap_setCell _ _ _ _ hk)
theorem size_setCells' {b : Nat} : ∀ (vs : List Value) (o : Nat) (w : World), (w.setCells b o vs).heap.size = w.heap.size
  | [], _, _ => rfl
  | v :: vs, o, w => (size_setCells' vs (o + 1) _).trans (by simp)
theorem there_row {w : World} {g n : Nat} {cs : Array Value} {t : TypeId} (h : w.heap[g]? = some (.cells cs t (0, 0))) (hn : cs.size = n) {o m : Nat} (ho : o + m ≤ n) : w.there g o m := fun j hj => by
  have hlt : o + j < cs.size := by omega
  refine ⟨?_, row_free h⟩
  rw [row_cell h (Array.getElem?_eq_getElem hlt)]
  rfl
/-- '[]byte("..")': the row is marked. -/
theorem conv_const {P : Program} (W : World) (t e : TypeId) (g : Nat) (C : Array Value) (n c : Nat) (ht : P.underlying t = some (.slice e)) (he : P.underlying e = some (.int .u8)) (hg : W.heap[g]? = some (.cells C e (0, 0))) :
    ∃ W', (convert t t (.slice (some ⟨g, 0, none⟩) n c)).run P W = .ok (.slice (some ⟨g, 0, none⟩) n c) W' ∧ Below g W W' ∧ (∀ k, k ≠ g → W'.heap[k]? = W.heap[k]?) ∧ (∀ i v, W.cell? ⟨g, i, none⟩ = some v → W'.cell? ⟨g, i, none⟩ = some v) ∧ W'.heap.size = W.heap.size := by
  have hsh : W.shape? g = some (e, C.size) := by unfold World.shape?; rw [hg]
  obtain ⟨m, hm⟩ : ∃ m, (W.freeze ⟨g, C.size, none⟩ 1).heap[g]? = some (.cells C e m) := by
    unfold World.freeze
    rw [if_neg (by decide)]
    simp [Array.getElem?_modify, hg]
  have hk : ∀ k, k ≠ g → (W.freeze ⟨g, C.size, none⟩ 1).heap[k]? = W.heap[k]? := fun k hk => by
    unfold World.freeze
    rw [if_neg (by decide)]
    simp only [Array.getElem?_modify]
    rw [if_neg (fun h => hk h.symm)]
  have hs : (W.freeze ⟨g, C.size, none⟩ 1).heap.size = W.heap.size := by
    unfold World.freeze
    rw [if_neg (by decide)]
    simp
  refine ⟨W.freeze ⟨g, C.size, none⟩ 1, ?_, ⟨?_, ?_, ?_, by omega, fun k hlt => hk k (by omega)⟩, hk, fun i v h => ?_, hs⟩
  · simp [convert, run_underlying ht, run_underlying he, markStringish, hsh]
  · unfold World.freeze
    rw [if_neg (by decide)]
  · unfold World.freeze
    rw [if_neg (by decide)]
  · unfold World.freeze
    rw [if_neg (by decide)]
  · unfold World.cell? at h ⊢
    simp only [hg, hm] at h ⊢
    exact h
theorem oneCell_bytes (x : List UInt8) : (x.map vu8).toArray.all (·.oneCell') = true := bytes_one (x := x) rfl
theorem share {P : Program} {ops : Array Oper} {S : World → Prop} {Q : Exit → Act → World → Prop} {p : Plan} {a : Act} {w : World} (R : Plan) (Pre : Act → World → Prop) (h : ∀ a W, Pre a W → wpPlan P ops S Q R a W) (k : (∀ a W, Pre a W → wpPlan P ops S Q R a W) → wpPlan P ops S Q p a w) : wpPlan P ops S Q p a w := k h
theorem exec_loadRow {P : Program} {o : Oper} {a : Act} {w : World} {ty : TypeId} {x : Operand} (ho : o.op = .load ty x) {g : Nat} (hx : a.eval x = .pointer (some ⟨g, 0, none⟩)) {t : TypeId} {cs : Array Value} {d : TypeDesc} (hh : w.heap[g]? = some (.cells cs t (0, 0)))
    (hu : P.underlying ty = some d) (hd : d.isRow = true) (hi : (P.info? ty).map (·.size) = some cs.size) : (execOp a.eval o).run P w = .ok (.value (.agg cs)) w := by
  have h := run_loadAt_mid (P := P) w g 0 ty cs.toList d (fun j v hj => by rw [Nat.zero_add]; exact row_cell hh (by simpa using hj)) hu hd (by simpa using hi)
  unfold execOp
  simp only [ho, hx, Sem.run_bind, h, Result.andThen_ok, Sem.run_pure]
theorem exec_storeRow {P : Program} {o : Oper} {a : Act} {w : World} {ty t : TypeId} {x y : Operand} {g : Nat} {old cells : Array Value} (ho : o.op = .store ty x y) (hx : a.eval x = .pointer (some ⟨g, 0, none⟩)) (hy : a.eval y = .agg cells) (hg : w.heap[g]? = some (.cells old t (0, 0))) (hi : (P.info? ty).map (·.size) = some cells.size)
    (hold : old.size = cells.size) (h1 : cells.all (·.oneCell') = true) : (execOp a.eval o).run P w = .ok .skip (w.setRow g cells) := by
  unfold execOp
  simp only [ho, hx, hy, Instr.storeAt, Instr.sureAddr, Sem.run_bind, Sem.run_pure, Result.andThen_ok, run_storeVar_row w g t ty old cells hg hi hold h1]
theorem exec_conv {P : Program} {o : Oper} {a : Act} {w w' : World} {t u : TypeId} {x : Operand} {p v : Value} (ho : o.op = .convert t u x) (hx : a.eval x = p) (hr : (convert t u p).run P w = .ok v w') : (execOp a.eval o).run P w = .ok (.value v) w' := by
  unfold execOp
  rw [ho]
  show ((convert t u (a.eval x)) >>= _).run P w = _
  rw [Sem.run_bind, hx, hr]
  rfl
theorem sl_three (W : World) (e : TypeId) {F : Nat → Prop} {A B C : Option Addr} {n1 c1 n2 c2 n3 c3 : Nat} {l1 l2 l3 : List UInt8} (h1 : Sl rU8 W F A n1 c1 l1) (h2 : Sl rU8 W F B n2 c2 l2) (h3 : Sl rU8 W F C n3 c3 l3) (hF : ∀ k, F k → k < W.heap.size) :
    Sl (Rep.slice rU8) (W.alloc (.cells #[.slice A n1 c1, .slice B n2 c2, .slice C n3 c3] e)) (fun k => k < W.heap.size + 1) (some ⟨W.heap.size, 0, none⟩) 3 3 [l1, l2, l3] := by
  have hm : Same F W (W.alloc (.cells #[.slice A n1 c1, .slice B n2 c2, .slice C n3 c3] e)) := Same.of_below ((Below.refl _ _).alloc (Nat.le_refl _) _) hF
  refine (Sl.box (F := F) (xs := [l1, l2, l3]) W e (sl_cons (h1.move hm) (sl_cons (h2.move hm) (sl_cons (h3.move hm) (Els.nil _ _ _)))) (by simp)).mono ?_
  rintro k (hk | rfl)
  · exact Nat.lt_succ_of_lt (hF k hk)
  · exact Nat.lt_succ_self _
/-- A part of a row of bytes, read as a slice. -/
theorem sl_part {W : World} {b o n : Nat} {x : List UInt8} (h : W.rangeAt b o (x.map vu8)) (hn : x.length = n) (hm : n ≤ 9223372036854775807) : Sl rU8 W (fun k => k = b) (some ⟨b, o, none⟩) n n x := by
  subst hn
  exact Sl.of_els (Els.bytes W _ x) (fun j u hu => by rw [Addr.add_mid]; exact h j u hu) (fun _ => rfl) (Nat.le_refl _) hm
theorem hdC_seal {h : Hd} (hk : h.ok) (cs : Array Value) (hcs : cs.toList = hdC h) (x : List UInt8) (hx : x.length = 32) : (setFrom cs 98 (x.map vu8)).toList = hdC { h with sel := x } := by
  have hp : ([Value.int .u64 (h.ht : Int), .int .u64 (h.tm : Int)] ++ (h.root.map vu8 ++ (h.vals.map vu8 ++ h.next.map vu8))).length = 98 := by simp [hk.root, hk.vals, hk.next]
  have := setFrom_list (x.map vu8) ([Value.int .u64 (h.ht : Int), .int .u64 (h.tm : Int)] ++ (h.root.map vu8 ++ (h.vals.map vu8 ++ h.next.map vu8))) (h.sel.map vu8) [] cs (by rw [hcs]; simp [hdC]) (by simp [hk.sel, hx])
  rw [hp] at this
  rw [this]
  simp [hdC]
end Go.Proofs.YtkmcjokoinoahaaDoor.SealA
