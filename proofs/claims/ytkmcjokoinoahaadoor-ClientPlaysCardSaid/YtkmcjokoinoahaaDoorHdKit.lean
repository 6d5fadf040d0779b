/- Headers and hashes: built, loaded, opened. -/
import Derived.Test.YtkmcjokoinoahaaDoorMBase
import Derived.Test.YtkmcjokoinoahaaDoorOpen
import Derived.Great.FillDense
import Derived.SizedLaws
set_option linter.unusedVariables false
set_option linter.unusedSimpArgs false
namespace Go.Proofs.YtkmcjokoinoahaaDoor.HdKit
open Go.ChangeShapes Go.WideShapes Go.ChangeAt Go.RowKit Go.Proofs.YtkmcjokoinoahaaDoor.Lib Go.Proofs.YtkmcjokoinoahaaDoor.Open Go.Proofs.YtkmcjokoinoahaaDoor.PlainP Go.Proofs.YtkmcjokoinoahaaDoor.ParcelA Go.Proofs.YtkmcjokoinoahaaDoor.ParcelB
theorem results_cell_tmp {P : Program} {fn : Func} {p q : Tmp} {ty : TypeId} (h : fn.results = #[.cell p ty, .tmp q]) (tmps : Array Value) (w : World) (g : Nat) (t : TypeId) (cs : Array Value) (fr : Nat × Nat) (d : TypeDesc)
    (hp : tmps.getD p undef = .pointer (some ⟨g, 0, none⟩)) (hg : w.heap[g]? = some (.cells cs t fr))
    (hu : P.underlying ty = some d) (hd : (match d with | .struct _ | .array _ _ => true | _ => false) = true) (hi : (P.info? ty).map (·.size) = some cs.size) :
    (results fn tmps).run P w = .ok (.tuple #[.agg cs, tmps.getD q undef]) w := by
  have hp' : tmps[p]?.getD undef = .pointer (some ⟨g, 0, none⟩) := by simpa using hp
  simp [results, h, hp', asAddr, run_loadVar_row w g t ty cs fr d hg hu hd hi]
theorem exec_allocK {P : Program} {o : Oper} {a : Act} {w : World} {t : TypeId} {z : Array Value} (ho : o.op = .alloc t) (h : (Instr.alloc t true (.tuple #[])).run P w = .ok (.pointer (some ⟨w.heap.size, 0, none⟩)) (w.alloc (.cells z t))) : (execOp a.eval o).run P w = .ok (.value (.pointer (some ⟨w.heap.size, 0, none⟩))) (w.alloc (.cells z t)) := by
  unfold execOp
  simp only [ho, Sem.run_bind, h, Result.andThen_ok, Sem.run_pure]
theorem exec_build {P : Program} {o : Oper} {a : Act} {w : World} {t : TypeId} {parts : Array (Nat × Operand)} {ps : List (Nat × Value)} {cells : Array Value} (ho : o.op = .build t parts) (hp : (parts.map fun (i, x) => (i, a.eval x)).toList = ps) (hb : P.built t ps = some cells) : (execOp a.eval o).run P w = .ok (.value (.agg cells)) w := by
  unfold execOp
  simp only [ho, Sem.run_bind, run_build w t _ cells (by rw [hp]; exact hb), Result.andThen_ok, Sem.run_pure]
/-- A part goes in behind others. -/
theorem fill_app {place : Nat → Option (Nat × Nat)} {pre tail x : List Value} {i : Nat} {v : Value} {rest : List (Nat × Value)} (hp : place i = some (pre.length, x.length)) (hv : v.cells.toList = x) (ht : x.length ≤ tail.length) :
    Instr.fill place (pre ++ tail).toArray ((i, v) :: rest) = Instr.fill place ((pre ++ x) ++ tail.drop x.length).toArray rest := by
  have hs : v.cells.size = x.length := by rw [← Array.length_toList, hv]
  conv => lhs; unfold Instr.fill
  simp only [hp]
  rw [if_neg (by simp [hs]; omega)]
  congr 1
  have e1 : (v.cells.zipIdx.foldl (fun (cs : Array Value) (y : Value × Nat) => cs.setIfInBounds (pre.length + y.2) y.1) (pre ++ tail).toArray) = ((v.cells.toList.zipIdx 0).foldl (fun (cs : Array Value) (y : Value × Nat) => cs.setIfInBounds (pre.length + y.2) y.1) (pre ++ tail).toArray) := by
    rw [← Array.foldl_toList, Array.toList_zipIdx]
  refine Eq.trans e1 ?_
  obtain ⟨h1, h2⟩ := Go.Great.foldl_set pre.length v.cells.toList 0 (pre ++ tail).toArray
  apply Array.ext_getElem?
  intro k
  rw [h2 k, hv]
  simp only [List.size_toArray, List.length_append, Nat.add_zero, List.getElem?_toArray]
  by_cases hk : k < pre.length
  · rw [if_neg (by omega), List.append_assoc, List.getElem?_append_left hk, List.getElem?_append_left hk]
  · by_cases hx : k < pre.length + x.length
    · rw [if_pos (by omega), List.getElem?_append_left (by simp; omega), List.getElem?_append_right (by omega)]
    · rw [if_neg (by omega), List.getElem?_append_right (by omega), List.getElem?_append_right (by simp; omega), List.getElem?_drop]
      congr 1
      simp
      omega
def zHd : List Value := [.int .u64 0, .int .u64 0] ++ List.replicate 128 (.int .u8 0)
def zHdA : Array Value := zHd.toArray
def plHd : Array (Nat × Nat) := #[(0, 1), (1, 1), (2, 32), (34, 32), (66, 32), (98, 32)]
theorem built_eq (ps : List (Nat × Value)) : Tryd.prog.built 54 ps = Instr.fill (plHd[·]?) zHdA ps := by kernel_rfl
theorem zHd_len : zHd.length = 130 := by simp [zHd]
theorem built_zero : Tryd.prog.built 54 [] = some zHdA := by rw [built_eq]; rfl
theorem built_hd (h : Hd) (k : h.ok) (c d e f : Array Value) (hc : c.toList = h.root.map vu8) (hd : d.toList = h.vals.map vu8) (he : e.toList = h.next.map vu8) (hf : f.toList = h.sel.map vu8) :
    Tryd.prog.built 54 [(0, .int .u64 (h.ht : Int)), (1, .int .u64 (h.tm : Int)), (2, .agg c), (3, .agg d), (4, .agg e), (5, .agg f)] = some (hdC h).toArray := by
  have l1 : (h.root.map vu8).length = 32 := by rw [List.length_map, k.root]
  have l2 : (h.vals.map vu8).length = 32 := by rw [List.length_map, k.vals]
  have l3 : (h.next.map vu8).length = 32 := by rw [List.length_map, k.next]
  have l4 : (h.sel.map vu8).length = 32 := by rw [List.length_map, k.sel]
  rw [built_eq]
  have hz := zHd_len
  have e0 : zHdA = ([] ++ zHd).toArray := rfl
  rw [e0, fill_app (x := [.int .u64 (h.ht : Int)]) (by rfl) (by rfl) (by simp [hz])]
  rw [fill_app (x := [.int .u64 (h.tm : Int)]) (by rfl) (by rfl) (by simp [hz])]
  rw [fill_app (v := .agg c) (x := h.root.map vu8) (by rw [l1]; rfl) hc (by simp only [List.length_map, k.root, k.vals, k.next, k.sel, List.length_drop, hz, List.length_cons, List.length_nil]; decide)]
  rw [fill_app (v := .agg d) (x := h.vals.map vu8) (by rw [l2, List.length_append, l1]; rfl) hd (by simp only [List.length_map, k.root, k.vals, k.next, k.sel, List.length_drop, hz, List.length_cons, List.length_nil]; decide)]
  rw [fill_app (v := .agg e) (x := h.next.map vu8) (by rw [l3, List.length_append, List.length_append, l1, l2]; rfl) he (by simp only [List.length_map, k.root, k.vals, k.next, k.sel, List.length_drop, hz, List.length_cons, List.length_nil]; decide)]
  rw [fill_app (v := .agg f) (x := h.sel.map vu8) (by rw [l4, List.length_append, List.length_append, List.length_append, l1, l2, l3]; rfl) hf (by simp only [List.length_map, k.root, k.vals, k.next, k.sel, List.length_drop, hz, List.length_cons, List.length_nil]; decide)]
  unfold Instr.fill
  congr 1
  rw [l1, l2, l3, l4]
  rw [List.drop_of_length_le (by simp only [List.length_drop, hz, List.length_cons, List.length_nil]; decide)]
  unfold hdC
  simp
theorem hdC_len {h : Hd} (k : h.ok) : (hdC h).length = 130 := by
  unfold hdC
  simp [k.root, k.vals, k.next, k.sel]
theorem hdC_one (h : Hd) : (hdC h).toArray.all (·.oneCell') = true := by
  rw [Array.all_eq_true_iff_forall_mem]
  intro v hv
  unfold hdC at hv
  simp at hv
  rcases hv with rfl | rfl | ⟨_, _, rfl⟩ | ⟨_, _, rfl⟩ | ⟨_, _, rfl⟩ | ⟨_, _, rfl⟩ <;> rfl
theorem zHd_eq : zHd = hdC Hd.zero := by rfl
theorem zHd_one : zHdA.all (·.oneCell') = true := by unfold zHdA; rw [zHd_eq]; exact hdC_one _
theorem hd_i {cs : Array Value} (h : cs.size = 130) : (Tryd.prog.info? 54).map (·.size) = some cs.size := by rw [h]; kernel_rfl
theorem alloc_hd (W : World) : (Instr.alloc 54 true (.tuple #[])).run Tryd.prog W = .ok (.pointer (some ⟨W.heap.size, 0, none⟩)) (W.alloc (.cells zHdA 54)) := by kernel_rfl
theorem exec_loadR {P : Program} {o : Oper} {a : Act} {w : World} {ty : TypeId} {x : Operand} (ho : o.op = .load ty x) {g : Nat} (hx : a.eval x = .pointer (some ⟨g, 0, none⟩)) {t : TypeId} {cs : Array Value} {fr : Nat × Nat} {d : TypeDesc} (hg : w.heap[g]? = some (.cells cs t fr))
    (hu : P.underlying ty = some d) (hd : (match d with | .struct _ | .array _ _ => true | _ => false) = true) (hi : (P.info? ty).map (·.size) = some cs.size) : (execOp a.eval o).run P w = .ok (.value (.agg cs)) w := by
  unfold execOp
  simp only [ho, hx, Instr.loadAt, Instr.sureAddr, Sem.run_bind, Sem.run_pure, Result.andThen_ok, run_loadVar_row w g t ty cs fr d hg hu hd hi]
section
variable {H : Type} {enc : TypeId × Value → H} {P : Program} {w : World}
/-- The last field. -/
theorem OpensFs.last {α : Type} {f : Field} {off : Nat} {r : Rep α} (ho : f.offset = off) (hC : P.cellsOf f.type = r.sz) (h1 : Opens enc P w f.type r) : OpensFs enc P w [f] off r := by
  intro n cs hl h
  obtain ⟨y, hy⟩ := h 0 f rfl
  obtain ⟨a, ha⟩ := h1 _ _ _ hy
  refine ⟨a, ?_⟩
  rw [ho, hC, List.take_of_length_le (by rw [List.length_drop]; omega)] at ha
  exact ha
end
section
variable {H : Type} {enc : TypeId × Value → H} {w : World}
def rHash : Rep (List UInt8) := rU8.array 32
set_option maxRecDepth 100000 in
theorem opens_hash : Opens enc Tryd.prog w 52 rHash := Opens.array (m := 32) hash_u (by kernel_rfl) (by kernel_rfl) (Opens.u8 Tryd.underlying5)
theorem rHash_cells {F : Nat → Prop} {x : List UInt8} {cs : List Value} (h : rHash.K w F x cs) : x.length = 32 ∧ cs = x.map vu8 := by
  obtain ⟨h1, h2, h3⟩ := h
  refine ⟨h1, ?_⟩
  have h2' : cs.length = 32 := h2
  apply List.ext_getElem?
  intro i
  by_cases hi : i < 32
  · have hx : x[i]? = some (x[i]'(by omega)) := List.getElem?_eq_getElem _
    have hk : (cs.drop (i * 1)).take 1 = [vu8 (x[i]'(by omega))] := h3 i _ hx
    rw [List.getElem?_map, hx]
    have := congrArg (fun l => l[0]?) hk
    simpa [List.getElem?_take, List.getElem?_drop] using this
  · rw [List.getElem?_eq_none (by omega), List.getElem?_eq_none (by simp; omega)]
set_option maxRecDepth 100000 in
theorem open_header {v : Value} {d : DataW H} {p : List MemPlace} {rr : Reach} {b0 : Nat} (hv : Value.okWide Tryd.prog w rr b0 54 v) (h : DataW.Trod enc Tryd.prog w 0 (fun _ => true) true 54 v d p) :
    ∃ (cs : Array Value) (k : Hd), v = .agg cs ∧ k.ok ∧ cs.toList = hdC k := by
  obtain ⟨cs, rfl, hcs⟩ := okWide_struct Tryd.underlying54 hv
  obtain ⟨fuel, hf⟩ := h
  have ho : Opens enc Tryd.prog w 54 (Rep.pair rU64 (Rep.pair rU64 (Rep.pair rHash (Rep.pair rHash (Rep.pair rHash rHash))))) :=
    Opens.struct Tryd.underlying54 (by kernel_rfl) (OpensFs.cons rfl (by kernel_rfl) (Opens.u64 Tryd.underlying50) (OpensFs.cons rfl (by kernel_rfl) (Opens.u64 Tryd.underlying50) (OpensFs.cons rfl (by kernel_rfl) opens_hash (OpensFs.cons rfl (by kernel_rfl) opens_hash (OpensFs.cons rfl (by kernel_rfl) opens_hash (OpensFs.last rfl (by kernel_rfl) opens_hash))))))
  obtain ⟨⟨a, b, c, e, f, g⟩, c0, r0, h0, k0, c1, r1, h1, k1, c2, r2, h2, k2, c3, r3, h3, k3, c4, r4, h4, k4, k5⟩ := ho _ _ _ hf
  subst h1 h2 h3 h4
  have q0 : c0 = [.int .u64 (a.toNat : Int)] := k0
  have q1 : c1 = [.int .u64 (b.toNat : Int)] := k1
  obtain ⟨l2, q2⟩ := rHash_cells k2
  obtain ⟨l3, q3⟩ := rHash_cells k3
  obtain ⟨l4, q4⟩ := rHash_cells k4
  obtain ⟨l5, q5⟩ := rHash_cells k5
  subst q0 q1 q2 q3 q4 q5
  refine ⟨cs, ⟨a.toNat, b.toNat, c, e, f, g⟩, rfl, ⟨a.toNat_lt, b.toNat_lt, l2, l3, l4, l5⟩, ?_⟩
  have h0' : cs.toList = _ := h0
  rw [h0']
  unfold hdC
  simp
end
end Go.Proofs.YtkmcjokoinoahaaDoor.HdKit
