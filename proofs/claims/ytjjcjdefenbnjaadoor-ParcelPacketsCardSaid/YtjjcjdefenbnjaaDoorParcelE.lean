/- Packets, answers, headers are read: contracts over any world. -/
import Derived.Test.YtjjcjdefenbnjaaDoorParcelD
import Derived.Test.YtjjcjdefenbnjaaDoorRegB
import Derived.Great.FillDense
set_option linter.unusedVariables false
set_option linter.unusedSimpArgs false
namespace Go.Proofs.YtjjcjdefenbnjaaDoor.ParcelE
open Go.RowKit Go.Proofs.YtjjcjdefenbnjaaDoor.Lib Go.Proofs.YtjjcjdefenbnjaaDoor.Reg Go.Proofs.YtjjcjdefenbnjaaDoor.RegB Go.Proofs.YtjjcjdefenbnjaaDoor.TlvA Go.Proofs.YtjjcjdefenbnjaaDoor.TlvC Go.Proofs.YtjjcjdefenbnjaaDoor.TlvF Go.Proofs.YtjjcjdefenbnjaaDoor.TlvI Go.Proofs.YtjjcjdefenbnjaaDoor.LawNums Go.Proofs.YtjjcjdefenbnjaaDoor.PlainP Go.Proofs.YtjjcjdefenbnjaaDoor.LawOne Go.Proofs.YtjjcjdefenbnjaaDoor.DenomA Go.Proofs.YtjjcjdefenbnjaaDoor.ParcelA Go.Proofs.YtjjcjdefenbnjaaDoor.ParcelB Go.Proofs.YtjjcjdefenbnjaaDoor.ParcelC Go.Proofs.YtjjcjdefenbnjaaDoor.ParcelD

theorem results_cell_tmp {P : Program} {fn : Func} {p q : Tmp} {ty : TypeId} (h : fn.results = #[.cell p ty, .tmp q]) (tmps : Array Value) (w : World) (g : Nat) (t : TypeId) (cs : Array Value) (fr : Nat × Nat) (d : TypeDesc)
    (hp : tmps.getD p undef = .pointer (some ⟨g, 0, none⟩)) (hg : w.heap[g]? = some (.cells cs t fr))
    (hu : P.underlying ty = some d) (hd : (match d with | .struct _ | .array _ _ => true | _ => false) = true) (hi : (P.info? ty).map (·.size) = some cs.size) :
    (results fn tmps).run P w = .ok (.tuple #[.agg cs, tmps.getD q undef]) w := by
  have hp' : tmps[p]?.getD undef = .pointer (some ⟨g, 0, none⟩) := by simpa using hp
  simp [results, h, hp', asAddr, run_loadVar_row w g t ty cs fr d hg hu hd hi]
theorem exec_alloc {P : Program} {o : Oper} {a : Act} {w : World} {t : TypeId} {z : Array Value} (ho : o.op = .alloc t) (h : (Instr.alloc t true (.tuple #[])).run P w = .ok (.pointer (some ⟨w.heap.size, 0, none⟩)) (w.alloc (.cells z t))) : (execOp a.eval o).run P w = .ok (.value (.pointer (some ⟨w.heap.size, 0, none⟩))) (w.alloc (.cells z t)) := by
  unfold execOp
  simp only [ho, Sem.run_bind, h, Result.andThen_ok, Sem.run_pure]
theorem exec_build {P : Program} {o : Oper} {a : Act} {w : World} {t : TypeId} {parts : Array (Nat × Operand)} {ps : List (Nat × Value)} {cells : Array Value} (ho : o.op = .build t parts) (hp : (parts.map fun (i, x) => (i, a.eval x)).toList = ps) (hb : P.built t ps = some cells) : (execOp a.eval o).run P w = .ok (.value (.agg cells)) w := by
  unfold execOp
  simp only [ho, Sem.run_bind, run_build w t _ cells (by rw [hp]; exact hb), Result.andThen_ok, Sem.run_pure]
/-- A part goes in behind others. -/
theorem fill_app {place : Nat → Option (Nat × Nat)} {pre tail x : List Value} {i : Nat} {v : Value} {rest : List (Nat × Value)} (hp : place i = some (pre.length, x.length)) (hv : v.cells.toList = x) (ht : x.length ≤ tail.length) :
    Instr.fill place (pre ++ tail).toArray ((i, v) :: rest) = Instr.fill place ((pre ++ x) ++ tail.drop x.length).toArray rest := by
  have hs : v.cells.size = x.length := by rw [← Array.length_toList, hv]
  conv => lhs; unfold Instr.fill
  simp only [hp]
  rw [if_neg (by simp [hs]; omega)]
  congr 1
  have e1 : (v.cells.zipIdx.foldl (fun (cs : Array Value) (y : Value × Nat) => cs.setIfInBounds (pre.length + y.2) y.1) (pre ++ tail).toArray) = ((v.cells.toList.zipIdx 0).foldl (fun (cs : Array Value) (y : Value × Nat) => cs.setIfInBounds (pre.length + y.2) y.1) (pre ++ tail).toArray) := by
    rw [← Array.foldl_toList, Array.toList_zipIdx]
  refine Eq.trans e1 ?_
  obtain ⟨h1, h2⟩ := Go.Great.foldl_set pre.length v.cells.toList 0 (pre ++ tail).toArray
  apply Array.ext_getElem?
  intro k
  rw [h2 k, hv]
  simp only [List.size_toArray, List.length_append, Nat.add_zero, List.getElem?_toArray]
  by_cases hk : k < pre.length
  · rw [if_neg (by omega), List.append_assoc, List.getElem?_append_left hk, List.getElem?_append_left hk]
  · by_cases hx : k < pre.length + x.length
    · rw [if_pos (by omega), List.getElem?_append_left (by simp; omega), List.getElem?_append_right (by omega)]
    · rw [if_neg (by omega), List.getElem?_append_right (by omega), List.getElem?_append_right (by simp; omega), List.getElem?_drop]
      congr 1
      simp
      omega
def zHd : List Value := [.int .u64 0, .int .u64 0] ++ List.replicate 128 (.int .u8 0)
def zHdA : Array Value := zHd.toArray
def plHd : Array (Nat × Nat) := #[(0, 1), (1, 1), (2, 32), (34, 32), (66, 32), (98, 32)]
theorem zHd_len : zHd.length = 130 := by simp [zHd]
theorem hdC_len {h : Hd} (k : h.ok) : (hdC h).length = 130 := by
  unfold hdC
  simp [k.root, k.vals, k.next, k.sel]
theorem hdC_one (h : Hd) : (hdC h).toArray.all (·.oneCell') = true := by
  rw [Array.all_eq_true_iff_forall_mem]
  intro v hv
  unfold hdC at hv
  simp at hv
  rcases hv with rfl | rfl | ⟨_, _, rfl⟩ | ⟨_, _, rfl⟩ | ⟨_, _, rfl⟩ | ⟨_, _, rfl⟩ <;> rfl
theorem zHd_eq : zHd = hdC Hd.zero := by rfl
theorem zHd_one : zHdA.all (·.oneCell') = true := by unfold zHdA; rw [zHd_eq]; exact hdC_one _
theorem rH_len (s : St) (t : UInt8) : (rH s t).1.length = 32 := by
  unfold rH
  split
  · exact Z32_len
  · split
    · exact Z32_len
    · rename_i h; rw [not_or] at h; simp only; omega
theorem rN_lt (s : St) (t : UInt8) : (rN s t).1 < 18446744073709551616 := valN_lt _
end Go.Proofs.YtjjcjdefenbnjaaDoor.ParcelE
