/- The reader of sums: a contract over any world. -/
import Derived.Test.YtjjcjdefenbnjaaDoorParcelC
import Derived.Laws.CopyRow
import Derived.Laws.CopyOwn
set_option linter.unusedVariables false
set_option linter.unusedSimpArgs false
namespace Go.Proofs.YtjjcjdefenbnjaaDoor.ParcelD
open Go.RowKit Go.Proofs.YtjjcjdefenbnjaaDoor.Lib Go.Proofs.YtjjcjdefenbnjaaDoor.Reg Go.Proofs.YtjjcjdefenbnjaaDoor.TlvA Go.Proofs.YtjjcjdefenbnjaaDoor.TlvC Go.Proofs.YtjjcjdefenbnjaaDoor.TlvF Go.Proofs.YtjjcjdefenbnjaaDoor.TlvI Go.Proofs.YtjjcjdefenbnjaaDoor.LawNums Go.Proofs.YtjjcjdefenbnjaaDoor.PlainP Go.Proofs.YtjjcjdefenbnjaaDoor.LawOne Go.Proofs.YtjjcjdefenbnjaaDoor.DenomA Go.Proofs.YtjjcjdefenbnjaaDoor.ParcelA Go.Proofs.YtjjcjdefenbnjaaDoor.ParcelB Go.Proofs.YtjjcjdefenbnjaaDoor.ParcelC

theorem bytes_one {x : List UInt8} {cs : Array Value} (hc : cs.toList = x.map vu8) : cs.all (·.oneCell') = true := by
  rw [Array.all_eq_true_iff_forall_mem]
  intro v hv
  have : v ∈ x.map vu8 := by rw [← hc]; simpa using hv
  obtain ⟨b, _, rfl⟩ := List.mem_map.1 this
  rfl
theorem bytes_size {x : List UInt8} {cs : Array Value} (hc : cs.toList = x.map vu8) (hx : x.length = 32) : cs.size = 32 := by rw [← Array.length_toList, hc, List.length_map, hx]
theorem hash_i {cs : Array Value} (h : cs.size = 32) : (Tryd.prog.info? 25).map (·.size) = some cs.size := by rw [h]; kernel_rfl
theorem arr_i {cs : Array Value} (h : cs.size = 32) : (Tryd.prog.info? 24).map (·.size) = some cs.size := by rw [h]; kernel_rfl
theorem arr_u : Tryd.prog.underlying 24 = some (.array 32 5) := Tryd.underlying24
theorem arr_c : Tryd.prog.cellsOf 24 = 32 := by kernel_rfl
theorem arr_k : Tryd.prog.keyTypeAt 2 24 = true := by kernel_rfl
theorem heap_new (W : World) (o : Obj) : (W.alloc o).heap[W.heap.size]? = some o := heap_alloc_new W o
/-- A whole array from wherever its cells lie. -/
theorem exec_load {P : Program} {o : Oper} {a : Act} {w : World} {ty : TypeId} {x : Operand} {ad : Addr} {cs : Array Value} {n : Nat} {e : TypeId} (ho : o.op = .load ty x) (hx : a.eval x = .pointer (some ad)) (hc : ∀ (j : Nat) v, cs.toList[j]? = some v → w.cell? (ad.add j) = some v)
    (hu : P.underlying ty = some (.array n e)) (hi : (P.info? ty).map (·.size) = some cs.size) : (execOp a.eval o).run P w = .ok (.value (.agg cs)) w := by
  have hl : (loadCells ad cs.toList.length).run P w = .ok cs.toList.toArray w := run_loadCells_list (P := P) w ad cs.toList hc
  cases hq : P.info? ty with
  | none => simp [hq] at hi
  | some i =>
    have hs : i.size = cs.size := by simpa [hq] using hi
    have hagg : (isAgg ty).run P w = .ok true w := by
      unfold isAgg
      rw [Sem.run_bind, run_underlying hu w]
      simp
    have hlv : (loadVar ty ad).run P w = .ok (.agg cs) w := by
      have hl' : (loadCells ad cs.size).run P w = .ok cs w := by simpa using hl
      simp [loadVar, Sem.run_bind, hagg, sizeOf, typeInfo, hq, hs, hl']
    unfold execOp
    simp only [ho, hx, Instr.loadAt, Instr.sureAddr, Sem.run_bind, Sem.run_pure, Result.andThen_ok, hlv]
/-- copy(row, bytes). -/
theorem exec_copy {P : Program} {o : Oper} {a : Act} {s x : Operand} {t u : TypeId} {v y : Value} (w : World) (ho : o.op = .call { callee := .builtin .copy, args := #[s, x], argTypes := #[t, u] }) (hs : a.eval s = v) (hx : a.eval x = y)
    {v' : Value} {w' : World} (hr : (Builtin.copy_ #[t, u] o.type #[v, y]).run P w = .ok v' w') : (execOp a.eval o).run P w = .ok (.value v') w' := by
  unfold execOp
  simp only [ho, resolve, invoke, builtin, Sem.run_bind, Sem.run_pure, Result.andThen_ok, List.map_toArray, List.map_cons, List.map_nil, hs, hx, hr]
theorem got_cells {w : World} {pb : Nat} {ad : Addr} {c : Nat} {v : List UInt8} (h : Got w pb (some ad) c v) {cs : Array Value} (hc : cs.toList = v.map vu8) : ∀ (j : Nat) u, cs.toList[j]? = some u → w.cell? (ad.add j) = some u := by
  intro j u hj
  rw [hc, List.getElem?_map] at hj
  obtain ⟨b, hb, rfl⟩ := Option.map_eq_some_iff.1 hj
  obtain ⟨ad', e, _, hcell⟩ := Sl.byte h hb
  injection e with e
  subst e
  exact hcell
theorem Below.row {B g : Nat} {w W : World} (h : Below B w W) (hg : B ≤ g) (cs : Array Value) : Below B w (W.setRow g cs) := below_setRow h hg cs
theorem zA_size : zA.size = 32 := rfl
theorem zA_one : zA.all (·.oneCell') = true := bytes_one zA_list
end Go.Proofs.YtjjcjdefenbnjaaDoor.ParcelD
