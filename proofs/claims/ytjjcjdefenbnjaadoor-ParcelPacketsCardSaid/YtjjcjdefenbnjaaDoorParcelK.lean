/- A packet's cells; what a reader handed out, in later worlds. -/
import Derived.Test.YtjjcjdefenbnjaaDoorParcelF
set_option linter.unusedVariables false
set_option linter.unusedSimpArgs false
namespace Go.Proofs.YtjjcjdefenbnjaaDoor.ParcelK
open Go.RowKit Go.Proofs.YtjjcjdefenbnjaaDoor.Lib Go.Proofs.YtjjcjdefenbnjaaDoor.Reg Go.Proofs.YtjjcjdefenbnjaaDoor.RegB Go.Proofs.YtjjcjdefenbnjaaDoor.PlainP Go.Proofs.YtjjcjdefenbnjaaDoor.DenomA Go.Proofs.YtjjcjdefenbnjaaDoor.ParcelA Go.Proofs.YtjjcjdefenbnjaaDoor.ParcelB Go.Proofs.YtjjcjdefenbnjaaDoor.ParcelC Go.Proofs.YtjjcjdefenbnjaaDoor.ParcelD Go.Proofs.YtjjcjdefenbnjaaDoor.ParcelE Go.Proofs.YtjjcjdefenbnjaaDoor.ParcelF
theorem pk_i (q : Pk) : (Tryd.prog.info? 36).map (·.size) = some (pkC q).size := by
  rw [show (pkC q).size = 7 from rfl]; kernel_rfl
theorem pkC_one (q : Pk) : (pkC q).all (·.oneCell') = true := by simp [pkC, Value.oneCell']
theorem alloc_pk (W : World) : (Instr.alloc 36 true (.tuple #[])).run Tryd.prog W = .ok (.pointer (some ⟨W.heap.size, 0, none⟩)) (W.alloc (.cells (pkC Pk.zero) 36)) := by kernel_rfl
theorem exec_store {P : Program} {o : Oper} {a : Act} {w : World} {ty t : TypeId} {x y : Operand} {g : Nat} {old cells : Array Value} (ho : o.op = .store ty x y) (hx : a.eval x = .pointer (some ⟨g, 0, none⟩)) (hy : a.eval y = .agg cells) (hg : w.heap[g]? = some (.cells old t (0, 0))) (hi : (P.info? ty).map (·.size) = some cells.size)
    (hold : old.size = cells.size) (h1 : cells.all (·.oneCell') = true) : (execOp a.eval o).run P w = .ok .skip (w.setRow g cells) := by
  unfold execOp
  simp only [ho, hx, hy, Instr.storeAt, Instr.sureAddr, Sem.run_bind, Sem.run_pure, Result.andThen_ok, run_storeVar_row w g t ty old cells hg hi hold h1]
theorem Got.turn {w0 w W : World} {pb : Nat} {A : Option Addr} {c : Nat} {l : List UInt8} (h : Got w pb A c l) (h1 : Below pb w0 w) (h2 : Below pb w0 W) : Got W pb A c l := Sl.move h (fun k hk => (h2.block k hk).trans (h1.block k hk).symm)
theorem got_str {w0 w : World} {pb : Nat} {A : Option Addr} {c : Nat} {l : List UInt8} (h : Got w pb A c l) (h1 : Below pb w0 w) : ∀ W, Below pb w0 W → (convert 22 9 (.slice A l.length c)).run Tryd.prog W = .ok (.string (S l)) W :=
  fun W hW => run_str (P := Tryd.prog) 22 5 9 Tryd.underlying22 Tryd.underlying5 Tryd.underlying9 (Got.turn h h1 hW)
end Go.Proofs.YtjjcjdefenbnjaaDoor.ParcelK
