/- What the rows of words lay and open: the table; lists of acts, of numbers. -/
import Derived.Test.YtkmcjokoinoahaaDoorRows
import Derived.Test.YtkmcjokoinoahaaDoorWordsE
import Derived.Test.YtkmcjokoinoahaaDoorOpen
set_option linter.unusedVariables false
set_option linter.unusedSimpArgs false
namespace Go.Proofs.YtkmcjokoinoahaaDoor.WordsO
open Go.ChangeShapes Go.WideShapes Go.ChangeAt Go.RowKit Go.Proofs.YtkmcjokoinoahaaDoor.Lib Go.Proofs.YtkmcjokoinoahaaDoor.Open Go.Proofs.YtkmcjokoinoahaaDoor.WordsC Go.Proofs.YtkmcjokoinoahaaDoor.WordsE
theorem tab {W : World} (h : laidMetH Tryd.prog [("math/bits.deBruijn64tab", Rows.laid_math_bits_deBruijn64tab)] W) : LaidB W := by
  have h : laidMet Tryd.prog [("math/bits.deBruijn64tab", Rows.laid_math_bits_deBruijn64tab)] W := h
  exact laidB_of h List.mem_cons_self (by kernel_rfl)
section
variable {H : Type} {enc : TypeId × Value → H} {w : World} {P : Program}
theorem last' {α : Type} {f : Field} {off : Nat} {r : Rep α} (ho : f.offset = off) (hC : P.cellsOf f.type = r.sz) (h1 : Opens enc P w f.type r) : OpensFs enc P w [f] off r := by
  intro n cs hl h
  obtain ⟨y, hy⟩ := h 0 f rfl
  obtain ⟨a, ha⟩ := h1 _ _ _ hy
  refine ⟨a, ?_⟩
  rw [ho, hC, List.take_of_length_le (by rw [List.length_drop]; omega)] at ha
  exact ha
set_option maxRecDepth 100000 in
theorem open_acts {v : Value} {d : DataW H} {p : List MemPlace} {rr : Reach} {b0 : Nat} (hv : Value.okWide Tryd.prog w rr b0 87 v) (h : DataW.Trod enc Tryd.prog w 0 (fun _ => true) true 87 v d p) :
    ∃ (a : Option Addr) (n c : Nat) (xs : List (UInt8 × UInt64 × Bool)), v = .slice a n c ∧ Sl rAc w (fun k => k < w.heap.size) a n c xs :=
  Opens.param (Opens.struct Tryd.underlying91 (by kernel_rfl) (OpensFs.cons rfl (by kernel_rfl) (Opens.u8 Tryd.underlying5) (OpensFs.cons rfl (by kernel_rfl) (Opens.u64 Tryd.underlying50) (last' rfl (by kernel_rfl) (Opens.bool Tryd.underlying4))))) Tryd.underlying87 (by kernel_rfl) (by decide) hv h
set_option maxRecDepth 100000 in
theorem open_nums {v : Value} {d : DataW H} {p : List MemPlace} {rr : Reach} {b0 : Nat} (hv : Value.okWide Tryd.prog w rr b0 61 v) (h : DataW.Trod enc Tryd.prog w 0 (fun _ => true) true 61 v d p) :
    ∃ (a : Option Addr) (n c : Nat) (xs : List UInt64), v = .slice a n c ∧ Sl rU64 w (fun k => k < w.heap.size) a n c xs :=
  Opens.param (Opens.u64 Tryd.underlying50) Tryd.underlying61 (by kernel_rfl) (by decide) hv h
end
end Go.Proofs.YtkmcjokoinoahaaDoor.WordsO
