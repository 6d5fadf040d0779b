/- What stands behind an argument that is a Hash. -/
import Derived.Test.YtkmcjokoinoahaaDoorHdKit
set_option linter.unusedVariables false
set_option linter.unusedSimpArgs false
namespace Go.Proofs.YtkmcjokoinoahaaDoor.ClientQ
open Go.ChangeShapes Go.WideShapes Go.ChangeAt Go.RowKit Go.Proofs.YtkmcjokoinoahaaDoor.Lib Go.Proofs.YtkmcjokoinoahaaDoor.Open Go.Proofs.YtkmcjokoinoahaaDoor.PlainP Go.Proofs.YtkmcjokoinoahaaDoor.ParcelA Go.Proofs.YtkmcjokoinoahaaDoor.ParcelB Go.Proofs.YtkmcjokoinoahaaDoor.HdKit
variable {H : Type} {enc : TypeId × Value → H} {w : World}
def zHashA : Array Value := (List.replicate 32 (Value.int .u8 0)).toArray
theorem okWide_array {P : Program} {r : Reach} {b0 : Nat} {t e : TypeId} {n : Nat} {v : Value} (ht : P.underlying t = some (.array n e)) (h : Value.okWide P w r b0 t v) : ∃ cs, v = .agg cs := by
  simp only [Value.okWide, ht] at h
  obtain ⟨cs, h1, -⟩ := h
  exact ⟨cs, h1⟩
set_option maxRecDepth 100000 in
theorem open_hash {v : Value} {d : DataW H} {p : List MemPlace} {rr : Reach} {b0 : Nat} (hv : Value.okWide Tryd.prog w rr b0 52 v) (h : DataW.Trod enc Tryd.prog w 0 (fun _ => true) true 52 v d p) :
    ∃ (cs : Array Value) (x : List UInt8), v = .agg cs ∧ x.length = 32 ∧ cs.toList = x.map vu8 := by
  obtain ⟨cs, rfl⟩ := okWide_array hash_u hv
  obtain ⟨fuel, hf⟩ := h
  obtain ⟨x, hx⟩ := opens_hash _ _ _ hf
  obtain ⟨h1, h2⟩ := rHash_cells hx
  exact ⟨cs, x, rfl, h1, h2⟩
end Go.Proofs.YtkmcjokoinoahaaDoor.ClientQ
