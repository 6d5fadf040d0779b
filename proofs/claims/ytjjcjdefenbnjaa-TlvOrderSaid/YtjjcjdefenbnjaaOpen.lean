/- A law's arguments opened: what the form reads as data, as slices that are read (Sl). Over any program. -/
import Derived.Test.YtjjcjdefenbnjaaLib
import Derived.ProofKit
import Derived.OpenShut
import Derived.Deep.Slices
set_option linter.unusedVariables false
set_option linter.unusedSimpArgs false
namespace Go.Proofs.Ytjjcjdefenbnjaa.Open
open Go.ChangeShapes Go.WideShapes Go.ChangeAt Go.RowKit Go.Proofs.Ytjjcjdefenbnjaa.Lib
section
variable {H : Type} {enc : TypeId × Value → H} {P : Program} {w : World}
theorem wf_u8 {z : Int} (h : (Lit.int .u8 z).wf = true) : 0 ≤ z ∧ z ≤ 255 := by simpa [Lit.wf, IntKind.signed, IntKind.bits, IntKind.min, IntKind.max] using h
theorem wf_u16 {z : Int} (h : (Lit.int .u16 z).wf = true) : 0 ≤ z ∧ z ≤ 65535 := by simpa [Lit.wf, IntKind.signed, IntKind.bits, IntKind.min, IntKind.max] using h
theorem wf_u64 {z : Int} (h : (Lit.int .u64 z).wf = true) : 0 ≤ z ∧ z ≤ 18446744073709551615 := by simpa [Lit.wf, IntKind.signed, IntKind.bits, IntKind.min, IntKind.max] using h
theorem wf_i64 {z : Int} (h : (Lit.int .i64 z).wf = true) : -9223372036854775808 ≤ z ∧ z ≤ 9223372036854775807 := by simpa [Lit.wf, IntKind.signed, IntKind.bits, IntKind.min, IntKind.max] using h
theorem byte_of (z : Int) (h : (Lit.int .u8 z).wf = true) : ((UInt8.ofNat z.toNat).toNat : Int) = z := by
  have h' := wf_u8 h
  rw [UInt8.toNat_ofNat']
  omega
/-- []byte. -/
theorem open_bytes {t e : TypeId} {v : Value} {d : DataW H} {p : List MemPlace} {r : Reach} {b0 : Nat} (ht : P.underlying t = some (.slice e)) (he : P.underlying e = some (.int .u8)) (hC : P.cellsOf e = 1) (hv : Value.okWide P w r b0 t v) (h : DataW.Trod enc P w 0 (fun _ => true) true t v d p) :
    ∃ (a : Option Addr) (n c : Nat) (l : List UInt8), v = .slice a n c ∧ Sl rU8 w (fun k => k < w.heap.size) a n c l := by
  obtain ⟨a, n, c, rfl⟩ := okWide_slice ht hv
  obtain ⟨fuel, hf⟩ := h
  rcases open_ints ht he hC hf with ⟨hcs, _⟩ | ⟨x, l, c', zs, hcs, _, hl, hm, hz, _, hcell, hwz⟩
  · simp [Value.cells] at hcs
    obtain ⟨rfl, rfl, rfl⟩ := hcs
    exact ⟨none, 0, 0, [], rfl, Sl.nil _ _ _ _ _ (by omega)⟩
  · simp [Value.cells] at hcs
    obtain ⟨rfl, rfl, rfl⟩ := hcs
    simp only [if_true] at hz
    simp only [maxLen] at hm
    refine ⟨_, _, _, (zs.take n).map fun z => UInt8.ofNat z.toNat, rfl, hl, hm, by rw [List.length_map, List.length_take]; omega, fun hn => ⟨x, rfl, ?_, fun i b hi => ⟨[vu8 b], rfl, fun j u hj => ?_⟩⟩⟩
    · have := lt_of_cell (hcell 0 (by omega))
      rwa [Lib.block_add] at this
    · match j, hj with
      | 0, hj =>
        simp at hj
        subst hj
        simp only [List.getElem?_map, Option.map_eq_some_iff] at hi
        obtain ⟨z, hzi, rfl⟩ := hi
        rw [List.getElem?_take] at hzi
        split at hzi
        · rename_i hin
          obtain ⟨hlz, hze⟩ := List.getElem?_eq_some_iff.1 hzi
          have hc := hcell i hlz
          rw [List.getD_eq_getElem?_getD, hzi] at hc
          simp only [Option.getD_some] at hc
          show w.cell? (x.add (i * 1 + 0)) = _
          rw [Nat.mul_one, Nat.add_zero, hc]
          unfold vu8
          rw [byte_of z (hwz z (hze ▸ List.getElem_mem hlz))]
        · cases hzi
end
end Go.Proofs.Ytjjcjdefenbnjaa.Open
