/- What stands behind an argument that is an Act. -/
import Derived.Test.YtkmcjokoinoahaaDoorClientM
import Derived.Test.YtkmcjokoinoahaaDoorHdKit
set_option linter.unusedVariables false
set_option linter.unusedSimpArgs false
namespace Go.Proofs.YtkmcjokoinoahaaDoor.ClientP
open Go.ChangeShapes Go.WideShapes Go.ChangeAt Go.RowKit Go.Proofs.YtkmcjokoinoahaaDoor.Lib Go.Proofs.YtkmcjokoinoahaaDoor.Open Go.Proofs.YtkmcjokoinoahaaDoor.PlainP Go.Proofs.YtkmcjokoinoahaaDoor.ParcelA Go.Proofs.YtkmcjokoinoahaaDoor.ParcelB Go.Proofs.YtkmcjokoinoahaaDoor.HdKit Go.Proofs.YtkmcjokoinoahaaDoor.ClientL
variable {H : Type} {enc : TypeId × Value → H} {w : World}
abbrev rHd : Rep (UInt64 × UInt64 × List UInt8 × List UInt8 × List UInt8 × List UInt8) := Rep.pair rU64 (Rep.pair rU64 (Rep.pair rHash (Rep.pair rHash (Rep.pair rHash rHash))))
set_option maxRecDepth 100000 in
theorem opens_hd : Opens enc Tryd.prog w 54 rHd :=
  Opens.struct Tryd.underlying54 (by kernel_rfl) (OpensFs.cons rfl (by kernel_rfl) (Opens.u64 Tryd.underlying50) (OpensFs.cons rfl (by kernel_rfl) (Opens.u64 Tryd.underlying50) (OpensFs.cons rfl (by kernel_rfl) opens_hash (OpensFs.cons rfl (by kernel_rfl) opens_hash (OpensFs.cons rfl (by kernel_rfl) opens_hash (OpensFs.last rfl (by kernel_rfl) opens_hash))))))
theorem hd_cells {F : Nat → Prop} {x : UInt64 × UInt64 × List UInt8 × List UInt8 × List UInt8 × List UInt8} {cs : List Value} (h : rHd.K w F x cs) : ∃ k : Hd, k.ok ∧ cs = hdC k := by
  obtain ⟨a, b, c, e, f, g⟩ := x
  obtain ⟨c0, r0, h0, k0, c1, r1, h1, k1, c2, r2, h2, k2, c3, r3, h3, k3, c4, r4, h4, k4, k5⟩ := h
  subst h0 h1 h2 h3 h4
  have q0 : c0 = [.int .u64 (a.toNat : Int)] := k0
  have q1 : c1 = [.int .u64 (b.toNat : Int)] := k1
  obtain ⟨l2, q2⟩ := rHash_cells k2
  obtain ⟨l3, q3⟩ := rHash_cells k3
  obtain ⟨l4, q4⟩ := rHash_cells k4
  obtain ⟨l5, q5⟩ := rHash_cells k5
  subst q0 q1 q2 q3 q4 q5
  refine ⟨⟨a.toNat, b.toNat, c, e, f, g⟩, ⟨a.toNat_lt, b.toNat_lt, l2, l3, l4, l5⟩, ?_⟩
  unfold hdC
  simp
set_option maxRecDepth 100000 in
theorem opens_act : Opens enc Tryd.prog w 70 (Rep.pair rU8 (Rep.pair rU8 (Rep.pair rHd (Rep.pair rU64 rBool)))) :=
  Opens.struct Tryd.underlying70 (by kernel_rfl) (OpensFs.cons rfl (by kernel_rfl) (Opens.u8 Tryd.underlying5) (OpensFs.cons rfl (by kernel_rfl) (Opens.u8 Tryd.underlying5) (OpensFs.cons rfl (by kernel_rfl) opens_hd (OpensFs.cons rfl (by kernel_rfl) (Opens.u64 Tryd.underlying50) (OpensFs.last rfl (by kernel_rfl) (Opens.bool Tryd.underlying4))))))
def zAcA : Array Value := (([Value.int .u8 0, Value.int .u8 0] : List Value) ++ HdKit.zHd ++ ([Value.int .u64 0, Value.bool false] : List Value)).toArray
set_option maxRecDepth 100000 in
theorem open_act {v : Value} {d : DataW H} {p : List MemPlace} {rr : Reach} {b0 : Nat} (hv : Value.okWide Tryd.prog w rr b0 70 v) (h : DataW.Trod enc Tryd.prog w 0 (fun _ => true) true 70 v d p) :
    ∃ (cs : Array Value) (k : Ac), v = .agg cs ∧ k.ok ∧ cs.toList = acC k := by
  obtain ⟨cs, rfl, hcs⟩ := okWide_struct Tryd.underlying70 hv
  obtain ⟨fuel, hf⟩ := h
  obtain ⟨⟨a, b, x, n, s⟩, c0, r0, h0, k0, c1, r1, h1, k1, c2, r2, h2, k2, c3, r3, h3, k3, k4⟩ := opens_act _ _ _ hf
  subst h1 h2 h3
  have q0 : c0 = [.int .u8 (a.toNat : Int)] := k0
  have q1 : c1 = [.int .u8 (b.toNat : Int)] := k1
  obtain ⟨k, hk, q2⟩ := hd_cells k2
  have q3 : c3 = [.int .u64 (n.toNat : Int)] := k3
  have q4 : r3 = [.bool s] := k4
  subst q0 q1 q2 q3 q4
  refine ⟨cs, ⟨a.toNat, b.toNat, k, n.toNat, s⟩, rfl, ⟨a.toNat_lt, b.toNat_lt, hk, n.toNat_lt⟩, ?_⟩
  have h0' : cs.toList = _ := h0
  rw [h0']
  unfold acC
  simp
end Go.Proofs.YtkmcjokoinoahaaDoor.ClientP
