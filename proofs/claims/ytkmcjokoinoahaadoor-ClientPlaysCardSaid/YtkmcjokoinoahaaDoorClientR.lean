/- What stands behind an argument that is a list of Acts. -/
import Derived.Test.YtkmcjokoinoahaaDoorClientP
set_option linter.unusedVariables false
set_option linter.unusedSimpArgs false
namespace Go.Proofs.YtkmcjokoinoahaaDoor.ClientR
open Go.ChangeShapes Go.WideShapes Go.ChangeAt Go.RowKit Go.Proofs.YtkmcjokoinoahaaDoor.Lib Go.Proofs.YtkmcjokoinoahaaDoor.Open Go.Proofs.YtkmcjokoinoahaaDoor.PlainP Go.Proofs.YtkmcjokoinoahaaDoor.ParcelA Go.Proofs.YtkmcjokoinoahaaDoor.ParcelB Go.Proofs.YtkmcjokoinoahaaDoor.HdKit Go.Proofs.YtkmcjokoinoahaaDoor.ClientL Go.Proofs.YtkmcjokoinoahaaDoor.ClientP
def rAc : Rep Ac where
  sz := 134
  K := fun _ _ a cs => cs = acC a ∧ a.ok
  len := by rintro w F x cs ⟨rfl, h⟩; exact acC_len h
  one := by
    rintro w F x cs ⟨rfl, h⟩ u hu
    unfold acC at hu
    rw [List.mem_append, List.mem_append] at hu
    rcases hu with hu | hu | hu
    · simp at hu; rcases hu with rfl | rfl <;> rfl
    · have := HdKit.hdC_one x.h
      rw [Array.all_eq_true_iff_forall_mem] at this
      exact this u (by simpa using hu)
    · simp at hu; rcases hu with rfl | rfl <;> rfl
  move := fun _ h => h
  mono := fun _ h => h
abbrev rAw : Rep (UInt8 × UInt8 × (UInt64 × UInt64 × List UInt8 × List UInt8 × List UInt8 × List UInt8) × UInt64 × Bool) := Rep.pair rU8 (Rep.pair rU8 (Rep.pair rHd (Rep.pair rU64 rBool)))
def gAc (y : UInt8 × UInt8 × (UInt64 × UInt64 × List UInt8 × List UInt8 × List UInt8 × List UInt8) × UInt64 × Bool) : Ac :=
  ⟨y.1.toNat, y.2.1.toNat, ⟨y.2.2.1.1.toNat, y.2.2.1.2.1.toNat, y.2.2.1.2.2.1, y.2.2.1.2.2.2.1, y.2.2.1.2.2.2.2.1, y.2.2.1.2.2.2.2.2⟩, y.2.2.2.1.toNat, y.2.2.2.2⟩
theorem act_cells {w : World} {F : Nat → Prop} {y : UInt8 × UInt8 × (UInt64 × UInt64 × List UInt8 × List UInt8 × List UInt8 × List UInt8) × UInt64 × Bool} {cs : List Value} (h : rAw.K w F y cs) : cs = acC (gAc y) ∧ (gAc y).ok := by
  obtain ⟨a, b, ⟨x1, x2, x3, x4, x5, x6⟩, n, s⟩ := y
  obtain ⟨c0, r0, h0, k0, c1, r1, h1, k1, c2, r2, h2, k2, c3, r3, h3, k3, k4⟩ := h
  subst h0 h1 h2 h3
  obtain ⟨d0, s0, g0, m0, d1, s1, g1, m1, d2, s2, g2, m2, d3, s3, g3, m3, d4, s4, g4, m4, m5⟩ := k2
  subst g0 g1 g2 g3 g4
  have q0 : c0 = [.int .u8 (a.toNat : Int)] := k0
  have q1 : c1 = [.int .u8 (b.toNat : Int)] := k1
  have q3 : c3 = [.int .u64 (n.toNat : Int)] := k3
  have q4 : r3 = [.bool s] := k4
  have p0 : d0 = [.int .u64 (x1.toNat : Int)] := m0
  have p1 : d1 = [.int .u64 (x2.toNat : Int)] := m1
  obtain ⟨l2, p2⟩ := rHash_cells m2
  obtain ⟨l3, p3⟩ := rHash_cells m3
  obtain ⟨l4, p4⟩ := rHash_cells m4
  obtain ⟨l5, p5⟩ := rHash_cells m5
  subst q0 q1 q3 q4 p0 p1 p2 p3 p4 p5
  refine ⟨?_, ⟨a.toNat_lt, b.toNat_lt, ⟨x1.toNat_lt, x2.toNat_lt, l2, l3, l4, l5⟩, n.toNat_lt⟩⟩
  unfold acC hdC gAc
  simp
theorem sl_acts {w : World} {F : Nat → Prop} {A : Option Addr} {n c : Nat} {ys : List (UInt8 × UInt8 × (UInt64 × UInt64 × List UInt8 × List UInt8 × List UInt8 × List UInt8) × UInt64 × Bool)} (h : Sl rAw w F A n c ys) : Sl rAc w F A n c (ys.map gAc) := by
  refine ⟨h.1, h.2.1, by rw [List.length_map]; exact h.2.2.1, fun hn => ?_⟩
  obtain ⟨ad, e, hf, hc⟩ := h.2.2.2 hn
  refine ⟨ad, e, hf, fun i x hi => ?_⟩
  rw [List.getElem?_map] at hi
  obtain ⟨y, hy, rfl⟩ := Option.map_eq_some_iff.1 hi
  obtain ⟨cs, hK, hcell⟩ := hc i y hy
  exact ⟨cs, act_cells hK, hcell⟩
variable {H : Type} {enc : TypeId × Value → H} {w : World}
set_option maxRecDepth 100000 in
theorem open_acts {v : Value} {d : DataW H} {p : List MemPlace} {rr : Reach} {b0 : Nat} (hv : Value.okWide Tryd.prog w rr b0 73 v) (h : DataW.Trod enc Tryd.prog w 0 (fun _ => true) true 73 v d p) :
    ∃ (a : Option Addr) (n c : Nat) (xs : List Ac), v = .slice a n c ∧ Sl rAc w (fun k => k < w.heap.size) a n c xs := by
  obtain ⟨a, n, c, ys, e, hs⟩ := Opens.param opens_act Tryd.underlying73 (by kernel_rfl) (by decide) hv h
  exact ⟨a, n, c, _, e, sl_acts hs⟩
end Go.Proofs.YtkmcjokoinoahaaDoor.ClientR
