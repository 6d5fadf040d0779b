/- Words for ferrymanref01.Sum; its loops. -/
import Derived.Test.YtkmcjokoinoahaaDoorShaC
set_option linter.unusedVariables false
set_option linter.unusedSimpArgs false
namespace Go.Proofs.YtkmcjokoinoahaaDoor.ShaD
open Go.RowKit Go.Proofs.YtkmcjokoinoahaaDoor.Lib Go.Proofs.YtkmcjokoinoahaaDoor.Reg Go.Proofs.YtkmcjokoinoahaaDoor.PlainS Go.Proofs.YtkmcjokoinoahaaDoor.ShaA Go.Proofs.YtkmcjokoinoahaaDoor.ShaB Go.Proofs.YtkmcjokoinoahaaDoor.ShaC
theorem chs_or (e f g : UInt32) : (e &&& f) ||| (~~~e &&& g) = (e &&& f) ^^^ (~~~e &&& g) := by
  apply UInt32.toBitVec_inj.1
  apply BitVec.eq_of_getLsbD_eq
  intro i hi
  have hn : (~~~e.toBitVec).getLsbD i = !e.toBitVec.getLsbD i := by simp [hi]
  simp only [UInt32.toBitVec_or, UInt32.toBitVec_xor, UInt32.toBitVec_and, UInt32.toBitVec_not, BitVec.getLsbD_or, BitVec.getLsbD_xor, BitVec.getLsbD_and, hn]
  cases e.toBitVec.getLsbD i <;> cases f.toBitVec.getLsbD i <;> cases g.toBitVec.getLsbD i <;> rfl
theorem mjs_or (a b c : UInt32) : ((a &&& b) ||| (a &&& c)) ||| (b &&& c) = ((a &&& b) ^^^ (a &&& c)) ^^^ (b &&& c) := by
  apply UInt32.toBitVec_inj.1
  apply BitVec.eq_of_getLsbD_eq
  intro i hi
  simp
  cases a.toBitVec.getLsbD i <;> cases b.toBitVec.getLsbD i <;> cases c.toBitVec.getLsbD i <;> rfl
theorem add_or (a b : UInt32) (h : a &&& b = 0) : a + b = a ||| b := by
  apply UInt32.toBitVec_inj.1
  have := UInt32.toBitVec_inj.2 h
  simp at this
  simp [BitVec.add_eq_or_of_and_eq_zero _ _ this]
set_option maxRecDepth 20000 in
theorem or_parts (a b c d : Nat) (ha : a < 256) (hb : b < 256) (hc : c < 256) (hd : d < 256) : ((a * 16777216 ||| b * 65536) ||| c * 256) ||| d = a * 16777216 + b * 65536 + c * 256 + d := by
  have e1 := Nat.shiftLeft_add_eq_or_of_lt (b := b * 65536) (i := 24) (by omega) a
  have e2 := Nat.shiftLeft_add_eq_or_of_lt (b := c * 256) (i := 16) (by omega) (a * 256 + b)
  have e3 := Nat.shiftLeft_add_eq_or_of_lt (b := d) (i := 8) (by omega) (a * 65536 + b * 256 + c)
  simp only [Nat.shiftLeft_eq, Nat.reducePow] at e1 e2 e3
  rw [← e1, show a * 16777216 + b * 65536 = (a * 256 + b) * 65536 by clear e1 e2 e3; omega, ← e2, show (a * 256 + b) * 65536 + c * 256 = (a * 65536 + b * 256 + c) * 256 by clear e1 e2 e3; omega, ← e3]
set_option maxRecDepth 20000 in
theorem word_add (a b c d : UInt8) : (((a.toUInt32 <<< 24) + (b.toUInt32 <<< 16)) + (c.toUInt32 <<< 8)) + d.toUInt32 = (((a.toUInt32 <<< 24) ||| (b.toUInt32 <<< 16)) ||| (c.toUInt32 <<< 8)) ||| d.toUInt32 := by
  have ha := a.toNat_lt
  have hb := b.toNat_lt
  have hc := c.toNat_lt
  have hd := d.toNat_lt
  apply UInt32.toNat_inj.1
  have r24 : (24 : UInt32).toNat % 32 = 24 := by decide
  have r16 : (16 : UInt32).toNat % 32 = 16 := by decide
  have r8 : (8 : UInt32).toNat % 32 = 8 := by decide
  simp only [UInt32.toNat_add, UInt32.toNat_or, UInt32.toNat_shiftLeft, UInt8.toNat_toUInt32, r24, r16, r8, Nat.shiftLeft_eq, Nat.reducePow]
  generalize a.toNat = a at *
  generalize b.toNat = b at *
  generalize c.toNat = c at *
  generalize d.toNat = d at *
  rw [Nat.mod_eq_of_lt (show a * 16777216 < 4294967296 by omega), Nat.mod_eq_of_lt (show b * 65536 < 4294967296 by omega), Nat.mod_eq_of_lt (show c * 256 < 4294967296 by omega), or_parts a b c d ha hb hc hd]
  omega

/-- The reference's roots are laid as the text has them. -/
def LaidR (w : World) : Prop := ∃ ty fr, w.heap[1]? = some (.cells (wArr kL) ty fr)
theorem laidR_move {w w' : World} {B : Nat} (h : LaidR w) (hb : Below B w w') (h1 : 1 < B) : LaidR w' := by
  obtain ⟨ty, fr, hh⟩ := h
  exact ⟨ty, fr, (hb.block 1 h1).trans hh⟩
theorem info_u32z : (Tryd.prog.info? 161).map (fun i => (i.zero, i.size, i.bytes)) = some (some (.int .u32 0), 1, 4) := by kernel_rfl
theorem make_w (W : World) : (Instr.makeSlice 162 (.int .i64 64) (.int .i64 64)).run Tryd.prog W = .ok (.slice (some ⟨W.heap.size, 0, none⟩) 64 64) (W.alloc (.cells (wArr []) 161)) := by
  obtain ⟨i, hi, hzz⟩ := Option.map_eq_some_iff.1 info_u32z
  simp only [Prod.mk.injEq] at hzz
  obtain ⟨hz0, hz1, hz2⟩ := hzz
  have hr := run_make (P := Tryd.prog) W 162 161 i (.int .u32 0) Tryd.underlying162 hi hz0 .i64 .i64 64 64 (by omega) (by omega) (by rw [hz2]; omega) (by omega)
  rw [hz1] at hr
  refine hr.trans ?_
  have hc : madeCells (Value.int IntKind.u32 0).cells (Int.toNat 64 * 1) = wArr [] := by
    apply Array.ext'
    show (madeCells #[Value.int IntKind.u32 0] 64).toList = _
    rw [toList_madeCells_one]
    simp [wArr]
    rfl
  rw [hc]
  rfl
theorem word_add' (a b c d : UInt8) : (((a.toUInt32 <<< 24) + (b.toUInt32 <<< 16)) + (c.toUInt32 <<< 8)) + d.toUInt32 = word a b c d := word_add a b c d
theorem chs_or' (e f g : UInt32) : (e &&& f) ||| (~~~e &&& g) = chs e f g := chs_or e f g
theorem mjs_or' (a b c : UInt32) : ((a &&& b) ||| (a &&& c)) ||| (b &&& c) = mjs a b c := mjs_or a b c
/-- The loops' bodies in a code, the outer ones first. -/
def loops : Code → List Code
  | .loop c => c :: loops c
  | .seq a b => loops a ++ loops b
  | .block _ c => loops c
  | .scope c => loops c
  | .cond _ a b => loops a ++ loops b
  | _ => []
noncomputable def bodyN (n : Nat) : Code := (((Tryd.f67.body.map loops).getD [])[n]?).getD .skip
end Go.Proofs.YtkmcjokoinoahaaDoor.ShaD
