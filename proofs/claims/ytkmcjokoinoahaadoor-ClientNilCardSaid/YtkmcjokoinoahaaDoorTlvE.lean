/- ferrymanref01.SameFields, SameLists at equal lists; tlv.Pack, ferrymanref01.Pack: contracts over any world. -/
import Derived.Test.YtkmcjokoinoahaaDoorTlvD
import Derived.Test.YtkmcjokoinoahaaDoorReg
set_option linter.unusedVariables false
set_option linter.unusedSimpArgs false
namespace Go.Proofs.YtkmcjokoinoahaaDoor.TlvE
open Go.RowKit Go.Proofs.YtkmcjokoinoahaaDoor.Lib Go.Proofs.YtkmcjokoinoahaaDoor.Reg Go.Proofs.YtkmcjokoinoahaaDoor.TlvA Go.Proofs.YtkmcjokoinoahaaDoor.TlvB Go.Proofs.YtkmcjokoinoahaaDoor.TlvC Go.Proofs.YtkmcjokoinoahaaDoor.TlvD

theorem fld_at {w : World} {F : Nat → Prop} {A : Option Addr} {n c : Nat} {xs : List (UInt8 × List UInt8)} (h : Sl fld w F A n c xs) {i : Nat} {t : UInt8} {v : List UInt8} (hi : xs[i]? = some (t, v)) :
    ∃ ad A' c', A = some ad ∧ F ad.block ∧ w.cell? (ad.add (i * 2)) = some (.int .u8 (t.toNat : Int)) ∧ w.cell? ⟨(ad.add (i * 2)).block, (ad.add (i * 2)).off + 1, none⟩ = some (.slice A' v.length c') ∧ Sl rU8 w F A' v.length c' v := by
  obtain ⟨ad, cs, e, hb, ⟨c0, d0, rfl, hk0, A', c', hd, hs⟩, hcell⟩ := h.at_ hi
  have hk0' : c0 = [vu8 t] := hk0
  subst hk0'
  have hd' : d0 = [.slice A' v.length c'] := hd
  subst hd'
  exact ⟨ad, A', c', e, hb, hcell 0 _ rfl, by rw [← add_pos' (ad.add (i * 2)) 1 (by omega), add_add']; exact hcell 1 _ rfl, hs⟩

theorem sl_at {w : World} {F : Nat → Prop} {A : Option Addr} {n c : Nat} {xs : List (List UInt8)} (h : Sl (Rep.slice rU8) w F A n c xs) {i : Nat} {v : List UInt8} (hi : xs[i]? = some v) :
    ∃ ad A' c', A = some ad ∧ F ad.block ∧ w.cell? (ad.add i) = some (.slice A' v.length c') ∧ Sl rU8 w F A' v.length c' v := by
  obtain ⟨ad, cs, e, hb, ⟨A', c', hd, hs⟩, hcell⟩ := h.at_ hi
  subst hd
  refine ⟨ad, A', c', e, hb, ?_, hs⟩
  have := hcell 0 _ rfl
  simpa [Rep.slice] using this

/-- Lists as bytes. -/
def packL (l : List (List UInt8)) : List UInt8 := l.flatMap fun v => [lo (v.length / 256), lo v.length] ++ v
theorem packL_take {l : List (List UInt8)} {k : Nat} {v : List UInt8} (h : l[k]? = some v) : packL (l.take (k + 1)) = packL (l.take k) ++ [lo (v.length / 256), lo v.length] ++ v := by
  obtain ⟨hl, hv⟩ := List.getElem?_eq_some_iff.1 h
  subst hv
  unfold packL
  rw [List.take_succ_eq_append_getElem hl, List.flatMap_append]
  simp
theorem packL_le {l : List (List UInt8)} (k : Nat) : (packL (l.take k)).length ≤ (packL l).length := by
  unfold packL
  conv => rhs; rw [← List.take_append_drop k l, List.flatMap_append, List.length_append]
  omega

end Go.Proofs.YtkmcjokoinoahaaDoor.TlvE
