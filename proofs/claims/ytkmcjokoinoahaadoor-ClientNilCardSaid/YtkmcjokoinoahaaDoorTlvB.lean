/- tlv.piece, ferrymanref01.piece: contracts over any world. -/
import Derived.Test.YtkmcjokoinoahaaDoorTlvA
import Derived.Deep.QuietTactic
import Derived.BigQuiet
set_option linter.unusedVariables false
set_option linter.unusedSimpArgs false
namespace Go.Proofs.YtkmcjokoinoahaaDoor.TlvB
open Go.RowKit Go.Proofs.YtkmcjokoinoahaaDoor.Lib Go.Proofs.YtkmcjokoinoahaaDoor.TlvA

/-- Bytes with their length ahead; what is left. -/
def pieceL : List UInt8 → Option (List UInt8 × List UInt8)
  | b0 :: b1 :: r => if b0.toNat * 256 + b1.toNat ≤ r.length then some (r.take (b0.toNat * 256 + b1.toNat), r.drop (b0.toNat * 256 + b1.toNat)) else none
  | _ => none

theorem u8_lt (b : UInt8) : (b.toNat : Int) ≤ 255 := by have := b.toNat_lt; omega
theorem or_i64 (b0 b1 : UInt8) : bits .or .i64 ((b0.toNat : Int) * 256) (b1.toNat : Int) = ((b0.toNat * 256 + b1.toNat : Nat) : Int) := by
  have h0 := u8_lt b0
  have h1 := u8_lt b1
  rw [bits_join .i64 63 (by decide) (fun n h h' => by rw [IntKind.wrap_i64]; omega) 8 _ _ (by omega) (by omega) (by omega) (by omega) (by omega) (by omega)]
  omega
theorem cell1 {w : World} {ad : Addr} {v : Value} (h : w.cell? (ad.add 1) = some v) : w.cell? ⟨ad.block, ad.off + 1, none⟩ = some v := by rw [← add_pos' ad 1 (by omega)]; exact h
theorem cell0 {w : World} {ad : Addr} {v : Value} (h : w.cell? (ad.add 0) = some v) : w.cell? ad = some v := by rw [add_zero'] at h; exact h
theorem u8_i : ∃ i, Tryd.prog.info? 5 = some i ∧ i.size = 1 := by
  obtain ⟨i, hi, hz⟩ := Option.map_eq_some_iff.1 info_u8
  simp only [Prod.mk.injEq] at hz
  exact ⟨i, hi, hz.2.1⟩

theorem piece_len {l v rest : List UInt8} (h : pieceL l = some (v, rest)) : v.length ≤ 65535 ∧ v.length + rest.length + 2 = l.length := by
  unfold pieceL at h
  split at h
  · rename_i b0 b1 r
    split at h
    · rename_i hle
      simp only [Option.some.injEq, Prod.mk.injEq] at h
      obtain ⟨rfl, rfl⟩ := h
      have := b0.toNat_lt
      have := b1.toNat_lt
      simp
      omega
    · cases h
  · cases h

end Go.Proofs.YtkmcjokoinoahaaDoor.TlvB
