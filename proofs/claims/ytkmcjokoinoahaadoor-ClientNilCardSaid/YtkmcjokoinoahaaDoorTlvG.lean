/- tlv.Value, ferrymanref01.Value, ferrymanref01.Put, the awake call of chapter 2: contracts over any world. -/
import Derived.Test.YtkmcjokoinoahaaDoorTlvF
set_option linter.unusedVariables false
set_option linter.unusedSimpArgs false
namespace Go.Proofs.YtkmcjokoinoahaaDoor.TlvG
open Go.RowKit Go.Proofs.YtkmcjokoinoahaaDoor.Lib Go.Proofs.YtkmcjokoinoahaaDoor.Reg Go.Proofs.YtkmcjokoinoahaaDoor.TlvA Go.Proofs.YtkmcjokoinoahaaDoor.TlvB Go.Proofs.YtkmcjokoinoahaaDoor.TlvF

/-- What bytes are worth. -/
def valL (l : List UInt8) : Nat := l.foldl (fun a b => a * 256 + b.toNat) 0
theorem valL_snoc (l : List UInt8) (b : UInt8) : valL (l ++ [b]) = valL l * 256 + b.toNat := by simp [valL]
theorem fold_lt (l : List UInt8) : ∀ a : Nat, l.foldl (fun a b => a * 256 + b.toNat) a + 1 ≤ (a + 1) * 256 ^ l.length := by
  induction l with
  | nil => intro a; simp
  | cons b l ih =>
    intro a
    have h1 := ih (a * 256 + b.toNat)
    have h2 := b.toNat_lt
    have h3 : (a * 256 + b.toNat + 1) * 256 ^ l.length ≤ ((a + 1) * 256) * 256 ^ l.length := Nat.mul_le_mul_right _ (by omega)
    simp only [List.foldl_cons, List.length_cons, Nat.pow_succ]
    rw [Nat.mul_comm (256 ^ l.length) 256, ← Nat.mul_assoc]
    omega
theorem valL_lt (l : List UInt8) : valL l < 256 ^ l.length := by
  have := fold_lt l 0
  simp only [Nat.zero_add, Nat.one_mul] at this
  exact this
theorem valL_lt7 (l : List UInt8) (h : l.length ≤ 7) : valL l < 72057594037927936 :=
  Nat.lt_of_lt_of_le (valL_lt l) (Nat.le_trans (Nat.pow_le_pow_right (by omega) h) (by decide))
theorem valL_take {l : List UInt8} {k : Nat} {b : UInt8} (h : l[k]? = some b) : valL (l.take (k + 1)) = valL (l.take k) * 256 + b.toNat := by
  obtain ⟨hl, hv⟩ := List.getElem?_eq_some_iff.1 h
  subst hv
  rw [List.take_succ_eq_append_getElem hl, valL_snoc]
theorem or_u64 (m : Nat) (hm : m < 72057594037927936) (c : UInt8) : bits .or .u64 ((m : Int) * 256) (c.toNat : Int) = ((m * 256 + c.toNat : Nat) : Int) := by
  have h1 := u8_lt c
  rw [bits_join .u64 64 (by decide) (fun n h h' => by rw [IntKind.wrap_u64]; omega) 8 _ _ (by omega) (by omega) (by omega) (by omega) (by omega) (by omega)]
  omega
/-- Bytes of a number: no more than eight, none of nought ahead. -/
def isNum (l : List UInt8) : Bool := decide (l.length ≤ 8) && l.head? != some 0

end Go.Proofs.YtkmcjokoinoahaaDoor.TlvG
