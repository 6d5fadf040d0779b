/- TlvNums: for every input the law answers true; what was in memory before is as it was. -/
import Derived.Test.YtkmcjokoinoahaaDoorTlvI
import Derived.Test.YtkmcjokoinoahaaDoorNumLaw
set_option linter.unusedVariables false
set_option linter.unusedSimpArgs false
namespace Go.Proofs.YtkmcjokoinoahaaDoor.LawNums
open Go.RowKit Go.Proofs.YtkmcjokoinoahaaDoor.Lib Go.Proofs.YtkmcjokoinoahaaDoor.Reg Go.Proofs.YtkmcjokoinoahaaDoor.TlvA Go.Proofs.YtkmcjokoinoahaaDoor.TlvB Go.Proofs.YtkmcjokoinoahaaDoor.TlvF Go.Proofs.YtkmcjokoinoahaaDoor.TlvG Go.Proofs.YtkmcjokoinoahaaDoor.TlvH Go.Proofs.YtkmcjokoinoahaaDoor.TlvI Go.Proofs.YtkmcjokoinoahaaDoor.NumLaw

/-- Are bytes a number's? -/
def okN (l : List UInt8) : Bool := decide (l.length ≤ 8 ∧ l.head? ≠ some 0)
def valN (l : List UInt8) : Nat := if okN l then valL l else 0
def errN (l : List UInt8) : Int := if okN l then 0 else 7
theorem valN_lt (l : List UInt8) : valN l < 18446744073709551616 := by
  unfold valN okN
  split
  · rename_i h
    rw [decide_eq_true_eq] at h
    exact Nat.lt_of_lt_of_le (valL_lt l) (Nat.le_trans (Nat.pow_le_pow_right (by omega) h.1) (by decide))
  · omega
theorem okN_num (n : Nat) : okN (numL n) = true := by unfold okN; rw [decide_eq_true_eq]; exact ⟨num_len n, num_head n⟩
theorem valN_num (n : Nat) (h : n < 18446744073709551616) : valN (numL n) = n := by unfold valN; rw [if_pos (okN_num n), val_num n h]
theorem errN_num (n : Nat) : errN (numL n) = 0 := by unfold errN; rw [if_pos (okN_num n)]
theorem num_valN {l : List UInt8} (h : okN l = true) : numL (valN l) = l := by
  unfold valN
  rw [if_pos h]
  unfold okN at h
  rw [decide_eq_true_eq] at h
  exact num_unique h.2 h.1

end Go.Proofs.YtkmcjokoinoahaaDoor.LawNums
