/- TlvOne: for every input the law answers true; what was in memory before is as it was. -/
import Derived.Test.YtkmcjokoinoahaaDoorPlainT
import Derived.Test.YtkmcjokoinoahaaDoorTlvI
set_option linter.unusedVariables false
set_option linter.unusedSimpArgs false
namespace Go.Proofs.YtkmcjokoinoahaaDoor.LawOne
open Go.RowKit Go.Proofs.YtkmcjokoinoahaaDoor.Lib Go.Proofs.YtkmcjokoinoahaaDoor.TlvA Go.Proofs.YtkmcjokoinoahaaDoor.TlvB Go.Proofs.YtkmcjokoinoahaaDoor.TlvC Go.Proofs.YtkmcjokoinoahaaDoor.TlvD Go.Proofs.YtkmcjokoinoahaaDoor.TlvE Go.Proofs.YtkmcjokoinoahaaDoor.TlvH Go.Proofs.YtkmcjokoinoahaaDoor.TlvI Go.Proofs.YtkmcjokoinoahaaDoor.PlainT

theorem puts_put {l : List (UInt8 × List UInt8)} {k : Nat} {t : UInt8} {v : List UInt8} (h : l[k]? = some (t, v)) (hv : v ≠ []) (hl : v.length ≤ 65535) : puts (l.take (k + 1)) = putL (puts (l.take k)) t v := by
  rw [puts_take h, putL_some (by omega) hv]
theorem packL_len (l : List (List UInt8)) : l.length ≤ (packL l).length := by
  induction l with
  | nil => exact Nat.le_refl _
  | cons v r ih =>
    have he : packL (v :: r) = [lo (v.length / 256), lo v.length] ++ v ++ packL r := by simp [packL]
    rw [he]
    simp only [List.length_append, List.length_cons, List.length_nil]
    omega
theorem puts_len (l : List (UInt8 × List UInt8)) : l.length ≤ (puts l).length := by
  induction l with
  | nil => exact Nat.le_refl _
  | cons f r ih =>
    have he : puts (f :: r) = [f.1, lo (f.2.length / 256), lo f.2.length] ++ f.2 ++ puts r := by simp [puts]
    rw [he]
    simp only [List.length_append, List.length_cons, List.length_nil]
    omega
theorem putE_zero {n : Nat} (h : n ≤ 65535) : putE n = 0 := by unfold putE; rw [if_neg (by omega)]

end Go.Proofs.YtkmcjokoinoahaaDoor.LawOne
