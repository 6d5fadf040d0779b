/- Plain lemmas on numbers as few bytes, the greatest first: what they are worth, that they are the only ones, how they are ordered. -/
import Derived.Test.YtkmcjokoinoahaaDoorTlvG
set_option linter.unusedVariables false
set_option linter.unusedSimpArgs false
namespace Go.Proofs.YtkmcjokoinoahaaDoor.NumLaw
open Go.RowKit Go.Proofs.YtkmcjokoinoahaaDoor.Lib Go.Proofs.YtkmcjokoinoahaaDoor.TlvA Go.Proofs.YtkmcjokoinoahaaDoor.TlvF Go.Proofs.YtkmcjokoinoahaaDoor.TlvG

theorem fold_from (xs : List UInt8) : ∀ a : Nat, xs.foldl (fun a b => a * 256 + b.toNat) a = a * 256 ^ xs.length + xs.foldl (fun a b => a * 256 + b.toNat) 0 := by
  induction xs with
  | nil => intro a; simp
  | cons x xs ih =>
    intro a
    rw [List.foldl_cons, List.foldl_cons, ih (a * 256 + x.toNat), ih (0 * 256 + x.toNat), List.length_cons, Nat.pow_succ, Nat.add_mul, Nat.add_mul, Nat.mul_assoc a 256, Nat.mul_comm 256 (256 ^ xs.length)]
    simp only [Nat.zero_mul, Nat.zero_add, Nat.add_assoc]
theorem valL_cons (x : UInt8) (xs : List UInt8) : valL (x :: xs) = x.toNat * 256 ^ xs.length + valL xs := by
  unfold valL
  rw [List.foldl_cons, fold_from]
  simp
theorem pos256 (n : Nat) : 0 < 256 ^ n := Nat.pow_pos (by omega)
theorem valL_drop (l : List UInt8) : valL (l.dropWhile (· == 0)) = valL l := by
  induction l with
  | nil => rfl
  | cons x xs ih =>
    by_cases h : x = 0
    · subst h
      rw [List.dropWhile_cons_of_pos (by simp), ih, valL_cons]
      simp
    · rw [List.dropWhile_cons_of_neg (by simpa using h)]
theorem drop_head (l : List UInt8) : (l.dropWhile (· == 0)).head? ≠ some 0 := by
  induction l with
  | nil => simp
  | cons x xs ih =>
    by_cases h : x = 0
    · subst h
      rw [List.dropWhile_cons_of_pos (by simp)]
      exact ih
    · rw [List.dropWhile_cons_of_neg (by simpa using h)]
      simpa using h
theorem lo_nat (n : Nat) : (lo n).toNat = n % 256 := by simp [lo]
theorem val_eight (n : Nat) (h : n < 18446744073709551616) : valL (eightL n) = n := by
  simp only [eightL, valL, List.foldl_cons, List.foldl_nil, dig, lo_nat, Nat.reducePow]
  omega
theorem val_num (n : Nat) (h : n < 18446744073709551616) : valL (numL n) = n := by
  unfold numL
  rw [valL_drop, val_eight n h]
theorem num_head (n : Nat) : (numL n).head? ≠ some 0 := drop_head _
theorem valL_ge {xs : List UInt8} (h : xs.head? ≠ some 0) (hn : xs ≠ []) : 256 ^ (xs.length - 1) ≤ valL xs := by
  cases xs with
  | nil => exact absurd rfl hn
  | cons x xs =>
    have hx : 1 ≤ x.toNat := by
      rcases Nat.eq_zero_or_pos x.toNat with h0 | h0
      · exact absurd (UInt8.toNat_inj.1 (show x.toNat = (0 : UInt8).toNat by simpa using h0)) (by simpa using h)
      · exact h0
    rw [valL_cons, List.length_cons, Nat.add_sub_cancel]
    have := Nat.mul_le_mul_right (256 ^ xs.length) hx
    omega
theorem length_mono {xs ys : List UInt8} (hx : xs.head? ≠ some 0) (h : valL xs ≤ valL ys) : xs.length ≤ ys.length := by
  by_cases e : xs = []
  · subst e; simp
  · apply Decidable.byContradiction
    intro hl
    have h1 := valL_ge hx e
    have h2 := valL_lt ys
    have h3 : 256 ^ ys.length ≤ 256 ^ (xs.length - 1) := Nat.pow_le_pow_right (by omega) (by omega)
    omega
theorem valL_inj : ∀ {xs ys : List UInt8}, xs.length = ys.length → valL xs = valL ys → xs = ys
  | [], [], _, _ => rfl
  | [], y :: ys, h, _ => by simp at h
  | x :: xs, [], h, _ => by simp at h
  | x :: xs, y :: ys, hl, hw => by
    have hl' : xs.length = ys.length := by simpa using hl
    rw [valL_cons, valL_cons, hl'] at hw
    have a := valL_lt xs
    have b := valL_lt ys
    rw [hl'] at a
    have e : x.toNat = y.toNat := by
      rcases Nat.lt_trichotomy x.toNat y.toNat with h | h | h
      · have := Nat.mul_le_mul_right (256 ^ ys.length) h
        rw [Nat.succ_mul] at this
        omega
      · exact h
      · have := Nat.mul_le_mul_right (256 ^ ys.length) h
        rw [Nat.succ_mul] at this
        omega
    have e' := UInt8.toNat_inj.1 e
    subst e'
    rw [valL_inj hl' (by omega)]
theorem num_unique {l : List UInt8} (h : l.head? ≠ some 0) (hl : l.length ≤ 8) : numL (valL l) = l := by
  have hlt : valL l < 18446744073709551616 := Nat.lt_of_lt_of_le (valL_lt l) (Nat.le_trans (Nat.pow_le_pow_right (by omega) hl) (by decide))
  have hv := val_num _ hlt
  refine valL_inj ?_ hv
  have a := length_mono (num_head (valL l)) (Nat.le_of_eq hv)
  have b := length_mono h (Nat.le_of_eq hv.symm)
  omega
theorem num_nil (n : Nat) (h : n < 18446744073709551616) : (numL n).length = 0 ↔ n = 0 := by
  constructor
  · intro h0
    have := val_num n h
    rw [List.eq_nil_of_length_eq_zero h0] at this
    exact this.symm
  · rintro rfl
    rfl
theorem num_mono {a b : Nat} (h : a ≤ b) (hb : b < 18446744073709551616) : (numL a).length ≤ (numL b).length :=
  length_mono (num_head a) (by rw [val_num a (by omega), val_num b hb]; exact h)
theorem bytesLess_iff : ∀ {xs ys : List UInt8}, xs.length = ys.length → (Op.bytesLess xs ys = true ↔ valL xs < valL ys)
  | [], [], _ => by simp [Op.bytesLess, valL]
  | [], y :: ys, h => by simp at h
  | x :: xs, [], h => by simp at h
  | x :: xs, y :: ys, hl => by
    have hl' : xs.length = ys.length := by simpa using hl
    have ih := bytesLess_iff hl'
    rw [valL_cons, valL_cons, hl']
    have a := valL_lt xs
    have b := valL_lt ys
    rw [hl'] at a
    simp only [Op.bytesLess, Bool.or_eq_true, Bool.and_eq_true, decide_eq_true_eq, beq_iff_eq]
    rw [UInt8.lt_iff_toNat_lt, ← UInt8.toNat_inj, ih]
    rcases Nat.lt_trichotomy x.toNat y.toNat with h | h | h
    · have := Nat.mul_le_mul_right (256 ^ ys.length) h
      rw [Nat.succ_mul] at this
      constructor
      · intro _; omega
      · intro _; exact .inl h
    · rw [h]
      constructor
      · rintro (h | ⟨_, h⟩) <;> omega
      · intro h; exact .inr ⟨rfl, by omega⟩
    · have := Nat.mul_le_mul_right (256 ^ ys.length) h
      rw [Nat.succ_mul] at this
      constructor
      · rintro (h | ⟨h, _⟩) <;> omega
      · intro _; omega
end Go.Proofs.YtkmcjokoinoahaaDoor.NumLaw
