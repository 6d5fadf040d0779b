/- Denominations' names: the plain laws. -/
import Derived.Test.YtjjcjdefenbnjaaLawChecks
set_option linter.unusedVariables false
set_option linter.unusedSimpArgs false
namespace Go.Proofs.Ytjjcjdefenbnjaa.PlainD
open Go.RowKit Go.Proofs.Ytjjcjdefenbnjaa.Lib Go.Proofs.Ytjjcjdefenbnjaa.DenomA Go.Proofs.Ytjjcjdefenbnjaa.DenomC Go.Proofs.Ytjjcjdefenbnjaa.DenomD Go.Proofs.Ytjjcjdefenbnjaa.DenomE Go.Proofs.Ytjjcjdefenbnjaa.DenomF
theorem pre_len (c : Nat) : (pre c).length = 4 := rfl
theorem digit {c : Nat} (hc : c < 10) : (UInt8.ofNat (48 + c)).toNat = 48 + c := by rw [UInt8.toNat_ofNat']; omega
theorem okAt_shift {c : Nat} (hc : c < 4) (t : List UInt8) (k : Nat) : okAt (pre c ++ t) (k + 4) = okAt t k := by
  have h1 : (pre c ++ t)[k + 4]? = t[k]? := by rw [List.getElem?_append_right (by rw [pre_len]; omega), pre_len]; congr 1
  unfold okAt
  rw [h1]
  cases h : t[k]? with
  | none => rfl
  | some x =>
    simp only
    congr 1
    match k with
    | 0 =>
      have h2 : (pre c ++ t)[0 + 4 - 1]? = some 47 := rfl
      rw [h2]
      simp
    | k + 1 =>
      have h2 : (pre c ++ t)[k + 1 + 4 - 1]? = t[k + 1 - 1]? := by
        rw [List.getElem?_append_right (by rw [pre_len]; omega), pre_len]
        congr 1
      rw [h2]
      congr 1
      rw [List.length_append, pre_len]
      have e1 : decide (0 < k + 1 + 4) = decide (0 < k + 1) := by simp
      have e2 : decide (k + 1 + 4 + 1 < 4 + t.length) = decide (k + 1 + 1 < t.length) := by rw [decide_eq_decide]; omega
      rw [e1, e2]
theorem okAt_pre {c : Nat} (hc : c < 4) {t : List UInt8} (ht : t ≠ []) {k : Nat} (hk : k < 4) : okAt (pre c ++ t) k = true := by
  have hl : 0 < t.length := List.length_pos_iff.2 ht
  have hd := digit (show c < 10 by omega)
  match k, hk with
  | 0, _ => rfl
  | 1, _ => rfl
  | 2, _ =>
    show (letter (UInt8.ofNat (48 + c)) || _) = true
    have : letter (UInt8.ofNat (48 + c)) = true := by unfold letter; rw [hd]; simp; omega
    rw [this]; rfl
  | 3, _ =>
    show (letter 47 || ((47 : UInt8).toNat == 47 && decide (0 < 3) && decide (3 + 1 < (pre c ++ t).length) && ((UInt8.ofNat (48 + c)).toNat != 47))) = true
    rw [List.length_append, pre_len, hd]
    simp
    omega
theorem checkL_iff (l : List UInt8) : checkL l = true ↔ l.length ≠ 0 ∧ l.length ≤ 40 ∧ ∀ k, k < l.length → okAt l k = true := by
  unfold checkL
  simp [List.all_eq_true, and_assoc]
theorem checkL_pre {c : Nat} (hc : c < 4) (t : List UInt8) : checkL (pre c ++ t) = true ↔ t ≠ [] ∧ t.length ≤ 36 ∧ checkL t = true := by
  rw [checkL_iff, checkL_iff, List.length_append, pre_len]
  constructor
  · rintro ⟨h0, h1, h2⟩
    have ht : t ≠ [] := by
      intro he
      subst he
      have := h2 3 (by simp)
      unfold okAt at this
      rw [List.append_nil, show (pre c)[3]? = some 47 from rfl, pre_len] at this
      simp [letter] at this
    have hl : 0 < t.length := List.length_pos_iff.2 ht
    exact ⟨ht, by omega, by omega, by omega, fun k hk => by rw [← okAt_shift hc]; exact h2 (k + 4) (by omega)⟩
  · rintro ⟨ht, h36, h0, h1, h2⟩
    refine ⟨by omega, by omega, fun k hk => ?_⟩
    by_cases h4 : k < 4
    · exact okAt_pre hc ht h4
    · have := h2 (k - 4) (by omega)
      rw [← okAt_shift hc, show k - 4 + 4 = k by omega] at this
      exact this
end Go.Proofs.Ytjjcjdefenbnjaa.PlainD
