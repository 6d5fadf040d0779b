/- Denominations there and back: the plain laws. -/
import Derived.Test.YtjjcjdefenbnjaaPlainD
set_option linter.unusedVariables false
set_option linter.unusedSimpArgs false
namespace Go.Proofs.Ytjjcjdefenbnjaa.PlainE
open Go.RowKit Go.Proofs.Ytjjcjdefenbnjaa.Lib Go.Proofs.Ytjjcjdefenbnjaa.DenomA Go.Proofs.Ytjjcjdefenbnjaa.DenomC Go.Proofs.Ytjjcjdefenbnjaa.DenomD Go.Proofs.Ytjjcjdefenbnjaa.DenomE Go.Proofs.Ytjjcjdefenbnjaa.DenomF Go.Proofs.Ytjjcjdefenbnjaa.PlainD
theorem back_pre {c : Nat} (hc : c < 4) (t : List UInt8) : backL (c : Int) (pre c ++ t) = (t, true) := by
  rw [backL_in hc]
  have h1 : (pre c ++ t).take 4 = pre c := by rw [List.take_append_of_le_length (by rw [pre_len]; omega)]; exact List.take_of_length_le (by rw [pre_len]; omega)
  have h2 : (pre c ++ t).drop 4 = t := by rw [List.drop_append_of_le_length (by rw [pre_len]; omega), List.drop_of_length_le (by rw [pre_len]; omega), List.nil_append]
  rw [h1, h2, if_pos (by simp)]
theorem back_cases {c : Nat} (hc : c < 4) (s : List UInt8) : (∃ t, s = pre c ++ t ∧ backL (c : Int) s = (t, true)) ∨ backL (c : Int) s = ([], false) := by
  rw [backL_in hc]
  by_cases h : (s.take 4 == pre c) = true
  · left
    rw [if_pos h]
    refine ⟨s.drop 4, ?_, rfl⟩
    have h1 : s.take 4 = pre c := by simpa using h
    rw [← h1, List.take_append_drop]
  · right
    rw [if_neg h]
/-- What There answers, over a channel that is one. -/
theorem there_cases {c : Nat} (hc : c < 4) (s : List UInt8) :
    (∃ e, thereL (c : Int) s = ([], e) ∧ e ≠ 0) ∨
    (∃ t, s = pre c ++ t ∧ checkL s = true ∧ checkL t = true ∧ t.length ≤ 36 ∧ backL (c : Int) s = (t, true) ∧ thereL (c : Int) s = (t, 0)) ∨
    (checkL s = true ∧ s.length ≤ 36 ∧ backL (c : Int) s = ([], false) ∧ thereL (c : Int) s = (pre c ++ s, 0)) := by
  unfold thereL
  rw [if_neg (by omega)]
  by_cases hk : checkL s = true
  · rw [if_neg (by rw [hk]; simp)]
    rcases back_cases hc s with ⟨t, hs, hb⟩ | hb
    · right; left
      have h1 := (checkL_pre hc t).1 (by rw [← hs]; exact hk)
      exact ⟨t, hs, hk, h1.2.2, h1.2.1, hb, by rw [hb, if_pos rfl]⟩
    · rw [hb, if_neg (by simp)]
      by_cases h36 : 36 < s.length
      · left; exact ⟨43, by rw [if_pos h36], by omega⟩
      · right; right
        exact ⟨hk, by omega, rfl, by rw [if_neg h36]; simp⟩
  · left
    exact ⟨43, by rw [if_pos hk], by omega⟩
theorem there_pre {c : Nat} (hc : c < 4) {s : List UInt8} (hk : checkL s = true) (h36 : s.length ≤ 36) : checkL (pre c ++ s) = true ∧ thereL (c : Int) (pre c ++ s) = (s, 0) := by
  have h0 : s ≠ [] := by intro he; rw [he] at hk; exact absurd hk (by decide)
  have h1 := (checkL_pre hc s).2 ⟨h0, h36, hk⟩
  refine ⟨h1, ?_⟩
  unfold thereL
  rw [if_neg (by omega), if_neg (by rw [h1]; simp), back_pre hc, if_pos rfl]
end Go.Proofs.Ytjjcjdefenbnjaa.PlainE
