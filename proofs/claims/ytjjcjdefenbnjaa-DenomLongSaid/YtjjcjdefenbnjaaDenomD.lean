/- strings.CutPrefix, denom.Back, There, ferrymanref11.Back, There: contracts over any world. -/
import Derived.Test.YtjjcjdefenbnjaaDenomC
set_option linter.unusedVariables false
set_option linter.unusedSimpArgs false
namespace Go.Proofs.Ytjjcjdefenbnjaa.DenomD
open Go.RowKit Go.Proofs.Ytjjcjdefenbnjaa.Lib Go.Proofs.Ytjjcjdefenbnjaa.Reg Go.Proofs.Ytjjcjdefenbnjaa.DenomA Go.Proofs.Ytjjcjdefenbnjaa.DenomB Go.Proofs.Ytjjcjdefenbnjaa.DenomC
def cutL (l p : List UInt8) : List UInt8 × Bool := if (l.take p.length == p) = true then (l.drop p.length, true) else (l, false)
set_option maxHeartbeats 1000000 in
set_option maxRecDepth 100000 in
theorem CutPrefix0_calls (w : World) (l p : List UInt8) (hl : l.length ≤ 9223372036854775806) (hp : p.length ≤ 9223372036854775806) : Calls Try.prog 76 #[.string (S l), .string (S p)] w fun e w' => e = .returned (.tuple #[.string (S (cutL l p).1), .bool (cutL l p).2]) ∧ w' = w := by
  have s2 := size_S p
  unfold cutL
  cases h : (l.take p.length == p)
  · simp only [Bool.false_eq_true, if_false]
    go_enter Try.func76, Try.ntmps76
    go_wp2_with (go_at_call 77; refine (HasPrefix_calls _ l p hl hp).mono ?_; rintro e w1 ⟨rfl, rfl⟩; rw [h])
    go_ret2
    exact ⟨rfl, rfl⟩
  · have hle : p.length ≤ l.length := by
      have h1 : l.take p.length = p := by simpa using h
      have h2 := congrArg List.length h1
      rw [List.length_take] at h2
      omega
    have h1 := run_tail l p.length hle hl
    simp only [if_true]
    obtain ⟨m, hm⟩ : ∃ m, p.length = m := ⟨_, rfl⟩
    rw [hm] at h h1 s2 ⊢
    have HH := Fact.mk hm
    clear hm
    go_enter Try.func76, Try.ntmps76
    go_wp2_with (go_at_call 77; refine (HasPrefix_calls _ l p hl hp).mono ?_; rintro e w1 ⟨rfl, rfl⟩; rw [HH.out, h])
    go_ret2
    exact ⟨rfl, rfl⟩
set_option maxHeartbeats 1000000 in
set_option maxRecDepth 100000 in
theorem CutPrefix_calls (w : World) (l p : List UInt8) (hl : l.length ≤ 9223372036854775806) (hp : p.length ≤ 9223372036854775806) : Calls Try.prog 66 #[.string (S l), .string (S p)] w fun e w' => e = .returned (.tuple #[.string (S (cutL l p).1), .bool (cutL l p).2]) ∧ w' = w := by
  go_enter Try.func66, Try.ntmps66
  go_wp2_with (go_at_call 76; refine (CutPrefix0_calls _ l p hl hp).mono ?_; rintro e w1 ⟨rfl, rfl⟩)
  go_ret2
  exact ⟨rfl, rfl⟩
def backL (ch : Int) (l : List UInt8) : List UInt8 × Bool := if 0 ≤ ch ∧ ch < 4 ∧ (l.take 4 == pre ch.toNat) = true then (l.drop 4, true) else ([], false)
theorem backL_out {ch : Int} {l : List UInt8} (h : ch < 0 ∨ 4 ≤ ch) : backL ch l = ([], false) := by unfold backL; rw [if_neg (by omega)]
theorem backL_in {c : Nat} {l : List UInt8} (h : c < 4) : backL (c : Int) l = if (l.take 4 == pre c) = true then (l.drop 4, true) else ([], false) := by
  unfold backL
  simp only [Int.toNat_natCast]
  by_cases hh : (l.take 4 == pre c) = true
  · rw [if_pos ⟨by omega, by omega, hh⟩, if_pos hh]
  · rw [if_neg (fun h => hh h.2.2), if_neg hh]
set_option maxHeartbeats 1000000 in
set_option maxRecDepth 100000 in
theorem Back_calls (w : World) (ch : Int) (l : List UInt8) (hl : l.length ≤ 9223372036854775806) : Calls Try.prog 47 #[.int .i64 ch, .string (S l)] w fun e w' => e = .returned (.tuple #[.string (S (backL ch l).1), .bool (backL ch l).2]) ∧ Below w.heap.size w w' := by
  rcases (by omega : ch < 0 ∨ (0 ≤ ch ∧ 4 ≤ ch) ∨ (0 ≤ ch ∧ ch < 4)) with h | ⟨h1, h2⟩ | ⟨h1, h2⟩
  · rw [backL_out (.inl h)]
    go_enter Try.func47, Try.ntmps47
    go_wp2_with fail
    go_ret2
    exact ⟨rfl, Below.refl _ _⟩
  · rw [backL_out (.inr h2)]
    have k1 : ¬ ch < 0 := by omega
    go_enter Try.func47, Try.ntmps47
    go_wp2_with fail
    go_ret2
    exact ⟨rfl, Below.refl _ _⟩
  · obtain ⟨c, rfl⟩ : ∃ c : Nat, ch = (c : Int) := ⟨ch.toNat, by omega⟩
    have hc : c < 4 := by omega
    have k1 : ¬ (c : Int) < 0 := by omega
    have k2 : ¬ (4 : Int) ≤ c := by omega
    have hp4 : (pre c).length = 4 := rfl
    rw [backL_in hc]
    cases h : (l.take 4 == pre c)
    · simp only [Bool.false_eq_true, if_false]
      go_enter Try.func47, Try.ntmps47
      go_wp2_with (first
        | (go_at_call 64; refine (prefix_calls _ c hc).mono ?_; rintro e w1 ⟨rfl, hb⟩; have HB := Fact.mk hb; clear hb)
        | (go_at_call 66; refine (CutPrefix_calls _ l (pre c) hl (by rw [hp4]; omega)).mono ?_; rintro e w2 ⟨rfl, rfl⟩; rw [show cutL l (pre c) = (l, false) by unfold cutL; rw [hp4, if_neg (by rw [h]; simp)]]))
      go_ret2
      exact ⟨rfl, HB.out⟩
    · simp only [if_true]
      go_enter Try.func47, Try.ntmps47
      go_wp2_with (first
        | (go_at_call 64; refine (prefix_calls _ c hc).mono ?_; rintro e w1 ⟨rfl, hb⟩; have HB := Fact.mk hb; clear hb)
        | (go_at_call 66; refine (CutPrefix_calls _ l (pre c) hl (by rw [hp4]; omega)).mono ?_; rintro e w2 ⟨rfl, rfl⟩; rw [show cutL l (pre c) = (l.drop 4, true) by unfold cutL; rw [hp4, if_pos h]]))
      go_ret2
      exact ⟨rfl, HB.out⟩
end Go.Proofs.Ytjjcjdefenbnjaa.DenomD
