/- TlvOrder: for every input the law answers true; what was in memory before is as it was. -/
import Derived.Test.YtjjcjdefenbnjaaTlvI
import Derived.Test.YtjjcjdefenbnjaaNumLaw
import Derived.WalkLawsBesides
set_option linter.unusedVariables false
set_option linter.unusedSimpArgs false
namespace Go.Proofs.Ytjjcjdefenbnjaa.LawOrder
open Go.RowKit Go.Proofs.Ytjjcjdefenbnjaa.Lib Go.Proofs.Ytjjcjdefenbnjaa.TlvA Go.Proofs.Ytjjcjdefenbnjaa.TlvF Go.Proofs.Ytjjcjdefenbnjaa.TlvG Go.Proofs.Ytjjcjdefenbnjaa.TlvH Go.Proofs.Ytjjcjdefenbnjaa.TlvI Go.Proofs.Ytjjcjdefenbnjaa.NumLaw
set_option maxHeartbeats 2000000 in
set_option maxRecDepth 100000 in
theorem TlvOrder_calls (w : World) (a b : Nat) (ha : a < 18446744073709551616) (hb : b < 18446744073709551616) :
    Calls Try.prog 4 #[.int .u64 (a : Int), .int .u64 (b : Int)] w fun e w' => e = .returned (.bool true) ∧ Below w.heap.size w w' := by
  rcases Nat.lt_trichotomy a b with hab | hab | hab
  · have hne : ((a : Int) != b) = true := by simp; omega
    have h1 : (a : Int) < b := by omega
    go_enter Try.func4, Try.ntmps4
    go_wp2_with (first
      | (go_at_call 19; refine (Awake_calls _).mono ?_; rintro e w1 ⟨rfl, hb1⟩; have HB1 := Fact.mk hb1; clear hb1)
      | (go_at_call 22; fail))
    refine (Num_calls _ _ a rfl (by omega)).mono ?_
    rintro e w2 ⟨v1, rfl, HO1, hb⟩
    have HB2 : Fact (Below w.heap.size w w2) := ⟨HB1.out.trans (hb.mono HB1.out.size)⟩
    have HB12 := Fact.mk hb
    obtain ⟨A1, c1, hv, hs⟩ := HO1.out.sl
    subst hv
    have hs1 := HO1.out.slF
    have HS1 := Fact.mk hs1
    clear hs hs1 hb HO1
    go_wp2_with fail
    refine (Num_calls _ _ b rfl (by omega)).mono ?_
    rintro e w3 ⟨v2, rfl, HO2, hb⟩
    have HB3 : Fact (Below w.heap.size w w3) := ⟨HB2.out.trans (hb.mono HB2.out.size)⟩
    obtain ⟨A2, c2, hv, hs⟩ := HO2.out.sl
    subst hv
    have HS1' := HS1.out.move (Same.of_below hb (fun k hk => hk.2))
    have hstr1 := run_str (P := Try.prog) 22 5 9 Try.underlying22 Try.underlying5 Try.underlying9 HS1'
    have hstr2 := run_str (P := Try.prog) 22 5 9 Try.underlying22 Try.underlying5 Try.underlying9 HO2.out.slF
    clear hs hb HO2 HS1' HS1
    have k1 : (numL a).length ≤ (numL b).length := num_mono (by omega) (by omega)
    have k2 := num_len b
    have k3 := num_nil a (by omega)
    have k4 : decide ((numL b).length < (numL a).length) = false := by simp; omega
    have k5 : decide (8 < (numL b).length) = false := by simp; omega
    have k6 : decide ((8 : Int) < (numL b).length) = false := by simp; omega
    have k7 : (((numL a).length : Int) == 0) = ((a : Int) == 0) := by rw [Bool.eq_iff_iff, beq_iff_eq, beq_iff_eq]; omega
    have K8 : Fact ((numL a).length = (numL b).length → (Op.bytesLess (numL a) (numL b) = true ↔ a < b)) := ⟨fun he => by rw [bytesLess_iff he, val_num a (by omega), val_num b (by omega)]⟩
    clear k3
    generalize hx : numL a = x at *
    generalize hy : numL b = y at *
    clear hx hy
    by_cases hlt : x.length < y.length
    · have k9 : decide (x.length < y.length) = true := decide_eq_true hlt
      go_wp2_with fail
      go_ret
      exact ⟨rfl, HB3.out⟩
    · have k9 : decide (x.length < y.length) = false := decide_eq_false hlt
      have k8 := K8.out (by omega)
      have k10 : Op.bytesLess x y = true := k8.2 (by omega)
      clear k8
      go_wp2_with fail
      go_ret
      exact ⟨rfl, HB3.out⟩
  · subst hab
    go_enter Try.func4, Try.ntmps4
    go_wp2_with (first
      | (go_at_call 19; refine (Awake_calls _).mono ?_; rintro e w1 ⟨rfl, hb1⟩; have HB1 := Fact.mk hb1; clear hb1)
      | (go_at_call 22; fail))
    refine (Num_calls _ _ a rfl (by omega)).mono ?_
    rintro e w2 ⟨v1, rfl, HO1, hb⟩
    have HB2 : Fact (Below w.heap.size w w2) := ⟨HB1.out.trans (hb.mono HB1.out.size)⟩
    have HB12 := Fact.mk hb
    obtain ⟨A1, c1, hv, hs⟩ := HO1.out.sl
    subst hv
    have hs1 := HO1.out.slF
    have HS1 := Fact.mk hs1
    clear hs hs1 hb HO1
    go_wp2_with fail
    refine (Num_calls _ _ a rfl (by omega)).mono ?_
    rintro e w3 ⟨v2, rfl, HO2, hb⟩
    have HB3 : Fact (Below w.heap.size w w3) := ⟨HB2.out.trans (hb.mono HB2.out.size)⟩
    obtain ⟨A2, c2, hv, hs⟩ := HO2.out.sl
    subst hv
    have HS1' := HS1.out.move (Same.of_below hb (fun k hk => hk.2))
    have hstr1 := run_str (P := Try.prog) 22 5 9 Try.underlying22 Try.underlying5 Try.underlying9 HS1'
    have hstr2 := run_str (P := Try.prog) 22 5 9 Try.underlying22 Try.underlying5 Try.underlying9 HO2.out.slF
    clear hs hb HO2 HS1' HS1
    have k1 : (numL a).length ≤ (numL a).length := num_mono (by omega) (by omega)
    have k2 := num_len a
    have k3 := num_nil a (by omega)
    have k4 : decide ((numL a).length < (numL a).length) = false := by simp
    have k5 : decide (8 < (numL a).length) = false := by simp; omega
    have k6 : decide ((8 : Int) < (numL a).length) = false := by simp; omega
    have k7 : (((numL a).length : Int) == 0) = ((a : Int) == 0) := by rw [Bool.eq_iff_iff, beq_iff_eq, beq_iff_eq]; omega
    have K8 : Fact ((numL a).length = (numL a).length → (Op.bytesLess (numL a) (numL a) = true ↔ a < a)) := ⟨fun he => by rw [bytesLess_iff he]; omega⟩
    clear k3
    generalize hx : numL a = x at *
    clear hx
    by_cases hlt : x.length < x.length
    · exact absurd hlt (Nat.lt_irrefl _)
    · have k9 : decide (x.length < x.length) = false := decide_eq_false hlt
      have k8 := K8.out (by omega)
      have k10 : Op.bytesLess x x = false := by rw [Bool.eq_false_iff]; intro h; have := k8.1 h; omega
      clear k8
      go_wp2_with fail
      go_ret
      exact ⟨rfl, HB3.out⟩
  · have hne : ((a : Int) != b) = true := by simp; omega
    have h1 : (b : Int) < a := by omega
    have h2 : ¬ (a : Int) < b := by omega
    go_enter Try.func4, Try.ntmps4
    go_wp2_with (first
      | (go_at_call 19; refine (Awake_calls _).mono ?_; rintro e w1 ⟨rfl, hb1⟩; have HB1 := Fact.mk hb1; clear hb1)
      | (go_at_call 22; fail))
    refine (Num_calls _ _ b rfl (by omega)).mono ?_
    rintro e w2 ⟨v1, rfl, HO1, hb⟩
    have HB2 : Fact (Below w.heap.size w w2) := ⟨HB1.out.trans (hb.mono HB1.out.size)⟩
    have HB12 := Fact.mk hb
    obtain ⟨A1, c1, hv, hs⟩ := HO1.out.sl
    subst hv
    have hs1 := HO1.out.slF
    have HS1 := Fact.mk hs1
    clear hs hs1 hb HO1
    go_wp2_with fail
    refine (Num_calls _ _ a rfl (by omega)).mono ?_
    rintro e w3 ⟨v2, rfl, HO2, hb⟩
    have HB3 : Fact (Below w.heap.size w w3) := ⟨HB2.out.trans (hb.mono HB2.out.size)⟩
    obtain ⟨A2, c2, hv, hs⟩ := HO2.out.sl
    subst hv
    have HS1' := HS1.out.move (Same.of_below hb (fun k hk => hk.2))
    have hstr1 := run_str (P := Try.prog) 22 5 9 Try.underlying22 Try.underlying5 Try.underlying9 HS1'
    have hstr2 := run_str (P := Try.prog) 22 5 9 Try.underlying22 Try.underlying5 Try.underlying9 HO2.out.slF
    clear hs hb HO2 HS1' HS1
    have k1 : (numL b).length ≤ (numL a).length := num_mono (by omega) (by omega)
    have k2 := num_len a
    have k3 := num_nil b (by omega)
    have k4 : decide ((numL a).length < (numL b).length) = false := by simp; omega
    have k5 : decide (8 < (numL a).length) = false := by simp; omega
    have k6 : decide ((8 : Int) < (numL a).length) = false := by simp; omega
    have k7 : (((numL b).length : Int) == 0) = ((b : Int) == 0) := by rw [Bool.eq_iff_iff, beq_iff_eq, beq_iff_eq]; omega
    have K8 : Fact ((numL b).length = (numL a).length → (Op.bytesLess (numL b) (numL a) = true ↔ b < a)) := ⟨fun he => by rw [bytesLess_iff he, val_num b (by omega), val_num a (by omega)]⟩
    clear k3
    generalize hx : numL b = x at *
    generalize hy : numL a = y at *
    clear hx hy
    by_cases hlt : x.length < y.length
    · have k9 : decide (x.length < y.length) = true := decide_eq_true hlt
      go_wp2_with fail
      go_ret
      exact ⟨rfl, HB3.out⟩
    · have k9 : decide (x.length < y.length) = false := decide_eq_false hlt
      have k8 := K8.out (by omega)
      have k10 : Op.bytesLess x y = true := k8.2 (by omega)
      clear k8
      go_wp2_with fail
      go_ret
      exact ⟨rfl, HB3.out⟩
theorem TlvOrder_row (w : World) (a b : Int) (ha : 0 ≤ a ∧ a ≤ 18446744073709551615) (hb : 0 ≤ b ∧ b ≤ 18446744073709551615) :
    Calls Try.prog 4 #[.int .u64 a, .int .u64 b] w fun e w' => e = .returned (.bool true) ∧ Below w.heap.size w w' := by
  obtain ⟨m, rfl⟩ := Int.eq_ofNat_of_zero_le ha.1
  obtain ⟨n, rfl⟩ := Int.eq_ofNat_of_zero_le hb.1
  exact TlvOrder_calls w m n (by omega) (by omega)
end Go.Proofs.Ytjjcjdefenbnjaa.LawOrder
