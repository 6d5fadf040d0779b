/- DenomChecks: for every input the law answers true; what was in memory before is as it was. -/
import Derived.Test.YtjjcjdefenbnjaaDenomF
set_option linter.unusedVariables false
set_option linter.unusedSimpArgs false
namespace Go.Proofs.Ytjjcjdefenbnjaa.LawChecks
open Go.RowKit Go.Proofs.Ytjjcjdefenbnjaa.Lib Go.Proofs.Ytjjcjdefenbnjaa.Reg Go.Proofs.Ytjjcjdefenbnjaa.DenomA Go.Proofs.Ytjjcjdefenbnjaa.DenomB Go.Proofs.Ytjjcjdefenbnjaa.DenomC Go.Proofs.Ytjjcjdefenbnjaa.DenomD Go.Proofs.Ytjjcjdefenbnjaa.DenomE Go.Proofs.Ytjjcjdefenbnjaa.DenomF
theorem nameL_len (l : List UInt8) : (nameL l).length ≤ 184 := nameL_len' l 46
set_option maxHeartbeats 2000000 in
set_option maxRecDepth 100000 in
theorem DenomChecks_calls (w : World) (F : Nat → Prop) (s : ByteArray) (A : Option Addr) (n c : Nat) (l : List UInt8) (h : Sl rU8 w F A n c l) (hF : ∀ k, F k → k < w.heap.size) :
    Calls Try.prog 11 #[.string s, .slice A n c] w fun e w' => e = .returned (.bool true) ∧ Below w.heap.size w w' := by
  obtain ⟨x, rfl⟩ := of_S s
  have sz := size_S x
  obtain ⟨m, hm⟩ : ∃ m, x.length = m := ⟨_, rfl⟩
  rw [hm] at sz
  have HF := Fact.mk hF
  have H := Fact.mk h
  clear h hF
  by_cases hb5 : 500 < m
  · have k1 : decide ((500 : Int) < m) = true := decide_eq_true (by omega)
    have k1' : decide (500 < m) = true := decide_eq_true hb5
    go_enter Try.func11, Try.ntmps11
    go_wp2_with (go_at_call 41; refine (Awake_calls _).mono ?_; rintro e w1 ⟨rfl, hb⟩; have HB1 := Fact.mk hb; clear hb)
    go_ret
    exact ⟨rfl, HB1.out⟩
  · have k1 : decide ((500 : Int) < m) = false := decide_eq_false (by omega)
    have k1' : decide (500 < m) = false := decide_eq_false hb5
    have hxm : x.length ≤ 9223372036854775806 := by omega
    have HXM := Fact.mk hxm
    clear hxm hm
    go_enter Try.func11, Try.ntmps11
    go_wp2_with (first
      | (go_at_call 41; refine (Awake_calls _).mono ?_; rintro e w1 ⟨rfl, hb⟩; have HB1 := Fact.mk hb; clear hb)
      | (go_at_call 42; fail))
    refine (Check_calls _ x HXM.out).mono ?_
    rintro e w2 ⟨rfl, q, hw⟩
    have HB2 : Fact (Below w.heap.size w w2) := ⟨by rw [hw]; exact below_drewN' HB1.out q⟩
    clear hw
    go_wp2_with (go_at_call 43; fail)
    refine (RDenom_calls _ x HXM.out).mono ?_
    rintro e w3 ⟨rfl, q, hw⟩
    have HB3 : Fact (Below w.heap.size w w3) := ⟨by rw [hw]; exact below_drewN' HB2.out q⟩
    clear hw
    generalize checkL x = bx
    have hbx : (bx == bx) = true := by simp
    go_wp2_with (go_at_call 44; fail)
    refine (Name_calls _ F A n c l (H.out.move (Same.of_below HB3.out HF.out)) (fun k hk => by have := HF.out k hk; have := HB3.out.size; omega)).mono ?_
    rintro e w4 ⟨rfl, hb⟩
    have HB4 : Fact (Below w.heap.size w w4) := ⟨HB3.out.trans (hb.mono HB3.out.size)⟩
    clear hb
    go_wp2_with (go_at_call 42; fail)
    refine (Check_calls _ (nameL l) (by have := nameL_len l; omega)).mono ?_
    rintro e w5 ⟨rfl, q, hw⟩
    have HB5 : Fact (Below w.heap.size w w5) := ⟨by rw [hw]; exact below_drewN' HB4.out q⟩
    clear hw
    go_wp2_with (go_at_call 44; fail)
    refine (Name_calls _ F A n c l (H.out.move (Same.of_below HB5.out HF.out)) (fun k hk => by have := HF.out k hk; have := HB5.out.size; omega)).mono ?_
    rintro e w6 ⟨rfl, hb⟩
    have HB6 : Fact (Below w.heap.size w w6) := ⟨HB5.out.trans (hb.mono HB5.out.size)⟩
    clear hb
    go_wp2_with (go_at_call 43; fail)
    refine (RDenom_calls _ (nameL l) (by have := nameL_len l; omega)).mono ?_
    rintro e w7 ⟨rfl, q, hw⟩
    have HB7 : Fact (Below w.heap.size w w7) := ⟨by rw [hw]; exact below_drewN' HB6.out q⟩
    clear hw
    generalize checkL (nameL l) = by_
    have hby : (by_ == by_) = true := by simp
    go_wp2_with fail
    go_ret
    exact ⟨rfl, HB7.out⟩
end Go.Proofs.Ytjjcjdefenbnjaa.LawChecks
