/- DenomBack: for every input the law answers true; what was in memory before is as it was. -/
import Derived.Test.YtjjcjdefenbnjaaPlainE
set_option linter.unusedVariables false
set_option linter.unusedSimpArgs false
namespace Go.Proofs.Ytjjcjdefenbnjaa.LawDBack
open Go.RowKit Go.Proofs.Ytjjcjdefenbnjaa.Lib Go.Proofs.Ytjjcjdefenbnjaa.Reg Go.Proofs.Ytjjcjdefenbnjaa.DenomA Go.Proofs.Ytjjcjdefenbnjaa.DenomB Go.Proofs.Ytjjcjdefenbnjaa.DenomC Go.Proofs.Ytjjcjdefenbnjaa.DenomD Go.Proofs.Ytjjcjdefenbnjaa.DenomE Go.Proofs.Ytjjcjdefenbnjaa.DenomF Go.Proofs.Ytjjcjdefenbnjaa.LawChecks Go.Proofs.Ytjjcjdefenbnjaa.PlainE
set_option maxHeartbeats 4000000 in
set_option maxRecDepth 100000 in
theorem DenomBack_calls (w : World) (F : Nat → Prop) (ch : Int) (hc0 : 0 ≤ ch) (hc1 : ch ≤ 255) (A : Option Addr) (n c : Nat) (l : List UInt8) (h : Sl rU8 w F A n c l) (hF : ∀ k, F k → k < w.heap.size) :
    Calls Try.prog 13 #[.int .u8 ch, .slice A n c] w fun e w' => e = .returned (.bool true) ∧ Below w.heap.size w w' := by
  have HF := Fact.mk hF
  have H := Fact.mk h
  clear h hF
  obtain ⟨r, hr, hr4⟩ : ∃ r : Nat, ch % 4 = (r : Int) ∧ r < 4 := ⟨(ch % 4).toNat, by omega, by omega⟩
  have t4 : ch.tmod 4 = (r : Int) := by rw [Int.tmod_eq_emod_of_nonneg hc0]; exact hr
  have i4 : IntKind.i64.wrap (r : Int) = (r : Int) := by rw [IntKind.wrap_i64]; omega
  have u4 : IntKind.u8.wrap (r : Int) = (r : Int) := by rw [IntKind.wrap_u8]; omega
  go_enter Try.func13, Try.ntmps13
  go_wp2_with (first
    | (go_at_call 41; refine (Awake_calls _).mono ?_; rintro e w1 ⟨rfl, hb⟩; have HB1 := Fact.mk hb; clear hb)
    | (go_at_call 44; fail))
  refine (Name_calls _ F A n c l (H.out.move (Same.of_below HB1.out HF.out)) (fun k hk => by have := HF.out k hk; have := HB1.out.size; omega)).mono ?_
  rintro e w2 ⟨rfl, hb⟩
  have HB2 : Fact (Below w.heap.size w w2) := ⟨HB1.out.trans (hb.mono HB1.out.size)⟩
  have HNL := Fact.mk (nameL_len l)
  clear hb
  generalize nameL l = s at HNL ⊢
  have tl := toList_S
  go_wp2_with (go_at_call 45; fail)
  refine (There_calls _ (r : Int) s (by have := HNL.out; omega)).mono ?_
  rintro e w3 ⟨rfl, hb⟩
  have HB3 : Fact (Below w.heap.size w w3) := ⟨HB2.out.trans (hb.mono HB2.out.size)⟩
  clear hb
  rcases there_cases hr4 s with ⟨er, ht, he⟩ | ⟨t, hs, hk, hkt, ht36, hb0, ht⟩ | ⟨hk, h36, hb0, ht⟩
  · rw [ht]
    have he1 : (er != 0) = true := by simpa using he
    have he2 : (er == 0) = false := by simpa using he
    go_wp2_with fail
    go_ret
    exact ⟨rfl, HB3.out⟩
  · rw [ht]
    have HT : Fact (t.length ≤ 9223372036854775806) := ⟨by omega⟩
    have HS : Fact (s.length ≤ 9223372036854775806) := ⟨by have := HNL.out; omega⟩
    have HKT := Fact.mk hkt
    have HB0 := Fact.mk hb0
    have HALT : Fact ((∃ y, backL (r : Int) t = (y, true)) ∨ (backL (r : Int) t = ([], false) ∧ thereL (r : Int) t = (s, 0))) := ⟨by
      rcases back_cases hr4 t with ⟨y, _, hy⟩ | hy
      · exact .inl ⟨y, hy⟩
      · right
        refine ⟨hy, ?_⟩
        rcases there_cases hr4 t with ⟨er, h1, h2⟩ | ⟨u, _, _, _, _, h1, _⟩ | ⟨_, _, _, h1⟩
        · exfalso
          unfold thereL at h1
          rw [if_neg (by omega), if_neg (by rw [hkt]; simp), hy, if_neg (by simp), if_neg (by omega)] at h1
          injection h1 with h1 h3
          exact h2 h3.symm
        · rw [hy] at h1; injection h1 with _ h1; cases h1
        · rw [h1, ← hs]⟩
    clear hs hk hkt hb0 ht
    have z1 : ((0 : Int) != 0) = false := rfl
    go_wp2_with (go_at_call 45; fail)
    refine (There_calls _ (r : Int) t HT.out).mono ?_
    rintro e w4 ⟨rfl, hb⟩
    have HB4 : Fact (Below w.heap.size w w4) := ⟨HB3.out.trans (hb.mono HB3.out.size)⟩
    clear hb
    go_wp2_with (go_at_call 47; fail)
    refine (Back_calls _ (r : Int) s HS.out).mono ?_
    rintro e w5 ⟨rfl, hb⟩
    have HB5 : Fact (Below w.heap.size w w5) := ⟨HB4.out.trans (hb.mono HB4.out.size)⟩
    clear hb
    rw [HB0.out]
    go_wp2_with (go_at_call 47; fail)
    refine (Back_calls _ (r : Int) t HT.out).mono ?_
    rintro e w6 ⟨rfl, hb⟩
    have HB6 : Fact (Below w.heap.size w w6) := ⟨HB5.out.trans (hb.mono HB5.out.size)⟩
    clear hb
    rcases HALT.out with ⟨y, hy⟩ | ⟨hy, hz⟩
    · rw [hy]
      generalize thereL (r : Int) t = th
      obtain ⟨th1, th2⟩ := th
      go_wp2_with (go_at_call 42; fail)
      refine (Check_calls _ t HT.out).mono ?_
      rintro e w7 ⟨rfl, q, hw⟩
      have HB7 : Fact (Below w.heap.size w w7) := ⟨by rw [hw]; exact below_drewN' HB6.out q⟩
      clear hw
      rw [HKT.out]
      go_wp2_with fail
      go_ret
      exact ⟨rfl, HB7.out⟩
    · rw [hy, hz]
      go_wp2_with (go_at_call 42; fail)
      refine (Check_calls _ t HT.out).mono ?_
      rintro e w7 ⟨rfl, q, hw⟩
      have HB7 : Fact (Below w.heap.size w w7) := ⟨by rw [hw]; exact below_drewN' HB6.out q⟩
      clear hw
      rw [HKT.out]
      go_wp2_with fail
      go_ret
      exact ⟨rfl, HB7.out⟩
  · rw [ht]
    have hpl : (pre r ++ s).length = s.length + 4 := by rw [List.length_append]; show 4 + s.length = _; omega
    obtain ⟨g1, g2⟩ := there_pre hr4 hk h36
    have g3 := back_pre hr4 s
    have sz1 := size_S s
    have sz2 := size_S (pre r ++ s)
    rw [hpl] at sz2
    have HS : Fact (s.length ≤ 9223372036854775806) := ⟨by have := HNL.out; omega⟩
    have HP : Fact ((pre r ++ s).length ≤ 9223372036854775806) := ⟨by rw [hpl]; have := HNL.out; omega⟩
    generalize hpp : pre r ++ s = p at g1 g2 g3 sz2 HP ⊢
    have G1 := Fact.mk g1
    have G2 := Fact.mk g2
    have G3 := Fact.mk g3
    have HB0 := Fact.mk hb0
    obtain ⟨m, hm⟩ : ∃ m, s.length = m := ⟨_, rfl⟩
    have hm4 : m ≤ 36 := by omega
    rw [hm] at sz1 sz2
    have hwm : IntKind.i64.wrap ((m : Int) + 4) = (m : Int) + 4 := by rw [IntKind.wrap_i64]; omega
    clear hpp hk hb0 ht g1 g2 g3 hpl hm h36
    have z1 : ((0 : Int) != 0) = false := rfl
    go_wp2_with (go_at_call 45; fail)
    refine (There_calls _ (r : Int) p HP.out).mono ?_
    rintro e w4 ⟨rfl, hb⟩
    have HB4 : Fact (Below w.heap.size w w4) := ⟨HB3.out.trans (hb.mono HB3.out.size)⟩
    clear hb
    rw [G2.out]
    go_wp2_with (go_at_call 47; fail)
    refine (Back_calls _ (r : Int) s HS.out).mono ?_
    rintro e w5 ⟨rfl, hb⟩
    have HB5 : Fact (Below w.heap.size w w5) := ⟨HB4.out.trans (hb.mono HB4.out.size)⟩
    clear hb
    rw [HB0.out]
    go_wp2_with (go_at_call 47; fail)
    refine (Back_calls _ (r : Int) p HP.out).mono ?_
    rintro e w6 ⟨rfl, hb⟩
    have HB6 : Fact (Below w.heap.size w w6) := ⟨HB5.out.trans (hb.mono HB5.out.size)⟩
    clear hb
    rw [G3.out]
    go_wp2_with (go_at_call 42; fail)
    refine (Check_calls _ p HP.out).mono ?_
    rintro e w7 ⟨rfl, q, hw⟩
    have HB7 : Fact (Below w.heap.size w w7) := ⟨by rw [hw]; exact below_drewN' HB6.out q⟩
    clear hw
    rw [G1.out]
    go_wp2_with fail
    go_ret
    exact ⟨rfl, HB7.out⟩
end Go.Proofs.Ytjjcjdefenbnjaa.LawDBack
