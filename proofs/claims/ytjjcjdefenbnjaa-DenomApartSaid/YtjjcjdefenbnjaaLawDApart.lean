/- DenomApart: for every input the law answers true; what was in memory before is as it was. -/
import Derived.Test.YtjjcjdefenbnjaaPlainE
set_option linter.unusedVariables false
set_option linter.unusedSimpArgs false
namespace Go.Proofs.Ytjjcjdefenbnjaa.LawDApart
open Go.RowKit Go.Proofs.Ytjjcjdefenbnjaa.Lib Go.Proofs.Ytjjcjdefenbnjaa.Reg Go.Proofs.Ytjjcjdefenbnjaa.DenomA Go.Proofs.Ytjjcjdefenbnjaa.DenomB Go.Proofs.Ytjjcjdefenbnjaa.DenomC Go.Proofs.Ytjjcjdefenbnjaa.DenomD Go.Proofs.Ytjjcjdefenbnjaa.DenomE Go.Proofs.Ytjjcjdefenbnjaa.DenomF Go.Proofs.Ytjjcjdefenbnjaa.LawChecks Go.Proofs.Ytjjcjdefenbnjaa.PlainE
theorem beq_congr_of_iff {a b c d : List UInt8} (h : a = b ↔ c = d) : (a == b) = (c == d) := by
  rw [Bool.eq_iff_iff]; simpa using h
theorem apart_law {c : Nat} (hc : c < 4) (s1 s2 : List UInt8) (h1 : (thereL (c : Int) s1).2 = 0) (h2 : (thereL (c : Int) s2).2 = 0) (hp : (backL (c : Int) s1).2 = (backL (c : Int) s2).2) : ((thereL (c : Int) s1).1 == (thereL (c : Int) s2).1) = (s1 == s2) := by
  rcases there_cases hc s1 with ⟨e1, t1, g1⟩ | ⟨t1, e1, -, -, -, b1, r1⟩ | ⟨-, -, b1, r1⟩
  · rw [t1] at h1; exact absurd h1 g1
  · rcases there_cases hc s2 with ⟨e2, t2, g2⟩ | ⟨t2, e2, -, -, -, b2, r2⟩ | ⟨-, -, b2, r2⟩
    · rw [t2] at h2; exact absurd h2 g2
    · rw [r1, r2]; apply beq_congr_of_iff; rw [e1, e2]; simp
    · rw [b1, b2] at hp; cases hp
  · rcases there_cases hc s2 with ⟨e2, t2, g2⟩ | ⟨t2, e2, -, -, -, b2, r2⟩ | ⟨-, -, b2, r2⟩
    · rw [t2] at h2; exact absurd h2 g2
    · rw [b1, b2] at hp; cases hp
    · rw [r1, r2]; apply beq_congr_of_iff; simp
theorem esc_law {c d : Nat} (hc : c < 10) (hd : d < 10) : (escL c == escL d) = ((c : Int) == (d : Int)) := by
  rw [Bool.eq_iff_iff]
  simp only [beq_iff_eq]
  constructor
  · intro h
    unfold escL at h
    have h7 : UInt8.ofNat (48 + c) = UInt8.ofNat (48 + d) := by simpa using h
    have := congrArg UInt8.toNat h7
    rw [UInt8.toNat_ofNat', UInt8.toNat_ofNat'] at this
    omega
  · intro h
    have : c = d := by omega
    rw [this]
set_option maxHeartbeats 4000000 in
set_option maxRecDepth 100000 in
theorem DenomApart_calls (w : World) (F : Nat → Prop) (ch : Int) (hc0 : 0 ≤ ch) (hc1 : ch ≤ 255) (A : Option Addr) (n c : Nat) (l : List UInt8) (h : Sl rU8 w F A n c l) (A' : Option Addr) (n' c' : Nat) (l' : List UInt8) (h' : Sl rU8 w F A' n' c' l') (x : Int) (hx0 : 0 ≤ x) (hx1 : x ≤ 255) (y : Int) (hy0 : 0 ≤ y) (hy1 : y ≤ 255) (hF : ∀ k, F k → k < w.heap.size) :
    Calls Try.prog 14 #[.int .u8 ch, .slice A n c, .slice A' n' c', .int .u8 x, .int .u8 y] w fun e w' => e = .returned (.bool true) ∧ Below w.heap.size w w' := by
  have HF := Fact.mk hF
  have H := Fact.mk h
  have H' := Fact.mk h'
  clear h h' hF
  obtain ⟨r, hr, hr4⟩ : ∃ r : Nat, ch % 4 = (r : Int) ∧ r < 4 := ⟨(ch % 4).toNat, by omega, by omega⟩
  have t4 : ch.tmod 4 = (r : Int) := by rw [Int.tmod_eq_emod_of_nonneg hc0]; exact hr
  have i4 : IntKind.i64.wrap (r : Int) = (r : Int) := by rw [IntKind.wrap_i64]; omega
  have u4 : IntKind.u8.wrap (r : Int) = (r : Int) := by rw [IntKind.wrap_u8]; omega
  obtain ⟨a, ha, ha10⟩ : ∃ r : Nat, x % 10 = (r : Int) ∧ r < 10 := ⟨(x % 10).toNat, by omega, by omega⟩
  have ta : x.tmod 10 = (a : Int) := by rw [Int.tmod_eq_emod_of_nonneg hx0]; exact ha
  have ia : IntKind.i64.wrap (a : Int) = (a : Int) := by rw [IntKind.wrap_i64]; omega
  have ua : IntKind.u8.wrap (a : Int) = (a : Int) := by rw [IntKind.wrap_u8]; omega
  obtain ⟨b, hbb, hb10⟩ : ∃ r : Nat, y % 10 = (r : Int) ∧ r < 10 := ⟨(y % 10).toNat, by omega, by omega⟩
  have tb : y.tmod 10 = (b : Int) := by rw [Int.tmod_eq_emod_of_nonneg hy0]; exact hbb
  have ib : IntKind.i64.wrap (b : Int) = (b : Int) := by rw [IntKind.wrap_i64]; omega
  have ub : IntKind.u8.wrap (b : Int) = (b : Int) := by rw [IntKind.wrap_u8]; omega
  have HE := Fact.mk (esc_law ha10 hb10)
  have HA10 := Fact.mk ha10
  have HTEN := Fact.mk hb10
  have HR4 := Fact.mk hr4
  have tl := toList_S
  clear ha10 hb10 hr4
  go_enter Try.func14, Try.ntmps14
  go_wp2_with (first
    | (go_at_call 41; refine (Awake_calls _).mono ?_; rintro e w1 ⟨rfl, hb⟩; have HB1 := Fact.mk hb; clear hb)
    | (go_at_call 44; fail))
  obtain ⟨s, hs⟩ : ∃ s, nameL l = s := ⟨_, rfl⟩
  obtain ⟨s', hs'⟩ : ∃ s, nameL l' = s := ⟨_, rfl⟩
  have HN1 := Fact.mk hs
  have HN2 := Fact.mk hs'
  have HNL := Fact.mk (nameL_len l)
  have HNL' := Fact.mk (nameL_len l')
  rw [hs] at HNL
  rw [hs'] at HNL'
  clear hs hs'
  have HAP := Fact.mk (apart_law HR4.out s s')
  refine (Name_calls _ F A n c l (H.out.move (Same.of_below HB1.out HF.out)) (fun k hk => by have := HF.out k hk; have := HB1.out.size; omega)).mono ?_
  rintro e w2 ⟨rfl, hb⟩
  have HB2 : Fact (Below w.heap.size w w2) := ⟨HB1.out.trans (hb.mono HB1.out.size)⟩
  clear hb
  rw [HN1.out]
  go_wp2_with (go_at_call 45; fail)
  refine (There_calls _ (r : Int) s (by have := HNL.out; omega)).mono ?_
  rintro e w3 ⟨rfl, hb⟩
  have HB3 : Fact (Below w.heap.size w w3) := ⟨HB2.out.trans (hb.mono HB2.out.size)⟩
  clear hb
  go_wp2_with (go_at_call 44; fail)
  refine (Name_calls _ F A' n' c' l' (H'.out.move (Same.of_below HB3.out HF.out)) (fun k hk => by have := HF.out k hk; have := HB3.out.size; omega)).mono ?_
  rintro e w4 ⟨rfl, hb⟩
  have HB4 : Fact (Below w.heap.size w w4) := ⟨HB3.out.trans (hb.mono HB3.out.size)⟩
  clear hb
  rw [HN2.out]
  go_wp2_with (go_at_call 45; fail)
  refine (There_calls _ (r : Int) s' (by have := HNL'.out; omega)).mono ?_
  rintro e w5 ⟨rfl, hb⟩
  have HB5 : Fact (Below w.heap.size w w5) := ⟨HB4.out.trans (hb.mono HB4.out.size)⟩
  clear hb
  go_wp2_with (go_at_call 44; fail)
  refine (Name_calls _ F A n c l (H.out.move (Same.of_below HB5.out HF.out)) (fun k hk => by have := HF.out k hk; have := HB5.out.size; omega)).mono ?_
  rintro e w6 ⟨rfl, hb⟩
  have HB6 : Fact (Below w.heap.size w w6) := ⟨HB5.out.trans (hb.mono HB5.out.size)⟩
  clear hb
  rw [HN1.out]
  go_wp2_with (go_at_call 47; fail)
  refine (Back_calls _ (r : Int) s (by have := HNL.out; omega)).mono ?_
  rintro e w7 ⟨rfl, hb⟩
  have HB7 : Fact (Below w.heap.size w w7) := ⟨HB6.out.trans (hb.mono HB6.out.size)⟩
  clear hb
  go_wp2_with (go_at_call 44; fail)
  refine (Name_calls _ F A' n' c' l' (H'.out.move (Same.of_below HB7.out HF.out)) (fun k hk => by have := HF.out k hk; have := HB7.out.size; omega)).mono ?_
  rintro e w8 ⟨rfl, hb⟩
  have HB8 : Fact (Below w.heap.size w w8) := ⟨HB7.out.trans (hb.mono HB7.out.size)⟩
  clear hb
  rw [HN2.out]
  go_wp2_with (go_at_call 47; fail)
  refine (Back_calls _ (r : Int) s' (by have := HNL'.out; omega)).mono ?_
  rintro e w9 ⟨rfl, hb⟩
  have HB9 : Fact (Below w.heap.size w w9) := ⟨HB8.out.trans (hb.mono HB8.out.size)⟩
  clear hb
  generalize hth1 : thereL (r : Int) s = th1 at HAP ⊢
  generalize hth2 : thereL (r : Int) s' = th2 at HAP ⊢
  generalize hbk1 : backL (r : Int) s = bk1 at HAP ⊢
  generalize hbk2 : backL (r : Int) s' = bk2 at HAP ⊢
  clear hth1 hth2 hbk1 hbk2
  obtain ⟨x1, e1⟩ := th1
  obtain ⟨x2, e2⟩ := th2
  obtain ⟨y1, q1⟩ := bk1
  obtain ⟨y2, q2⟩ := bk2
  have HAP1 : Fact (e1 = 0 → e2 = 0 → q1 = q2 → (x1 == x2) = (s == s')) := ⟨HAP.out⟩
  clear HAP
  by_cases he1 : e1 = 0
  · by_cases he2 : e2 = 0
    · by_cases hq : q1 = q2
      · have hx := HAP1.out he1 he2 hq
        have f1 : (e1 != 0) = false := by simpa using he1
        have f2 : (e2 != 0) = false := by simpa using he2
        subst hq
        have HX := Fact.mk hx
        clear he1 he2 hx HAP1
        go_wp2_with (go_at_call 44; fail)
        refine (Name_calls _ F A n c l (H.out.move (Same.of_below HB9.out HF.out)) (fun k hk => by have := HF.out k hk; have := HB9.out.size; omega)).mono ?_
        rintro e w10 ⟨rfl, hb⟩
        have HB10 : Fact (Below w.heap.size w w10) := ⟨HB9.out.trans (hb.mono HB9.out.size)⟩
        clear hb
        rw [HN1.out]
        go_wp2_with (go_at_call 44; fail)
        refine (Name_calls _ F A' n' c' l' (H'.out.move (Same.of_below HB10.out HF.out)) (fun k hk => by have := HF.out k hk; have := HB10.out.size; omega)).mono ?_
        rintro e w11 ⟨rfl, hb⟩
        have HB11 : Fact (Below w.heap.size w w11) := ⟨HB10.out.trans (hb.mono HB10.out.size)⟩
        clear hb
        rw [HN2.out]
        have hx := HX.out
        have HX' := HX
        obtain ⟨gg, hgg⟩ : ∃ g, (s == s') = g := ⟨_, rfl⟩
        rw [hgg] at hx
        have hg2 : (gg == gg) = true := by simp
        go_wp2_with (go_at_call 49; fail)
        refine (Escrow_calls _ a HA10.out).mono ?_
        rintro e w12 ⟨rfl, hb⟩
        have HB12 : Fact (Below w.heap.size w w12) := ⟨HB11.out.trans (hb.mono HB11.out.size)⟩
        clear hb
        go_wp2_with (go_at_call 49; fail)
        refine (Escrow_calls _ b HTEN.out).mono ?_
        rintro e w13 ⟨rfl, hb⟩
        have HB13 : Fact (Below w.heap.size w w13) := ⟨HB12.out.trans (hb.mono HB12.out.size)⟩
        clear hb
        have he := HE.out
        obtain ⟨g, hgq⟩ : ∃ g, ((a : Int) == (b : Int)) = g := ⟨_, rfl⟩
        rw [hgq] at he
        have hg : (g == g) = true := by simp
        go_wp2_with fail
        go_ret
        exact ⟨rfl, HB13.out⟩
      · have f1 : (e1 != 0) = false := by simpa using he1
        have f2 : (e2 != 0) = false := by simpa using he2
        clear he1 he2 HAP1
        cases q1
        · cases q2
          · exact absurd rfl hq
          · clear hq
            go_wp2_with (go_at_call 49; fail)
            refine (Escrow_calls _ a HA10.out).mono ?_
            rintro e w10 ⟨rfl, hb⟩
            have HB10 : Fact (Below w.heap.size w w10) := ⟨HB9.out.trans (hb.mono HB9.out.size)⟩
            clear hb
            go_wp2_with (go_at_call 49; fail)
            refine (Escrow_calls _ b HTEN.out).mono ?_
            rintro e w11 ⟨rfl, hb⟩
            have HB11 : Fact (Below w.heap.size w w11) := ⟨HB10.out.trans (hb.mono HB10.out.size)⟩
            clear hb
            have he := HE.out
            obtain ⟨g, hgq⟩ : ∃ g, ((a : Int) == (b : Int)) = g := ⟨_, rfl⟩
            rw [hgq] at he
            have hg : (g == g) = true := by simp
            go_wp2_with fail
            go_ret
            exact ⟨rfl, HB11.out⟩
        · cases q2
          · clear hq
            go_wp2_with (go_at_call 49; fail)
            refine (Escrow_calls _ a HA10.out).mono ?_
            rintro e w10 ⟨rfl, hb⟩
            have HB10 : Fact (Below w.heap.size w w10) := ⟨HB9.out.trans (hb.mono HB9.out.size)⟩
            clear hb
            go_wp2_with (go_at_call 49; fail)
            refine (Escrow_calls _ b HTEN.out).mono ?_
            rintro e w11 ⟨rfl, hb⟩
            have HB11 : Fact (Below w.heap.size w w11) := ⟨HB10.out.trans (hb.mono HB10.out.size)⟩
            clear hb
            have he := HE.out
            obtain ⟨g, hgq⟩ : ∃ g, ((a : Int) == (b : Int)) = g := ⟨_, rfl⟩
            rw [hgq] at he
            have hg : (g == g) = true := by simp
            go_wp2_with fail
            go_ret
            exact ⟨rfl, HB11.out⟩
          · exact absurd rfl hq
    · have f1 : (e1 != 0) = false := by simpa using he1
      have f2 : (e2 != 0) = true := by simpa using he2
      clear he1 he2 HAP1
      go_wp2_with (go_at_call 49; fail)
      refine (Escrow_calls _ a HA10.out).mono ?_
      rintro e w10 ⟨rfl, hb⟩
      have HB10 : Fact (Below w.heap.size w w10) := ⟨HB9.out.trans (hb.mono HB9.out.size)⟩
      clear hb
      go_wp2_with (go_at_call 49; fail)
      refine (Escrow_calls _ b HTEN.out).mono ?_
      rintro e w11 ⟨rfl, hb⟩
      have HB11 : Fact (Below w.heap.size w w11) := ⟨HB10.out.trans (hb.mono HB10.out.size)⟩
      clear hb
      have he := HE.out
      obtain ⟨g, hgq⟩ : ∃ g, ((a : Int) == (b : Int)) = g := ⟨_, rfl⟩
      rw [hgq] at he
      have hg : (g == g) = true := by simp
      go_wp2_with fail
      go_ret
      exact ⟨rfl, HB11.out⟩
  · have f1 : (e1 != 0) = true := by simpa using he1
    clear he1 HAP1
    go_wp2_with (go_at_call 49; fail)
    refine (Escrow_calls _ a HA10.out).mono ?_
    rintro e w10 ⟨rfl, hb⟩
    have HB10 : Fact (Below w.heap.size w w10) := ⟨HB9.out.trans (hb.mono HB9.out.size)⟩
    clear hb
    go_wp2_with (go_at_call 49; fail)
    refine (Escrow_calls _ b HTEN.out).mono ?_
    rintro e w11 ⟨rfl, hb⟩
    have HB11 : Fact (Below w.heap.size w w11) := ⟨HB10.out.trans (hb.mono HB10.out.size)⟩
    clear hb
    have he := HE.out
    obtain ⟨g, hgq⟩ : ∃ g, ((a : Int) == (b : Int)) = g := ⟨_, rfl⟩
    rw [hgq] at he
    have hg : (g == g) = true := by simp
    go_wp2_with fail
    go_ret
    exact ⟨rfl, HB11.out⟩
end Go.Proofs.Ytjjcjdefenbnjaa.LawDApart
