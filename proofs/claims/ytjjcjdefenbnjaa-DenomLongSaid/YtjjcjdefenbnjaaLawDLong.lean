/- DenomLong: for every input the law answers true; what was in memory before is as it was. -/
import Derived.Test.YtjjcjdefenbnjaaPlainE
set_option linter.unusedVariables false
set_option linter.unusedSimpArgs false
namespace Go.Proofs.Ytjjcjdefenbnjaa.LawDLong
open Go.RowKit Go.Proofs.Ytjjcjdefenbnjaa.Lib Go.Proofs.Ytjjcjdefenbnjaa.Reg Go.Proofs.Ytjjcjdefenbnjaa.DenomA Go.Proofs.Ytjjcjdefenbnjaa.DenomB Go.Proofs.Ytjjcjdefenbnjaa.DenomC Go.Proofs.Ytjjcjdefenbnjaa.DenomD Go.Proofs.Ytjjcjdefenbnjaa.DenomE Go.Proofs.Ytjjcjdefenbnjaa.DenomF Go.Proofs.Ytjjcjdefenbnjaa.LawChecks Go.Proofs.Ytjjcjdefenbnjaa.PlainD Go.Proofs.Ytjjcjdefenbnjaa.PlainE
theorem there_good {c : Nat} (hc : c < 4) {s : List UInt8} (hk : checkL s = true) :
    (∃ e, thereL (c : Int) s = ([], e) ∧ e ≠ 0 ∧ (∃ y, backL (c : Int) s = (y, false)) ∧ 36 < s.length) ∨
    (∃ t, checkL t = true ∧ s.length = t.length + 4 ∧ backL (c : Int) s = (t, true) ∧ thereL (c : Int) s = (t, 0)) ∨
    (checkL (pre c ++ s) = true ∧ s.length ≤ 36 ∧ (∃ y, backL (c : Int) s = (y, false)) ∧ thereL (c : Int) s = (pre c ++ s, 0)) := by
  rcases there_cases hc s with ⟨e, t, g⟩ | ⟨t, e, -, k, -, b, r⟩ | ⟨-, h36, b, r⟩
  · left
    refine ⟨e, t, g, ?_⟩
    rcases back_cases hc s with ⟨u, hu, hb⟩ | hb
    · exfalso
      unfold thereL at t
      rw [if_neg (by omega), if_neg (by rw [hk]; simp), hb, if_pos rfl] at t
      injection t with _ t
      exact g t.symm
    · refine ⟨⟨_, hb⟩, ?_⟩
      unfold thereL at t
      rw [if_neg (by omega), if_neg (by rw [hk]; simp), hb, if_neg (by simp)] at t
      by_cases h36 : 36 < s.length
      · exact h36
      · rw [if_neg h36] at t
        injection t with _ t
        exact absurd t.symm g
  · right; left
    refine ⟨t, k, ?_, b, r⟩
    rw [e, List.length_append, pre_len]; omega
  · right; right
    exact ⟨(there_pre hc hk h36).1, h36, ⟨_, b⟩, r⟩
theorem check_len {s : List UInt8} (h : checkL s = true) : s.length ≤ 40 := ((checkL_iff s).1 h).2.1
set_option maxHeartbeats 4000000 in
set_option maxRecDepth 100000 in
theorem DenomLong_calls (w : World) (F : Nat → Prop) (A : Option Addr) (n c : Nat) (l : List UInt8) (h : Sl rU8 w F A n c l) (A' : Option Addr) (n' c' : Nat) (l' : List UInt8) (h' : Sl rU8 w F A' n' c' l') (hF : ∀ k, F k → k < w.heap.size) :
    Calls Try.prog 15 #[.slice A n c, .slice A' n' c'] w fun e w' => e = .returned (.bool true) ∧ Below w.heap.size w w' := by
  have hlen : l'.length = n' := h'.len
  have hmx : n' ≤ 9223372036854775807 := Nat.le_trans h'.le h'.max_
  have HF := Fact.mk hF
  have H := Fact.mk h
  have H' := Fact.mk h'
  have HL := Fact.mk hlen
  clear h h' hF hlen
  have tl := toList_S
  go_enter Try.func15, Try.ntmps15
  go_wp2_with (first
    | (go_at_call 41; refine (Awake_calls _).mono ?_; rintro e w1 ⟨rfl, hb⟩; have HB1 := Fact.mk hb; clear hb)
    | (go_at_call 44; fail))
  refine (Name_calls _ F A n c l (H.out.move (Same.of_below HB1.out HF.out)) (fun k hk => by have := HF.out k hk; have := HB1.out.size; omega)).mono ?_
  rintro e w2 ⟨rfl, hb⟩
  have HB2 : Fact (Below w.heap.size w w2) := ⟨HB1.out.trans (hb.mono HB1.out.size)⟩
  clear hb
  have HNL := Fact.mk (nameL_len l)
  generalize nameL l = s at HNL ⊢
  go_wp2_with (go_at_call 42; fail)
  refine (Check_calls _ s (by have := HNL.out; omega)).mono ?_
  rintro e w3 ⟨rfl, q, hw⟩
  have HB3 : Fact (Below w.heap.size w w3) := ⟨by rw [hw]; exact below_drewN' HB2.out q⟩
  clear hw
  obtain ⟨g, hg⟩ : ∃ g, checkL s = g := ⟨_, rfl⟩
  rw [hg]
  cases g
  · go_wp2_with fail
    go_ret
    exact ⟨rfl, HB3.out⟩
  have HG := Fact.mk hg
  clear hg HNL
  go_wp2_with fail
  go_loopg [5, 21] n' (fun kq s i wr => ∃ (k : Nat) (x : List UInt8), s = .string (S x) ∧ i = .int .i64 (k : Int) ∧ Fact (k + kq = n') ∧ Fact (checkL x = true) ∧ Fact (Below w.heap.size w wr))
  case atStart => exact ⟨0, s, rfl, rfl, ⟨by omega⟩, HG, HB3⟩
  case round =>
    obtain ⟨k, x, rfl, rfl, HK, HX, HB⟩ := hrel
    have HX40 := Fact.mk (check_len HX.out)
    by_cases hlt : k < n'
    · obtain ⟨y, hy⟩ : ∃ x, l'[k]? = some x := ⟨_, List.getElem?_eq_getElem (by rw [HL.out]; exact hlt)⟩
      obtain ⟨ad, rfl, hf, hcell⟩ := H'.out.byte hy
      have hcell' : wr.cell? (ad.add k) = some (.int .u8 (y.toNat : Int)) := (cell_same (by rw [block_add]; exact HB.out.block _ (HF.out _ hf))).trans hcell
      have hc8 := y.toNat_lt
      generalize y.toNat = v at hcell' hc8
      obtain ⟨r, hr, hr4⟩ : ∃ r : Nat, (v : Int) % 4 = (r : Int) ∧ r < 4 := ⟨v % 4, by omega, by omega⟩
      have t4 : ((v : Int)).tmod 4 = (r : Int) := by rw [Int.tmod_eq_emod_of_nonneg (by omega)]; exact hr
      have i4 : IntKind.i64.wrap (r : Int) = (r : Int) := by rw [IntKind.wrap_i64]; omega
      have u4 : IntKind.u8.wrap (r : Int) = (r : Int) := by rw [IntKind.wrap_u8]; omega
      have HR4 := Fact.mk hr4
      clear hcell hy hf hr4
      by_cases hk : 20 < k
      · have kk : decide ((20 : Int) < k) = true := decide_eq_true (by omega)
        have kk' : decide (20 < k) = true := decide_eq_true hk
        clear hk
        go_wp2_with (go_at_call 42; fail)
        refine (Check_calls _ x (by have := HX40.out; omega)).mono ?_
        rintro e w4 ⟨rfl, q, hw⟩
        have HB4 : Fact (Below w.heap.size w w4) := ⟨by rw [hw]; exact below_drewN' HB.out q⟩
        clear hw
        rw [HX.out]
        go_wp2_with fail
        go_ret
        exact ⟨rfl, HB4.out⟩
      · have kk : decide ((20 : Int) < k) = false := decide_eq_false (by omega)
        have kk' : decide (20 < k) = false := decide_eq_false hk
        have HKN := Fact.mk hk
        clear hk
        go_wp2_with (go_at_call 47; fail)
        refine (Back_calls _ (r : Int) x (by have := HX40.out; omega)).mono ?_
        rintro e w4 ⟨rfl, hb⟩
        have HB4 : Fact (Below w.heap.size w w4) := ⟨HB.out.trans (hb.mono HB.out.size)⟩
        clear hb
        have hx40 := HX40.out
        have sz1 := size_S x
        obtain ⟨m, hm⟩ : ∃ m, x.length = m := ⟨_, rfl⟩
        rw [hm] at sz1 hx40
        have HXM : Fact (x.length ≤ 9223372036854775806) := ⟨by omega⟩
        rcases there_good HR4.out HX.out with ⟨er, ht, he, ⟨y, hy⟩, h36⟩ | ⟨t, hk, hl, hb0, ht⟩ | ⟨hk, h36, ⟨y, hb0⟩, ht⟩
        · rw [hy]
          have HT := Fact.mk ht
          have he1 : (er != 0) = true := by simpa using he
          have he2 : (er == 0) = false := by simpa using he
          have m1 : decide ((m : Int) ≤ 36) = false := decide_eq_false (by omega)
          have m2 : decide (m ≤ 36) = false := decide_eq_false (by omega)
          clear hy ht he h36 hm
          go_wp2_with (go_at_call 45; fail)
          refine (There_calls _ (r : Int) x HXM.out).mono ?_
          rintro e w5 ⟨rfl, hb⟩
          have HB5 : Fact (Below w.heap.size w w5) := ⟨HB4.out.trans (hb.mono HB4.out.size)⟩
          clear hb
          rw [HT.out]
          go_wp2_with fail
          go_ret
          exact ⟨rfl, HB5.out⟩
        · rw [hb0]
          have HT := Fact.mk ht
          have HKT := Fact.mk hk
          have sz2 := size_S t
          have hml : t.length = m - 4 := by omega
          have hm4 : 4 ≤ m := by omega
          obtain ⟨z, hz⟩ : ∃ z, m = z + 4 := ⟨m - 4, by omega⟩
          have hzt : t.length = z := by omega
          rw [hzt] at sz2
          clear hb0 ht hk hl hm hml hm4
          subst hz
          have e2 : (z : Int) + 4 - 4 = (z : Int) := by omega
          have e3 : IntKind.i64.wrap ((z : Int) + 4 - 4) = (z : Int) := by rw [IntKind.wrap_i64]; omega
          have e4 : IntKind.i64.wrap (z : Int) = (z : Int) := by rw [IntKind.wrap_i64]; omega
          clear hzt
          go_wp2_with (go_at_call 45; fail)
          refine (There_calls _ (r : Int) x HXM.out).mono ?_
          rintro e w5 ⟨rfl, hb⟩
          have HB5 : Fact (Below w.heap.size w w5) := ⟨HB4.out.trans (hb.mono HB4.out.size)⟩
          clear hb
          rw [HT.out]
          go_wp2_with fail
          go_roundg (n' - (k + 1))
          case measure => have := HK.out; omega
          case rel => exact ⟨k + 1, _, rfl, by go_num, ⟨by omega⟩, HKT, HB5⟩
        · rw [hb0]
          have HT := Fact.mk ht
          have HKT := Fact.mk hk
          have sz2 := size_S (pre r ++ x)
          have hpl : (pre r ++ x).length = m + 4 := by rw [List.length_append, hm]; show 4 + m = _; omega
          rw [hpl] at sz2
          have m1 : decide ((m : Int) ≤ 36) = true := decide_eq_true (by omega)
          have m2 : decide (m ≤ 36) = true := decide_eq_true (by omega)
          have e3 : IntKind.i64.wrap ((m : Int) + 4) = (m : Int) + 4 := by rw [IntKind.wrap_i64]; omega
          generalize pre r ++ x = p at HT HKT sz2 ⊢
          clear hb0 ht hk hpl hm h36
          go_wp2_with (go_at_call 45; fail)
          refine (There_calls _ (r : Int) x HXM.out).mono ?_
          rintro e w5 ⟨rfl, hb⟩
          have HB5 : Fact (Below w.heap.size w w5) := ⟨HB4.out.trans (hb.mono HB4.out.size)⟩
          clear hb
          rw [HT.out]
          go_wp2_with fail
          go_roundg (n' - (k + 1))
          case measure => have := HK.out; omega
          case rel => exact ⟨k + 1, _, rfl, by go_num, ⟨by omega⟩, HKT, HB5⟩
    · go_wp2_with (go_at_call 42; fail)
      refine (Check_calls _ x (by have := HX40.out; omega)).mono ?_
      rintro e w4 ⟨rfl, q, hw⟩
      have HB4 : Fact (Below w.heap.size w w4) := ⟨by rw [hw]; exact below_drewN' HB.out q⟩
      clear hw
      rw [HX.out]
      go_wp2_with fail
      go_ret
      exact ⟨rfl, HB4.out⟩
end Go.Proofs.Ytjjcjdefenbnjaa.LawDLong
