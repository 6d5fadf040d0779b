/- WordsPlace: for every number the law answers true. -/
import Derived.Test.YtjjcjdefenbnjaaWordsB
set_option linter.unusedVariables false
set_option linter.unusedSimpArgs false
namespace Go.Proofs.Ytjjcjdefenbnjaa.LawPlace
open Go.RowKit Go.Proofs.Ytjjcjdefenbnjaa.Lib Go.Proofs.Ytjjcjdefenbnjaa.Reg Go.Proofs.Ytjjcjdefenbnjaa.RegB Go.Proofs.Ytjjcjdefenbnjaa.WordsA Go.Proofs.Ytjjcjdefenbnjaa.WordsB Go.Maps
abbrev E0 : DataW Unit := .map []
theorem has_none (n : Nat) : hasB E0 n = false := by
  have : wd E0 ((n - 1) / 64) = 0 := rfl
  unfold hasB
  rw [this]
  simp
theorem wd_one (k p : Nat) : wd (E0.put (.int .u64 (k : Int)) (.lit (.int .u64 (p : Int)))) k = p := by
  unfold wd
  rw [Maps.atKey_put_same isMap_empty (by simp [WideAt.IsKeyLit])]
  simp
theorem clr_same {b : Nat} (hb : b < 64) : clr (2 ^ b) b = 0 := by
  unfold clr
  apply Nat.eq_of_testBit_eq
  intro j
  have hp : (2 : Nat) ^ b < 2 ^ 64 := Nat.pow_lt_pow_right (by omega) hb
  rw [Nat.testBit_and, Nat.testBit_two_pow, show 18446744073709551615 - 2 ^ b = 2 ^ 64 - (2 ^ b + 1) by omega, Nat.testBit_two_pow_sub_succ hp, Nat.testBit_two_pow]
  by_cases h : b = j <;> simp [h]
theorem size_cut (k p : Nat) : Maps.size (cutD (E0.put (.int .u64 (k : Int)) (.lit (.int .u64 (p : Int)))) k 0) = 0 := by
  unfold cutD
  rw [if_pos rfl]
  simp [DataW.put, DataW.del, DataW.insert, Lit.sameKey, Maps.size, E0]
set_option maxHeartbeats 1000000 in
set_option maxRecDepth 100000 in
theorem WordsPlace_calls (w : World) (ni : Int) (h0 : 0 ≤ ni) (h1 : ni ≤ 18446744073709551615) : Calls Try.prog 6 #[.int .u64 ni] w fun e w' => e = .returned (.bool true) ∧ Below w.heap.size w w' := by
  by_cases hz : ni = 0
  · subst hz
    go_enter Try.func6, Try.ntmps6
    go_wp2_with (first
      | (go_at_call 26; refine (Awake_calls _).mono ?_; rintro e w1 ⟨rfl, hb⟩; have HB1 := Fact.mk hb; clear hb)
      | (go_at_call 27; refine (Place_zero _).mono ?_; rintro e w2 ⟨rfl, rfl⟩))
    go_ret
    exact ⟨rfl, HB1.out⟩
  · obtain ⟨n, rfl⟩ : ∃ n : Nat, ni = (n : Int) := ⟨ni.toNat, by omega⟩
    obtain ⟨k, hk⟩ : ∃ k, (n - 1) / 64 = k := ⟨_, rfl⟩
    obtain ⟨b, hb⟩ : ∃ b, (n - 1) % 64 = b := ⟨_, rfl⟩
    have hbl : b < 64 := by omega
    have hkl : k < 18446744073709551616 := by omega
    have hn : 1 ≤ n := by omega
    have hnz : ((n : Int) == 0) = false := by simp; omega
    go_enter Try.func6, Try.ntmps6
    go_wp2_with (first
      | (go_at_call 26; refine (Awake_calls _).mono ?_; rintro e w1 ⟨rfl, hb⟩; have HB1 := Fact.mk hb; clear hb)
      | (go_at_call 27; refine (Place_calls' _ n k b hn (by omega) hk hb).mono ?_; rintro e w2 ⟨rfl, rfl⟩)
      | (go_at_call 28; refine (New_calls _).mono ?_; rintro e w3 ⟨pb, mb, rfl, HP, HM, HW1, hb⟩; have HB3 : Fact (Below w.heap.size w w3) := ⟨HB1.out.trans (hb.mono HB1.out.size)⟩; have HMM : Fact (w.heap.size ≤ mb) := ⟨Nat.le_trans HB1.out.size HM.out⟩; clear hb))
    have hb0 : (0 : Int) ≤ b := by omega
    have hb1 : (b : Int) < 64 := by omega
    have hmin : min b 64 = b := by omega
    have hd0 : decide ((0 : Int) ≤ b) = true := by simp
    have hd1 : decide ((b : Int) < 64) = true := by simp; omega
    obtain ⟨p, hp⟩ : ∃ p : Nat, 2 ^ b = p := ⟨_, rfl⟩
    have hpl : p < 18446744073709551616 := by have h2 : (2 : Nat) ^ b < 2 ^ 64 := Nat.pow_lt_pow_right (by omega) hbl; omega
    have hwp : IntKind.u64.wrap (2 ^ b) = (p : Int) := by
      rw [show (2 : Int) ^ b = ((2 ^ b : Nat) : Int) by simp, hp, IntKind.wrap_u64]
      omega
    have hk1 : IntKind.u64.wrap (64 * (k : Int)) = 64 * (k : Int) := by rw [IntKind.wrap_u64]; omega
    have hk2 : IntKind.u64.wrap (b : Int) = (b : Int) := by rw [IntKind.wrap_u64]; omega
    have hk3 : IntKind.u64.wrap (64 * (k : Int) + (b : Int)) = 64 * (k : Int) + (b : Int) := by rw [IntKind.wrap_u64]; omega
    have hk4 : IntKind.u64.wrap ((n : Int) - 1) = 64 * (k : Int) + (b : Int) := by rw [IntKind.wrap_u64]; omega
    refine wp_region_S (fun _ => True) [(0, true), (1, true), (2, false), (3, true), (4, true), (5, true), (7, true), (8, true), (6, false), (9, true), (10, true), (11, true), (12, true), (13, true), (14, true), (15, true), (16, true), (17, true), (18, true), (19, true), (20, true), (21, true), (22, true), (23, true), (24, true), (25, true), (26, true), (27, true), (28, true), (29, true), (30, true), (31, true), (32, false), (33, true), (34, true), (35, true), (36, false), (37, true), (38, true), (39, true)] (by kernel_rfl) (by kernel_rfl) (by kernel_rfl) rfl rfl (by intro c a d v w h; cases d <;> exact h) trivial ?_
    simp only [pick, List.filterMap_cons, List.filterMap_nil, Option.map_some, List.getElem?_toArray, List.getElem?_cons_zero, List.getElem?_cons_succ]
    have HWd : Fact (Ws w3.drew pb mb 0 E0) := ⟨HW1.out.move rfl rfl⟩
    have HBd : Fact (Below w.heap.size w w3.drew) := ⟨HB3.out.drew⟩
    generalize w3.drew = wd0 at HWd HBd ⊢
    iterate 2
      (first | apply seq_tell rfl | apply seq_tellG rfl
       · intro w' hS
         go_simp
         first | done | rfl
       simp only [Act.put, List.setIfInBounds_toArray, List.set_cons_succ, List.set_cons_zero])
    refine seq_callG (f := 29) (args := #[.pointer (some ⟨pb, 0, none⟩), .int .u64 (n : Int)]) rfl rfl Try.func29 (by kernel_rfl) rfl (by simp only [List.map_toArray, List.map_cons, List.map_nil]; rfl) ?_
    refine (Put_new _ pb mb 0 E0 n HWd.out hn (by omega) (by omega) (has_none n)).mono ?_
    rintro e w4 ⟨rfl, HW4, ht⟩
    have HB4 : Fact (Below w.heap.size w w4) := ⟨HBd.out.trans (ht _ HMM.out HBd.out.size)⟩
    rw [hk, hb, show wd E0 k = 0 from rfl, Nat.zero_or, hp] at HW4
    clear ht
    refine ⟨_, rfl, trivial, ?_⟩
    simp only [Act.put, List.setIfInBounds_toArray, List.set_cons_succ, List.set_cons_zero]
    iterate 5
      (first | apply seq_tell rfl | apply seq_tellG rfl
       · intro w' hS
         go_simp
         first | done | rfl
       simp only [Act.put, List.setIfInBounds_toArray, List.set_cons_succ, List.set_cons_zero])
    refine seq_callG (f := 30) (args := #[.pointer (some ⟨pb, 0, none⟩), .int .u64 (k : Int)]) rfl rfl Try.func30 (by kernel_rfl) rfl (by simp only [List.map_toArray, List.map_cons, List.map_nil]; rfl) ?_
    refine (Word_calls' _ pb mb 1 _ k p HW4.out hkl (wd_one k p)).mono ?_
    rintro e w5 ⟨rfl, hw⟩
    have HW5 := Fact.mk (HW4.out.quiet hw)
    have HB5 : Fact (Below w.heap.size w w5) := ⟨by obtain ⟨q, rfl⟩ := hw; exact below_drewN' HB4.out q⟩
    clear hw
    refine ⟨_, rfl, trivial, ?_⟩
    simp only [Act.put, List.setIfInBounds_toArray, List.set_cons_succ, List.set_cons_zero]
    iterate 23
      (first | apply seq_tell rfl | apply seq_tellG rfl
       · intro w' hS
         go_simp
         first | done | rfl
       simp only [Act.put, List.setIfInBounds_toArray, List.set_cons_succ, List.set_cons_zero])
    refine seq_callG (f := 31) (args := #[.pointer (some ⟨pb, 0, none⟩), .int .u64 (n : Int)]) rfl rfl Try.func31 (by kernel_rfl) rfl (by simp only [List.map_toArray, List.map_cons, List.map_nil]; rfl) ?_
    refine (Cut_has _ pb mb 1 _ n HW5.out hn (by omega) (by omega) (by unfold hasB; rw [hk, hb, wd_one, ← hp, Nat.testBit_two_pow]; simp)).mono ?_
    rintro e w6 ⟨rfl, HW6, ht⟩
    have HB6 : Fact (Below w.heap.size w w6) := ⟨HB5.out.trans (ht _ HMM.out HB5.out.size)⟩
    rw [hk, hb, wd_one, show clr p b = 0 by rw [← hp]; exact clr_same hbl] at HW6
    clear ht
    refine ⟨_, rfl, trivial, ?_⟩
    simp only [Act.put, List.setIfInBounds_toArray, List.set_cons_succ, List.set_cons_zero]
    iterate 3
      (first | apply seq_tell rfl | apply seq_tellG rfl
       · intro w' hS
         go_simp
         first | done | rfl
       simp only [Act.put, List.setIfInBounds_toArray, List.set_cons_succ, List.set_cons_zero])
    refine seq_callG (f := 32) (args := #[.pointer (some ⟨pb, 0, none⟩)]) rfl rfl Try.func32 (by kernel_rfl) rfl (by simp only [List.map_toArray, List.map_cons, List.map_nil]; rfl) ?_
    refine (Len_calls' _ pb mb 2 _ 0 HW6.out (size_cut k p)).mono ?_
    rintro e w7 ⟨rfl, hw⟩
    have HB7 : Fact (Below w.heap.size w w7) := ⟨by obtain ⟨q, rfl⟩ := hw; exact below_drewN' HB6.out q⟩
    clear hw
    refine ⟨_, rfl, trivial, ?_⟩
    simp only [Act.put, List.setIfInBounds_toArray, List.set_cons_succ, List.set_cons_zero]
    iterate 3
      (first | apply seq_tell rfl | apply seq_tellG rfl
       · intro w' hS
         go_simp
         first | done | rfl
       simp only [Act.put, List.setIfInBounds_toArray, List.set_cons_succ, List.set_cons_zero])
    show Exit.then _ _ _ _ _
    go_wp2_with fail
    go_ret
    exact ⟨rfl, HB7.out⟩
end Go.Proofs.Ytjjcjdefenbnjaa.LawPlace
