/- WordsSets: for every input the law answers true; what was in memory before is as it was. -/
import Derived.Test.YtkmcjokoinoahaaDoorWordsF
set_option linter.unusedVariables false
set_option linter.unusedSimpArgs false
namespace Go.Proofs.YtkmcjokoinoahaaDoor.LawWSets
open Go.RowKit Go.Proofs.YtkmcjokoinoahaaDoor.Lib Go.Proofs.YtkmcjokoinoahaaDoor.LibB Go.Proofs.YtkmcjokoinoahaaDoor.PlainS Go.Proofs.YtkmcjokoinoahaaDoor.WordsA Go.Proofs.YtkmcjokoinoahaaDoor.WordsB Go.Proofs.YtkmcjokoinoahaaDoor.PlainW Go.Proofs.YtkmcjokoinoahaaDoor.WordsC Go.Proofs.YtkmcjokoinoahaaDoor.WordsD Go.Proofs.YtkmcjokoinoahaaDoor.WordsE Go.Proofs.YtkmcjokoinoahaaDoor.WordsF Go.Maps
/-- The i-th number. -/
def at_ (l : List UInt64) (i : Nat) : Nat := ((l[i]?).getD 0).toNat
theorem at_lt (l : List UInt64) (i : Nat) : at_ l i < 18446744073709551616 := UInt64.toNat_lt _
def turnI (n t i : Nat) : Nat := (n - 1 - i + t) % n
theorem turn_lt {n t i : Nat} (h : i < n) : turnI n t i < n := Nat.mod_lt _ (by omega)
theorem turn_onto {n t i : Nat} (h : i < n) : ∃ j, j < n ∧ turnI n t j = i := by
  refine ⟨(n - 1 + t - i) % n, Nat.mod_lt _ (by omega), ?_⟩
  unfold turnI
  have h1 : (n - 1 + t - i) % n < n := Nat.mod_lt _ (by omega)
  have h2 := Nat.div_add_mod (n - 1 + t - i) n
  obtain ⟨d, hd⟩ : ∃ d, n * ((n - 1 + t - i) / n) = d := ⟨_, rfl⟩
  have h3 : n - 1 - (n - 1 + t - i) % n + t = i + n * ((n - 1 + t - i) / n) := by
    rw [hd] at h2 ⊢
    omega
  rw [h3, Nat.add_mul_mod_self_left, Nat.mod_eq_of_lt h]
theorem u64_at {w : World} {F : Nat → Prop} {A : Option Addr} {n c : Nat} {l : List UInt64} (h : Sl rU64 w F A n c l) {i : Nat} (hi : i < n) : ∃ ad, A = some ad ∧ F ad.block ∧ w.cell? (ad.add i) = some (.int .u64 (at_ l i : Int)) := by
  have hl := h.len
  obtain ⟨x, hx⟩ : ∃ x, l[i]? = some x := ⟨_, List.getElem?_eq_getElem (by omega)⟩
  obtain ⟨ad, ds, e, hf, hk, hc⟩ := h.at_ hx
  have hk' : ds = [.int .u64 (x.toNat : Int)] := hk
  subst hk'
  have := hc 0 _ rfl
  rw [show i * rU64.sz + 0 = i by show i * 1 + 0 = i; omega] at this
  refine ⟨ad, e, hf, ?_⟩
  unfold at_
  rw [hx]
  exact this
set_option maxHeartbeats 4000000 in
set_option maxRecDepth 100000 in
theorem WordsSets_calls (w : World) (F : Nat → Prop) (A : Option Addr) (n c : Nat) (l : List UInt64) (h : Sl rU64 w F A n c l) (hF : ∀ k, F k → k < w.heap.size) (t : Nat) (ht : t < 256) (hg : LaidB w) (hg2 : 2 < w.heap.size) :
    Calls Tryd.prog 15 #[.slice A n c, .int .u8 (t : Int)] w fun ev w' => ev = .returned (.bool true) ∧ Below w.heap.size w w' := by
  have hnm := Nat.le_trans h.le h.max_
  have H := Fact.mk h
  have HF := Fact.mk hF
  have HG := Fact.mk hg
  have HG2 := Fact.mk hg2
  clear h hF hg
  by_cases hbig : 200 < n
  · go_enter Tryd.func15, Tryd.ntmps15
    go_wp2_with (go_at_call 44; refine (Awake_calls _).mono ?_; rintro e w1 ⟨rfl, hb⟩; have HB1 := Fact.mk hb; clear hb)
    go_ret
    exact ⟨rfl, HB1.out⟩
  go_enter Tryd.func15, Tryd.ntmps15
  go_wp2_with (first
    | (go_at_call 44; refine (Awake_calls _).mono ?_; rintro e w1 ⟨rfl, hb⟩; have HB1 := Fact.mk hb; clear hb)
    | (go_at_call 45; fail))
  refine (New_calls w1).mono ?_
  rintro e w2 ⟨pa, ma, rfl, HPa, HMa, HWa2, hb2⟩
  have HB2 : Fact (Below w.heap.size w w2) := ⟨HB1.out.trans (hb2.mono HB1.out.size)⟩
  have HPMa : Fact (w.heap.size ≤ pa ∧ w.heap.size ≤ ma) := ⟨by have := HPa.out; have := HMa.out; have := HB1.out.size; omega⟩
  clear hb2 HPa HMa
  go_wp2_with (go_at_call 45; fail)
  refine (New_calls w2).mono ?_
  rintro e w3 ⟨pb, mb, rfl, HPb, HMb, HWb3, hb3⟩
  have HB3 : Fact (Below w.heap.size w w3) := ⟨HB2.out.trans (hb3.mono HB2.out.size)⟩
  have HPMb : Fact (w.heap.size ≤ pb ∧ w.heap.size ≤ mb) := ⟨by have := HPb.out; have := HMb.out; have := HB2.out.size; omega⟩
  have HWa3 : Fact (Ws w3 pa ma 0 (.map [])) := ⟨HWa2.out.move (hb3.block _ HWa2.out.lt.1) (hb3.block _ HWa2.out.lt.2)⟩
  have HNE : Fact (pa < pb ∧ pa < mb ∧ ma < pb ∧ ma < mb) := ⟨by have := HWa2.out.lt; have := HPb.out; have := HMb.out; omega⟩
  clear hb3 HPb HMb HWa2
  have hnil : ∀ m, hasB (.map []) m = false := fun m => by unfold hasB; rw [show wd (.map []) ((m - 1) / 64) = 0 from rfl]; simp
  go_wp2_with fail
  go_loopg [21] n (fun kq v21 wr => ∃ (k Na Nb : Nat) (Da Db : DataW Unit), v21 = .int .i64 (k : Int) ∧ Fact (k + kq = n) ∧ Fact (Na ≤ k ∧ Nb ≤ k) ∧ Fact (Ws wr pa ma Na Da) ∧ Fact (WInv Da) ∧ Fact (Ws wr pb mb Nb Db) ∧ Fact (WInv Db) ∧ Fact (∀ m, 1 ≤ m → (hasB Da m = true ↔ ∃ j, j < k ∧ at_ l j = m)) ∧ Fact (∀ m, 1 ≤ m → (hasB Db m = true ↔ ∃ j, j < k ∧ at_ l (turnI n t j) = m)) ∧ Fact (Below w.heap.size w wr))
  case atStart => exact ⟨0, 0, 0, .map [], .map [], rfl, ⟨by omega⟩, ⟨by omega⟩, HWa3, ⟨WInv.empty⟩, HWb3, ⟨WInv.empty⟩, ⟨fun m _ => by rw [hnil]; simp⟩, ⟨fun m _ => by rw [hnil]; simp⟩, HB3⟩
  case round =>
    obtain ⟨k, Na, Nb, Da, Db, rfl, HK, HN, HWA, HIA, HWB, HIB, HMA, HMB, HB⟩ := hrel
    have hkn := HK.out
    by_cases hlt : k < n
    · obtain ⟨ad, rfl, hadF, hc0⟩ := u64_at H.out hlt
      obtain ⟨i2, hi2⟩ : ∃ i2, turnI n t k = i2 := ⟨_, rfl⟩
      have hi2l : i2 < n := by rw [← hi2]; exact turn_lt hlt
      obtain ⟨ad', e', -, hc1⟩ := u64_at H.out hi2l
      obtain rfl := Option.some.inj e'
      have hadl := HF.out _ hadF
      have hx1l := at_lt l k
      have hx2l := at_lt l i2
      obtain ⟨x1, hx1⟩ : ∃ x1, at_ l k = x1 := ⟨_, rfl⟩
      obtain ⟨x2, hx2⟩ : ∃ x2, at_ l i2 = x2 := ⟨_, rfl⟩
      rw [hx1] at hc0 hx1l
      rw [hx2] at hc1 hx2l
      have HX := Fact.mk (And.intro hx1 (And.intro hx2 hi2))
      have c0 : wr.cell? (ad.add k) = some (.int .u64 (x1 : Int)) := (HB.out.cell (p := ad.add k) (by rw [Lib.block_add]; exact hadl)).trans hc0
      have HC1 : Fact (∀ W, Below w.heap.size w W → W.cell? (ad.add i2) = some (.int .u64 (x2 : Int))) := ⟨fun W hW => (hW.cell (p := ad.add i2) (by rw [Lib.block_add]; exact hadl)).trans hc1⟩
      have em : (((n : Int) - 1 - (k : Int)) + (t : Int)).tmod (n : Int) = (i2 : Int) := by
        have hge : ((n : Int) - 1 - (k : Int)) + (t : Int) = ((n - 1 - k + t : Nat) : Int) := by omega
        rw [hge, Int.tmod_eq_emod_of_nonneg (by omega), ← hi2]
        unfold turnI
        simp
      have em2 : (((n : Int) - 1 - (k : Int)) + (t : Int)) % (n : Int) = (i2 : Int) := by rw [← Int.tmod_eq_emod_of_nonneg (by omega)]; exact em
      have hn0 : ((n : Int) == 0) = false := by simp; omega
      have et : IntKind.i64.wrap (t : Int) = (t : Int) := by rw [IntKind.wrap_i64]; omega
      clear hx1 hx2 hi2 hc0 hc1 hadF
      have HPa := Fact.mk (Put_all wr pa ma Na Da x1 HWA.out hx1l (by have := HN.out; omega))
      go_wp2_with (go_at_call 46; fail)
      refine HPa.out.mono ?_
      rintro e w4 ⟨rfl, Na', hNa', HWA4, ht4⟩
      have HB4 : Fact (Below w.heap.size w w4) := ⟨Turned.move ht4 HB.out HPMa.out.2 HB.out.size⟩
      have HWB4 : Fact (Ws w4 pb mb Nb Db) := ⟨HWB.out.move (ht4.block _ HWB.out.lt.1 (by intro e; have := Option.some.inj e; have := HNE.out; omega)) (ht4.block _ HWB.out.lt.2 (by intro e; have := Option.some.inj e; have := HNE.out; omega))⟩
      have HNa := Fact.mk hNa'
      have HIA4 : Fact (WInv (putD Da x1)) := ⟨inv_put HWA.out HIA.out hx1l⟩
      have c1 := HC1.out w4 HB4.out
      clear ht4 hNa' HPa c0
      have HPb := Fact.mk (Put_all w4 pb mb Nb Db x2 HWB4.out hx2l (by have := HN.out; omega))
      go_wp2_with (go_at_call 46; fail)
      refine HPb.out.mono ?_
      rintro e w5 ⟨rfl, Nb', hNb', HWB5, ht5⟩
      have HB5 : Fact (Below w.heap.size w w5) := ⟨Turned.move ht5 HB4.out HPMb.out.2 HB4.out.size⟩
      have HWA5 : Fact (Ws w5 pa ma Na' (putD Da x1)) := ⟨HWA4.out.move (ht5.block _ HWA4.out.lt.1 (by intro e; have := Option.some.inj e; have := HNE.out; omega)) (ht5.block _ HWA4.out.lt.2 (by intro e; have := Option.some.inj e; have := HNE.out; omega))⟩
      have HNb := Fact.mk hNb'
      have HIB5 : Fact (WInv (putD Db x2)) := ⟨inv_put HWB4.out HIB.out hx2l⟩
      clear ht5 hNb' HPb c1
      have HMA5 : Fact (∀ m, 1 ≤ m → (hasB (putD Da x1) m = true ↔ ∃ j, j < k + 1 ∧ at_ l j = m)) := ⟨fun m hm => by
        rw [mem_put HIA.out hm]
        simp only [Bool.or_eq_true, decide_eq_true_eq, HMA.out m hm]
        constructor
        · rintro (rfl | ⟨j, hj, e⟩)
          · exact ⟨k, by omega, HX.out.1⟩
          · exact ⟨j, by omega, e⟩
        · rintro ⟨j, hj, e⟩
          rcases Nat.lt_or_ge j k with h1 | h1
          · exact .inr ⟨j, h1, e⟩
          · obtain rfl : j = k := by omega
            exact .inl (e.symm.trans HX.out.1)⟩
      have HMB5 : Fact (∀ m, 1 ≤ m → (hasB (putD Db x2) m = true ↔ ∃ j, j < k + 1 ∧ at_ l (turnI n t j) = m)) := ⟨fun m hm => by
        rw [mem_put HIB.out hm]
        simp only [Bool.or_eq_true, decide_eq_true_eq, HMB.out m hm]
        constructor
        · rintro (rfl | ⟨j, hj, e⟩)
          · exact ⟨k, by omega, by rw [HX.out.2.2]; exact HX.out.2.1⟩
          · exact ⟨j, by omega, e⟩
        · rintro ⟨j, hj, e⟩
          rcases Nat.lt_or_ge j k with h1 | h1
          · exact .inr ⟨j, h1, e⟩
          · obtain rfl : j = k := by omega
            rw [HX.out.2.2] at e
            exact .inl (e.symm.trans HX.out.2.1)⟩
      go_wp2_with fail
      go_roundg (n - (k + 1))
      case measure => omega
      case rel => exact ⟨k + 1, Na', Nb', putD Da x1, putD Db x2, by go_num, ⟨by omega⟩, ⟨by have := HN.out; have := HNa.out; have := HNb.out; omega⟩, HWA5, HIA4, HWB5, HIB5, HMA5, HMB5, HB5⟩
    · obtain rfl : k = n := by omega
      have HLIKE : Fact (∀ m, 1 ≤ m → m < 18446744073709551616 → (hasB Da m = true ↔ hasB Db m = true)) := ⟨fun m hm _ => by
        rw [HMA.out m hm, HMB.out m hm]
        constructor
        · rintro ⟨j, hj, e⟩
          obtain ⟨j', hj', e'⟩ := turn_onto (t := t) hj
          exact ⟨j', hj', by rw [e']; exact e⟩
        · rintro ⟨j, hj, e⟩
          exact ⟨turnI k t j, turn_lt hj, e⟩⟩
      have HAL := Fact.mk (all_like HWA.out HIA.out HWB.out HIB.out HLIKE.out)
      have hsa := HWA.out.own.size_le
      have hsb := HWB.out.own.size_le
      have hn2 := HN.out
      have HGw : Fact (LaidB wr) := ⟨HG.out.below HB.out HG2.out⟩
      have HGl : Fact (2 < wr.heap.size) := ⟨Nat.lt_of_lt_of_le HG2.out HB.out.size⟩
      go_wp2_with (go_at_call 48; fail)
      refine (All_calls wr pa ma Na Da HWA.out HIA.out HGw.out HGl.out (by omega)).mono ?_
      rintro e w7 ⟨⟨A7, c7, rfl, hs7⟩, hb7⟩
      have HWA7 : Fact (Ws w7 pa ma Na Da) := ⟨HWA.out.move (hb7.block _ HWA.out.lt.1) (hb7.block _ HWA.out.lt.2)⟩
      have HWB7 : Fact (Ws w7 pb mb Nb Db) := ⟨HWB.out.move (hb7.block _ HWB.out.lt.1) (hb7.block _ HWB.out.lt.2)⟩
      have HB7 : Fact (Below w.heap.size w w7) := ⟨HB.out.trans (hb7.mono HB.out.size)⟩
      have HS7 := hs7
      clear hb7 hs7
      go_wp2_with (go_at_call 48; fail)
      refine (All_calls w7 pb mb Nb Db HWB7.out HIB.out (HG.out.below HB7.out HG2.out) (Nat.lt_of_lt_of_le HG2.out HB7.out.size) (by omega)).mono ?_
      rintro e w8 ⟨⟨A8, c8, rfl, hs8⟩, hb8⟩
      rw [← HAL.out.1] at hs8 ⊢
      have HWA8 : Fact (Ws w8 pa ma Na Da) := ⟨HWA7.out.move (hb8.block _ HWA7.out.lt.1) (hb8.block _ HWA7.out.lt.2)⟩
      have HWB8 : Fact (Ws w8 pb mb Nb Db) := ⟨HWB7.out.move (hb8.block _ HWB7.out.lt.1) (hb8.block _ HWB7.out.lt.2)⟩
      have HB8 : Fact (Below w.heap.size w w8) := ⟨HB7.out.trans (hb8.mono HB7.out.size)⟩
      have HS8 := hs8
      have HS78 : Fact (Sl rNat w8 (fun k => wr.heap.size ≤ k ∧ k < w7.heap.size) A7 (allL Da).length c7 (allL Da)) := ⟨HS7.out.move (fun k hk => hb8.block k hk.2)⟩
      clear hb8 hs8 HS7
      have HSRT := Fact.mk (allL_sorted HWA.out)
      have HMEM : Fact (∀ m ∈ allL Da, m < 18446744073709551616 ∧ memB Da m = true) := ⟨fun m hm => by
        obtain ⟨h1, h2, h3⟩ := (mem_allL HWA.out HIA.out m).1 hm
        exact ⟨h2, by unfold memB; rw [h3]; simp; exact h1⟩⟩
      obtain ⟨q, hq⟩ : ∃ q, (allL Da).length = q := ⟨_, rfl⟩
      rw [hq] at HS78 HS8 ⊢
      have HQ := Fact.mk hq
      have hqm := Nat.le_trans HS78.out.le HS78.out.max_
      clear hq
      go_wp2_with fail
      go_loopg [53] q (fun kq v53 wx => ∃ i : Nat, v53 = .int .i64 (i : Int) ∧ Fact (i + kq = q) ∧ Fact (∃ j, wx = w8.drewN j))
      case atStart => exact ⟨0, rfl, ⟨by omega⟩, ⟨0, rfl⟩⟩
      case round =>
        obtain ⟨i, rfl, HI, HJ⟩ := hrel
        have hiq := HI.out
        obtain ⟨j, hj⟩ := HJ.out
        have HJJ := Fact.mk hj
        have HBx : Fact (Below w.heap.size w wr) := ⟨by rw [HJJ.out]; exact below_drewN' HB8.out j⟩
        have HWAx : Fact (Ws wr pa ma Na Da) := ⟨HWA8.out.quiet HJ.out⟩
        have HWBx : Fact (Ws wr pb mb Nb Db) := ⟨HWB8.out.quiet HJ.out⟩
        by_cases hlt : i < q
        · obtain ⟨x, hx⟩ : ∃ x, (allL Da)[i]? = some x := ⟨_, List.getElem?_eq_getElem (by rw [HQ.out]; exact hlt)⟩
          obtain ⟨xl, xm⟩ := HMEM.out x (List.mem_of_getElem? hx)
          obtain ⟨ad, rfl, hadF, hc0⟩ := num_at HS78.out hx
          have c0 : wr.cell? (ad.add i) = some (.int .u64 (x : Int)) := by rw [HJJ.out]; exact hc0
          have HHAS := Fact.mk (Has_all wr pa ma Na Da x HWAx.out xl)
          rw [xm] at HHAS
          rcases Nat.eq_zero_or_pos i with hi0 | hi0
          · subst hi0
            have c0z : wr.cell? ad = some (.int .u64 (x : Int)) := by rw [add_zero'] at c0; exact c0
            clear hx hc0 hadF hj xm c0
            go_wp2_with (go_at_call 50; fail)
            refine HHAS.out.mono ?_
            rintro e w9 ⟨rfl, hq9⟩
            have HJ9 : Fact (∃ j, w9 = w8.drewN j) := ⟨by obtain ⟨a, rfl⟩ := hq9; exact ⟨j + a, by rw [HJJ.out, World.drewN_drewN]⟩⟩
            clear hq9
            go_wp2_with fail
            go_roundg (q - 1)
            case measure => omega
            case rel => exact ⟨1, rfl, ⟨by omega⟩, HJ9⟩
          · obtain ⟨y, hy⟩ : ∃ y, (allL Da)[i - 1]? = some y := ⟨_, List.getElem?_eq_getElem (by rw [HQ.out]; omega)⟩
            obtain ⟨ad', e', -, hc1⟩ := num_at HS78.out hy
            obtain rfl := Option.some.inj e'
            have c1 : wr.cell? (ad.add (i - 1)) = some (.int .u64 (y : Int)) := by rw [HJJ.out]; exact hc1
            have hyx : y < x := by
              have h1 := List.pairwise_iff_getElem.1 HSRT.out (i - 1) i (by rw [HQ.out]; omega) (by rw [HQ.out]; omega) (by omega)
              rw [List.getElem?_eq_getElem (by rw [HQ.out]; omega)] at hx hy
              rw [Option.some.inj hx, Option.some.inj hy] at h1
              exact h1
            have ig : (i : Int) > 0 := by omega
            have g1 : ¬ ((y : Int) ≥ (x : Int)) := by omega
            have g2 : decide ((x : Int) ≤ (y : Int)) = false := decide_eq_false (by omega)
            have g3 : decide (x ≤ y) = false := decide_eq_false (by omega)
            have ei : (i : Int) - 1 = ((i - 1 : Nat) : Int) := by omega
            clear hx hc0 hc1 hy hadF hj xm
            go_wp2_with (go_at_call 50; fail)
            refine HHAS.out.mono ?_
            rintro e w9 ⟨rfl, hq9⟩
            have HJ9 : Fact (∃ j, w9 = w8.drewN j) := ⟨by obtain ⟨a, rfl⟩ := hq9; exact ⟨j + a, by rw [HJJ.out, World.drewN_drewN]⟩⟩
            clear hq9
            go_wp2_with fail
            go_roundg (q - (i + 1))
            case measure => omega
            case rel => exact ⟨i + 1, by go_num, ⟨by omega⟩, HJ9⟩
        · have HSM := Fact.mk (Same_calls wr _ _ A7 A8 q c7 c8 (allL Da) (HS78.out.move (fun k _ => by rw [HJJ.out]; rfl)) (HS8.out.move (fun k _ => by rw [HJJ.out]; rfl)))
          obtain ⟨s, hs⟩ : ∃ s, Maps.size Da = s := ⟨_, rfl⟩
          have HSA := Fact.mk hs
          have HSB : Fact (Maps.size Db = s) := ⟨HAL.out.2.symm.trans hs⟩
          clear hs hj
          go_wp2_with (go_at_call 51; fail)
          refine HSM.out.mono ?_
          rintro e w10 ⟨rfl, hq10⟩
          have HWA10 : Fact (Ws w10 pa ma Na Da) := ⟨HWAx.out.quiet hq10⟩
          have HWB10 : Fact (Ws w10 pb mb Nb Db) := ⟨HWBx.out.quiet hq10⟩
          have HB10 : Fact (Below w.heap.size w w10) := ⟨by obtain ⟨j, rfl⟩ := hq10; exact below_drewN' HBx.out j⟩
          clear hq10
          go_wp2_with (go_at_call 49; fail)
          refine (Len_calls' w10 pa ma Na Da s HWA10.out HSA.out).mono ?_
          rintro e w11 ⟨rfl, hq11⟩
          have HWB11 : Fact (Ws w11 pb mb Nb Db) := ⟨HWB10.out.quiet hq11⟩
          have HB11 : Fact (Below w.heap.size w w11) := ⟨by obtain ⟨j, rfl⟩ := hq11; exact below_drewN' HB10.out j⟩
          clear hq11
          go_wp2_with (go_at_call 49; fail)
          refine (Len_calls' w11 pb mb Nb Db s HWB11.out HSB.out).mono ?_
          rintro e w12 ⟨rfl, hq12⟩
          have HB12 : Fact (Below w.heap.size w w12) := ⟨by obtain ⟨j, rfl⟩ := hq12; exact below_drewN' HB11.out j⟩
          clear hq12
          go_wp2_with fail
          go_ret
          exact ⟨rfl, HB12.out⟩
end Go.Proofs.YtkmcjokoinoahaaDoor.LawWSets
