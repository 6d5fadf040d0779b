/- slices.pdqsortOrdered, slices.Sort at uint64: the library's own text computes 'pdq', 'sort'. -/
import Derived.Test.YtkmcjokoinoahaaDoorSortI
import Derived.Sort.Walk13a
import Derived.Sort.AssemblyPlain
import Derived.Deep.Cut
set_option linter.unusedVariables false
set_option linter.unusedSimpArgs false
namespace Go.Proofs.YtkmcjokoinoahaaDoor.SortJ
open Go.RowKit Go.Proofs.YtkmcjokoinoahaaDoor.Lib Go.Proofs.YtkmcjokoinoahaaDoor.SortA Go.Proofs.YtkmcjokoinoahaaDoor.SortB Go.Proofs.YtkmcjokoinoahaaDoor.SortC Go.Proofs.YtkmcjokoinoahaaDoor.SortD Go.Proofs.YtkmcjokoinoahaaDoor.SortE Go.Proofs.YtkmcjokoinoahaaDoor.SortF Go.Proofs.YtkmcjokoinoahaaDoor.SortG Go.Proofs.YtkmcjokoinoahaaDoor.SortH Go.Proofs.YtkmcjokoinoahaaDoor.SortI
open Go.Sort (swp size_swp bitsLen bitsLen_le_iff insertionSort heapSort breakPatterns choosePivot reverseRange partialInsertionSort partitionEqual partition pdq Hint rd rd_facts rd_dec rd_not rd_pi_yes rd_pi_no rd_lim_le pdq_small pdq_heap pdq_done pdq_eq pdq_left pdq_right round_eq round_part SWO)
theorem swoN : SWO ltN where
  irrefl x := by simp [ltN]
  trans x y z h1 h2 := by simp only [ltN, decide_eq_true_eq] at *; omega
  ntrans x y z h1 h2 := by simp only [ltN, decide_eq_false_iff_not] at *; omega
theorem hintC_two {h : Hint} (e : hintC h = 2) : h = .decreasing := by cases h <;> simp [hintC] at e ⊢
theorem eighth {x y p q : Nat} (h1 : q ≤ p) (h2 : y ≤ x) : decide (((x : Int) - (y : Int)) / 8 ≤ (p : Int) - (q : Int)) = decide (p - q ≥ (x - y) / 8) :=
  decide_eq_decide.2 ⟨fun h => by omega, fun h => by omega⟩
/-- The array now, and what has grown. -/
def At (w : World) (g off N : Nat) (d : Array Nat) (wr : World) : Prop := Arr wr g off d N ∧ w.grownBy wr (some g)
theorem At.step {w : World} {g off N : Nat} {d d' : Array Nat} {wr w1 : World} (h : At w g off N d wr) (h1 : Arr w1 g off d' N) (h2 : wr.grownBy w1 (some g)) : At w g off N d' w1 := ⟨h1, grown_trans h.2 h2⟩
theorem At.same {w : World} {g off N : Nat} {d : Array Nat} {wr w1 : World} (h : At w g off N d wr) (h2 : Go.RowKit.Below wr.heap.size wr w1) : At w g off N d w1 :=
  ⟨h.1.move (h2.block g h.1.lt), grown_trans h.2 ⟨h2.os, h2.tape, h2.output, h2.size, fun k hk _ => h2.block k hk⟩⟩
theorem At.ahead {w : World} {g off N : Nat} {d : Array Nat} {wr : World} (h : At w g off N d wr) (q : Nat) : At w g off N d (wr.drewN q) := ⟨h.1.drewN q, grown_drewN h.2 q⟩
set_option maxHeartbeats 6400000 in
set_option maxRecDepth 1000000 in
theorem Pdq_calls : ∀ (M : Nat) (w : World) (g off n cap a b limit N : Nat) (d : Array Nat), b - a < M → Arr w g off d N → d.size = n → a ≤ b → b ≤ n → n < 1152921504606846976 → limit < 4611686018427387904 → Go.Sort.Below ltN a b d →
    Calls Tryd.prog 95 #[.slice (some ⟨g, off, none⟩) n cap, .int .i64 (a : Int), .int .i64 (b : Int), .int .i64 (limit : Int)] w fun e w' => e = .returned (.tuple #[]) ∧ At w g off N (pdq ltN d a b limit true true) w' := by
  intro M
  induction M with
  | zero => intro _ _ _ _ _ _ _ _ _ _ h; exact absurd h (Nat.not_lt_zero _)
  | succ M ih =>
    intro w g off n cap a b limit N d hN hA hn hab hb hsz hlimit hBel0
    have HA := Fact.mk hA
    have HNN := Fact.mk hn
    clear hA hn
    go_enter Tryd.func95, Tryd.ntmps95
    go_wp2
    go_loopg [1, 2, 3, 8, 9] (b - a) (fun k s1 s2 s3 s8 s9 wr => ∃ (a' b' lim : Nat) (wb wp : Bool) (dk : Array Nat), s1 = .int .i64 (a' : Int) ∧ s2 = .int .i64 (b' : Int) ∧ s3 = .int .i64 (lim : Int) ∧ s8 = .bool wb ∧ s9 = .bool wp ∧
      Fact (a' ≤ b') ∧ Fact (b' ≤ n) ∧ Fact (b' - a' ≤ k) ∧ Fact (k ≤ b - a) ∧ Fact (lim ≤ limit) ∧ Fact (dk.size = n) ∧ Fact (Go.Sort.Below ltN a' b' dk) ∧ Fact (At w g off N dk wr) ∧ Fact (pdq ltN dk a' b' lim wb wp = pdq ltN d a b limit true true))
    case atStart => exact ⟨a, b, limit, true, true, d, rfl, rfl, rfl, rfl, rfl, ⟨hab⟩, ⟨hb⟩, ⟨Nat.le_refl _⟩, ⟨Nat.le_refl _⟩, ⟨Nat.le_refl _⟩, HNN, ⟨hBel0⟩, ⟨HA.out, grown_refl _ _⟩, ⟨rfl⟩⟩
    case round =>
      obtain ⟨a', b', lim, wb, wp, dk, rfl, rfl, rfl, rfl, rfl, HAB, HBN, HK, HKN, HLIM, HDS, HBEL, HAT, HEQ⟩ := hrel
      have hab' := HAB.out
      have hb' := HBN.out
      have hk := HK.out
      have hkN := HKN.out
      have hlim := HLIM.out
      by_cases h12 : b' - a' ≤ 12
      · have h12z : (b' : Int) - (a' : Int) ≤ 12 := by omega
        have HC := Fact.mk (Ins_calls wr g off cap a' b' N dk HAT.out.1 hab' (by rw [HDS.out]; exact hb') (by rw [HDS.out]; omega))
        rw [HDS.out] at HC
        go_wp2_with (go_at_call 100; refine HC.out.mono ?_; rintro e w1 ⟨rfl, h1, h2⟩)
        (try simp only [Exit.inBlock, Exit.then]); refine bodyPost_ret (results_none rfl _ _ _) rfl ?_
        refine ⟨rfl, ?_⟩
        rw [← HEQ.out, pdq_small h12]
        exact HAT.out.step h1.out h2.out
      · have h12z : ¬ ((b' : Int) - (a' : Int) ≤ 12) := by omega
        by_cases hl0 : lim = 0
        · subst hl0
          have HC := Fact.mk (Heap_calls wr g off cap a' b' N dk HAT.out.1 hab' (by rw [HDS.out]; exact hb') (by rw [HDS.out]; omega))
          rw [HDS.out] at HC
          go_wp2_with (go_at_call 101; refine HC.out.mono ?_; rintro e w1 ⟨rfl, h1, h2⟩)
          (try simp only [Exit.inBlock, Exit.then]); refine bodyPost_ret (results_none rfl _ _ _) rfl ?_
          refine ⟨rfl, ?_⟩
          rw [← HEQ.out, pdq_heap h12 rfl]
          exact HAT.out.step h1.out h2.out
        · have hl0z : ¬ ((lim : Int) = 0) := by omega
          obtain ⟨s1, B1, hc1, s2, B2, hpv, s3, B3⟩ := rd_facts (limit := lim) (wb := wb) (wp := wp) swoN Go.Sort.partialInsertionSort_holds Go.Sort.reverseRange_holds (show a' < b' by omega) (show b' ≤ dk.size by rw [HDS.out]; exact hb') HBEL.out
          have S1 : Fact ((rd ltN dk a' b' lim wb wp).d1.size = n) := ⟨s1.trans HDS.out⟩
          have S2 : Fact ((rd ltN dk a' b' lim wb wp).d2.size = n) := ⟨s2.trans HDS.out⟩
          have S3 : Fact ((rd ltN dk a' b' lim wb wp).pi.1.size = n) := ⟨s3.trans HDS.out⟩
          have BB1 := Fact.mk B1
          have BB2 := Fact.mk B2
          have BB3 := Fact.mk B3
          clear s1 s2 s3 B1 B2 B3
          go_upto_if 35 with fail
          go_cut [3] from 19 (fun s3 wc => s3 = .int .i64 ((rd ltN dk a' b' lim wb wp).lim : Int) ∧ Fact (At w g off N (rd ltN dk a' b' lim wb wp).d1 wc))
          case first =>
            cases wb
            · have HC := Fact.mk (Break_calls wr g off n cap a' b' N dk HAT.out.1 HDS.out hab' hb' (by omega))
              go_wp2_with (go_at_call 102; refine HC.out.mono ?_; rintro e w1 ⟨rfl, h1, h2⟩)
              go_meet
              case rel =>
                refine ⟨?_, ⟨HAT.out.step h1.out h2.out⟩⟩
                show Value.int .i64 ((lim : Int) - 1) = Value.int .i64 ((lim - 1 : Nat) : Int)
                congr 1
                omega
            · go_wp2_with fail
              go_meet
              case rel => exact ⟨rfl, HAT⟩
          case rest =>
            obtain ⟨rfl, HAT1⟩ := hcut
            have HC := Fact.mk (Choose_calls wc g off n cap a' b' N (rd ltN dk a' b' lim wb wp).d1 HAT1.out.1 S1.out (by omega) hb' (by omega))
            have hc17 : Fact (Calls Tryd.prog 103 #[.slice (some ⟨g, off, none⟩) n cap, .int .i64 (a' : Int), .int .i64 (b' : Int)] wc fun e w' => e = .returned (.tuple #[.int .i64 ((rd ltN dk a' b' lim wb wp).c.1 : Int), .int .i64 (hintC (rd ltN dk a' b' lim wb wp).c.2)]) ∧ Go.RowKit.Below wc.heap.size wc w') := ⟨HC.out⟩
            clear HC
            go_upto_if 50 with (go_at_call 103; refine hc17.out.mono ?_; rintro e w2 ⟨rfl, hw2⟩)
            have HAT2 : Fact (At w g off N (rd ltN dk a' b' lim wb wp).d1 w2) := ⟨HAT1.out.same hw2⟩
            clear hw2
            go_cut [11, 12] from 19 (fun s11 s12 wc => s11 = .int .i64 ((rd ltN dk a' b' lim wb wp).pivot : Int) ∧ s12 = .int .i64 (hintC (rd ltN dk a' b' lim wb wp).hint) ∧ Fact (At w g off N (rd ltN dk a' b' lim wb wp).d2 wc))
            case first =>
              by_cases hh : (rd ltN dk a' b' lim wb wp).c.2 = .decreasing
              · have hcode : hintC (rd ltN dk a' b' lim wb wp).c.2 = 2 := by rw [hh]; rfl
                obtain ⟨e2, epv, eht⟩ := rd_dec hh
                have HC := Fact.mk (Rev_calls w2 g off cap a' b' N (rd ltN dk a' b' lim wb wp).d1 HAT2.out.1 (by omega) (by rw [S1.out]; exact hb') (by rw [S1.out]; omega))
                rw [S1.out] at HC
                go_wp2_with (go_at_call 104; refine HC.out.mono ?_; rintro e w3 ⟨rfl, h1, h2⟩)
                go_meet
                case rel =>
                  refine ⟨?_, by rw [eht]; rfl, ⟨by rw [e2]; exact HAT2.out.step h1.out h2.out⟩⟩
                  rw [epv]
                  congr 1
                  omega
              · have hcode : ¬ (hintC (rd ltN dk a' b' lim wb wp).c.2 = 2) := fun h => hh (hintC_two h)
                obtain ⟨e2, epv, eht⟩ := rd_not hh
                go_wp2_with fail
                go_meet
                case rel => exact ⟨by rw [epv], by rw [eht], ⟨by rw [e2]; exact HAT2.out⟩⟩
            case rest =>
              obtain ⟨rfl, rfl, HAT3⟩ := hcut
              go_upto_region 15 with fail
              go_cut [12, 68] from 19 (fun s12 s68 wx => s12 = .int .i64 (hintC (rd ltN dk a' b' lim wb wp).hint) ∧ s68 = .bool (wb && wp && decide ((rd ltN dk a' b' lim wb wp).hint = .increasing)) ∧ wx = wc)
              case first =>
                cases wb <;> cases wp <;> cases hh3 : (rd ltN dk a' b' lim _ _).hint <;>
                  (have hcode3 := congrArg hintC hh3
                   simp only [hintC] at hcode3
                   go_wp2_with fail
                   go_meet
                   exact ⟨by simp [hh3, hintC], by simp [hh3, hintC], rfl⟩)
              case rest =>
                obtain ⟨rfl, rfl, rfl⟩ := hcut
                go_upto_if 68 with fail
                go_cut [] from 19 (fun wx => Fact ((rd ltN dk a' b' lim wb wp).pi.2 = false) ∧ Fact (At w g off N (rd ltN dk a' b' lim wb wp).pi.1 wx))
                case first =>
                  cases h68 : (wb && wp && decide ((rd ltN dk a' b' lim wb wp).hint = .increasing))
                  · have epi := rd_pi_no h68
                    go_wp2_with fail
                    go_meet
                    case rel => exact ⟨⟨by rw [epi]⟩, ⟨by rw [epi]; exact HAT3.out⟩⟩
                  · have epi := rd_pi_yes h68
                    have HC := Fact.mk (Pis_calls wc g off cap a' b' N (rd ltN dk a' b' lim wb wp).d2 HAT3.out.1 (by omega) (by rw [S2.out]; exact hb') (by rw [S2.out]; omega))
                    rw [S2.out, ← epi] at HC
                    have EPI := Fact.mk epi
                    clear epi
                    cases hp2 : (rd ltN dk a' b' lim wb wp).pi.2
                    · rw [hp2] at HC
                      go_wp2_with (go_at_call 105; refine HC.out.mono ?_; rintro e w4 ⟨rfl, h1, h2⟩)
                      go_meet
                      exact ⟨⟨hp2⟩, ⟨HAT3.out.step h1.out h2.out⟩⟩
                    · rw [hp2] at HC
                      go_wp2_with (go_at_call 105; refine HC.out.mono ?_; rintro e w4 ⟨rfl, h1, h2⟩)
                      (try simp only [Exit.inBlock, Exit.then]); refine bodyPost_ret (results_none rfl _ _ _) rfl ?_
                      refine ⟨rfl, ?_⟩
                      rw [← HEQ.out, pdq_done h12 hl0 hp2]
                      exact HAT3.out.step h1.out h2.out
                case rest =>
                  obtain ⟨HP2, HAT5⟩ := hcut
                  have hp2 := HP2.out
                  obtain ⟨G, hG, hcw, hfw⟩ := fam HAT5.out.1
                  rw [S3.out] at hcw hfw
                  have HG := Fact.mk hG
                  clear hG
                  have PV := Fact.mk hpv
                  have hpv1 := hpv.1
                  have hpv2 := hpv.2
                  obtain ⟨pv, hpve⟩ : ∃ pv, (rd ltN dk a' b' lim wb wp).pivot = pv := ⟨_, rfl⟩
                  rw [hpve] at hpv1 hpv2 ⊢
                  have HPVE := Fact.mk hpve
                  clear hpv hpve
                  go_upto_region 17 with fail
                  go_cut [87] from 19 (fun s87 wx => s87 = .bool (decide (a' > 0) && !ltN (G (a' - 1)) (G pv)) ∧ Fact (At w g off N (rd ltN dk a' b' lim wb wp).pi.1 wx))
                  case first =>
                    rcases Nat.eq_zero_or_pos a' with ha0 | ha0
                    · have ha0z : decide ((a' : Int) > 0) = false := decide_eq_false (by omega)
                      go_quiet (first | (go_at_call 106; refine Calls.quiet_of_same (Less_calls _ _ _)))
                      go_wp2_with fail
                      go_meet
                      case rel => exact ⟨by simp [ha0], ⟨HAT5.out.ahead nq⟩⟩
                    · have ha0z : (a' : Int) > 0 := by omega
                      go_quiet (first | (go_at_call 106; refine Calls.quiet_of_same (Less_calls _ _ _)))
                      go_wp2_with fail
                      go_meet
                      case rel => exact ⟨by simp [ha0], ⟨HAT5.out.ahead nq⟩⟩
                  case rest =>
                    obtain ⟨rfl, HAT6⟩ := hcut
                    clear hcw hfw
                    have h87G : ∀ bb, (decide (a' > 0) && !ltN (G (a' - 1)) (G pv)) = bb → (decide (a' > 0) && !ltN (rd ltN dk a' b' lim wb wp).pi.1[a' - 1]! (rd ltN dk a' b' lim wb wp).pi.1[(rd ltN dk a' b' lim wb wp).pivot]!) = bb := fun bb h => by rw [← HG.out, ← HG.out, HPVE.out]; exact h
                    have H87G := Fact.mk h87G
                    clear h87G
                    cases h87g : (decide (a' > 0) && !ltN (G (a' - 1)) (G pv))
                    · have h87 := H87G.out _ h87g
                      obtain ⟨mid, ap, d4, hx⟩ : ∃ mid ap d4, partition ltN (rd ltN dk a' b' lim wb wp).pi.1 a' b' (rd ltN dk a' b' lim wb wp).pivot = (mid, ap, d4) := ⟨(partition ltN (rd ltN dk a' b' lim wb wp).pi.1 a' b' (rd ltN dk a' b' lim wb wp).pivot).1, (partition ltN (rd ltN dk a' b' lim wb wp).pi.1 a' b' (rd ltN dk a' b' lim wb wp).pivot).2.1, (partition ltN (rd ltN dk a' b' lim wb wp).pi.1 a' b' (rd ltN dk a' b' lim wb wp).pivot).2.2, rfl⟩
                      obtain ⟨r1, r2, r3, r4, r5, r6, r7⟩ := round_part swoN (Go.Sort.partition_holds ltN) PV.out.1 PV.out.2 (show b' ≤ (rd ltN dk a' b' lim wb wp).pi.1.size by rw [S3.out]; exact hb') BB3.out hx
                      have HC := Fact.mk (Part_calls wc g off cap a' b' (rd ltN dk a' b' lim wb wp).pivot N (rd ltN dk a' b' lim wb wp).pi.1 HAT6.out.1 PV.out.1 PV.out.2 (by rw [S3.out]; exact hb') (by rw [S3.out]; omega))
                      rw [S3.out, hx, HPVE.out] at HC
                      have X := Fact.mk hx
                      have R3 : Fact (d4.size = n) := ⟨r3.trans S3.out⟩
                      have R4 := Fact.mk r4
                      have R5 := Fact.mk r5
                      have R67 := Fact.mk (And.intro r6 r7)
                      have H87 := Fact.mk h87
                      clear hx h87 r3 r4 r5 r6 r7 h87g H87G
                      go_upto_if 113 with (go_at_call 108; refine HC.out.mono ?_; rintro e w7 ⟨rfl, h1, h2⟩)
                      have HAT7 : Fact (At w g off N d4 w7) := ⟨HAT6.out.step h1.out h2.out⟩
                      clear h1 h2 HC
                      by_cases h4 : mid - a' < b' - mid
                      · have h4z : (mid : Int) - (a' : Int) < (b' : Int) - (mid : Int) := by omega
                        have HIH := Fact.mk (ih w7 g off n cap a' mid (rd ltN dk a' b' lim wb wp).lim N d4 (by omega) HAT7.out.1 R3.out (by omega) (by omega) hsz (Nat.lt_of_le_of_lt (Nat.le_trans rd_lim_le hlim) hlimit) R4.out)
                        obtain ⟨pL, sL⟩ := Go.Sort.pdq_sorts ltN swoN d4 a' mid (rd ltN dk a' b' lim wb wp).lim true true (by omega) (by rw [R3.out]; omega) R4.out
                        have PL := Fact.mk (And.intro pL sL)
                        clear pL sL
                        go_wp2_with (go_at_call 95; refine HIH.out.mono ?_; rintro e w8 ⟨rfl, hw8⟩)
                        go_roundg (b' - (mid + 1))
                        case measure => omega
                        case rel =>
                          refine ⟨mid + 1, b', (rd ltN dk a' b' lim wb wp).lim, decide (mid - a' ≥ (b' - a') / 8), ap, pdq ltN d4 a' mid (rd ltN dk a' b' lim wb wp).lim true true, by simp, rfl, rfl, ?_, rfl, ⟨by omega⟩, ⟨by omega⟩, ⟨Nat.le_refl _⟩, ⟨by omega⟩, ⟨Nat.le_trans rd_lim_le hlim⟩, ⟨by rw [PL.out.1.1]; exact R3.out⟩, ⟨(R67.out.1 _ PL.out.1 PL.out.2).1⟩, ⟨HAT7.out.step hw8.1 hw8.2⟩, ⟨?_⟩⟩
                          · exact congrArg Value.bool (eighth (by omega) (by omega))
                          · rw [← HEQ.out, pdq_left h12 hl0 hp2 H87.out (by rw [X.out]; exact ⟨r1, r2⟩) (by rw [X.out]; exact h4), X.out]
                      · have h4z : ¬ ((mid : Int) - (a' : Int) < (b' : Int) - (mid : Int)) := by omega
                        have HIH := Fact.mk (ih w7 g off n cap (mid + 1) b' (rd ltN dk a' b' lim wb wp).lim N d4 (by omega) HAT7.out.1 R3.out (by omega) (by omega) hsz (Nat.lt_of_le_of_lt (Nat.le_trans rd_lim_le hlim) hlimit) R5.out)
                        obtain ⟨pL, sL⟩ := Go.Sort.pdq_sorts ltN swoN d4 (mid + 1) b' (rd ltN dk a' b' lim wb wp).lim true true (by omega) (by rw [R3.out]; omega) R5.out
                        have PL := Fact.mk (And.intro pL sL)
                        clear pL sL
                        go_wp2_with (go_at_call 95; refine HIH.out.mono ?_; rintro e w8 ⟨rfl, hw8⟩)
                        go_roundg (mid - a')
                        case measure => omega
                        case rel =>
                          refine ⟨a', mid, (rd ltN dk a' b' lim wb wp).lim, decide (b' - mid ≥ (b' - a') / 8), ap, pdq ltN d4 (mid + 1) b' (rd ltN dk a' b' lim wb wp).lim true true, rfl, rfl, rfl, ?_, rfl, ⟨by omega⟩, ⟨by omega⟩, ⟨Nat.le_refl _⟩, ⟨by omega⟩, ⟨Nat.le_trans rd_lim_le hlim⟩, ⟨by rw [PL.out.1.1]; exact R3.out⟩, ⟨(R67.out.2 _ PL.out.1 PL.out.2).1⟩, ⟨HAT7.out.step hw8.1 hw8.2⟩, ⟨?_⟩⟩
                          · exact congrArg Value.bool (eighth (by omega) (by omega))
                          · rw [← HEQ.out, pdq_right h12 hl0 hp2 H87.out (by rw [X.out]; exact ⟨r1, r2⟩) (by rw [X.out]; exact h4), X.out]
                    · have h87 := H87G.out _ h87g
                      have h87' := h87
                      simp only [Bool.and_eq_true, decide_eq_true_eq, Bool.not_eq_true'] at h87'
                      obtain ⟨mid, d4, hx⟩ : ∃ mid d4, partitionEqual ltN (rd ltN dk a' b' lim wb wp).pi.1 a' b' (rd ltN dk a' b' lim wb wp).pivot = (mid, d4) := ⟨(partitionEqual ltN (rd ltN dk a' b' lim wb wp).pi.1 a' b' (rd ltN dk a' b' lim wb wp).pivot).1, (partitionEqual ltN (rd ltN dk a' b' lim wb wp).pi.1 a' b' (rd ltN dk a' b' lim wb wp).pivot).2, rfl⟩
                      obtain ⟨r1, r2, r3, r4, _⟩ := round_eq swoN (Go.Sort.partitionEqual_holds ltN) h87'.1 PV.out.1 PV.out.2 (show b' ≤ (rd ltN dk a' b' lim wb wp).pi.1.size by rw [S3.out]; exact hb') BB3.out h87'.2 hx
                      have HC := Fact.mk (PartEq_calls wc g off cap a' b' (rd ltN dk a' b' lim wb wp).pivot N (rd ltN dk a' b' lim wb wp).pi.1 HAT6.out.1 PV.out.1 PV.out.2 (by rw [S3.out]; exact hb') (by rw [S3.out]; omega))
                      rw [S3.out, hx, HPVE.out] at HC
                      have X := Fact.mk hx
                      have R3 : Fact (d4.size = n) := ⟨r3.trans S3.out⟩
                      have R4 := Fact.mk r4
                      have H87 := Fact.mk h87
                      clear hx h87 h87' r3 r4 h87g H87G
                      go_wp2_with (go_at_call 107; refine HC.out.mono ?_; rintro e w7 ⟨rfl, h1, h2⟩)
                      go_roundg (b' - mid)
                      case measure => omega
                      case rel =>
                        exact ⟨mid, b', (rd ltN dk a' b' lim wb wp).lim, wb, wp, d4, rfl, rfl, rfl, rfl, rfl, ⟨r2⟩, ⟨hb'⟩, ⟨Nat.le_refl _⟩, ⟨by omega⟩, ⟨Nat.le_trans rd_lim_le hlim⟩, R3, R4, ⟨HAT6.out.step h1.out h2.out⟩, ⟨by rw [← HEQ.out, pdq_eq h12 hl0 hp2 H87.out (by rw [X.out]; exact ⟨r1, r2⟩), X.out]⟩⟩
set_option maxHeartbeats 1000000 in
set_option maxRecDepth 100000 in
theorem Sort_calls (w : World) (g off n cap N : Nat) (d : Array Nat) (hA : Arr w g off d N) (hn : d.size = n) (hsz : n < 1152921504606846976) :
    Calls Tryd.prog 88 #[.slice (some ⟨g, off, none⟩) n cap] w fun e w' => e = .returned (.tuple #[]) ∧ At w g off N (Go.Sort.sort ltN d) w' := by
  have hk : bitsLen n ≤ 62 := (bitsLen_le_iff n 62).2 (by omega)
  have HC := Fact.mk (fun w' (h : w' = w) => Pdq_calls (n + 1) w g off n cap 0 n (bitsLen n) N d (by omega) hA hn (Nat.zero_le _) (Nat.le_refl _) hsz (by omega) (Or.inl rfl))
  have hE : Fact (Go.Sort.sort ltN d = pdq ltN d 0 n (bitsLen n) true true) := ⟨by rw [← hn]; rfl⟩
  rw [hE.out]
  clear hA hn hE
  go_enter Tryd.func88, Tryd.ntmps88
  go_wp2_with (first
    | (go_at_call 96; refine (Len_calls n _ (by omega)).mono ?_; rintro e w' ⟨rfl, rfl⟩)
    | (go_at_call 95; refine (HC.out _ rfl).mono ?_; rintro e w' ⟨rfl, hat⟩))
  go_end0
  exact ⟨rfl, hat⟩
set_option maxHeartbeats 1000000 in
set_option maxRecDepth 100000 in
/-- The nil slice, or one of no length. -/
theorem Sort_nil (w : World) (p : Option Addr) (cap : Nat) :
    Calls Tryd.prog 88 #[.slice p 0 cap] w fun e w' => e = .returned (.tuple #[]) ∧ w' = w := by
  have HI : Fact (Calls Tryd.prog 100 #[.slice p 0 cap, .int .i64 0, .int .i64 0] w fun e w' => e = .returned (.tuple #[]) ∧ w' = w) := ⟨by
    go_enter Tryd.func100, Tryd.ntmps100
    go_wp2
    go_loopg [6] 0 (fun kq vi wr => vi = .int .i64 1 ∧ Fact (wr = w))
    case atStart => exact ⟨rfl, ⟨rfl⟩⟩
    case round =>
      obtain ⟨rfl, HW⟩ := hrel
      go_wp2
      go_end0
      exact ⟨rfl, HW.out⟩⟩
  have HP : Fact (Calls Tryd.prog 95 #[.slice p 0 cap, .int .i64 0, .int .i64 0, .int .i64 0] w fun e w' => e = .returned (.tuple #[]) ∧ w' = w) := ⟨by
    go_enter Tryd.func95, Tryd.ntmps95
    go_wp2
    go_loopg [1, 2, 3, 8, 9] 0 (fun k s1 s2 s3 s8 s9 wr => s1 = .int .i64 0 ∧ s2 = .int .i64 0 ∧ s3 = .int .i64 0 ∧ s8 = .bool true ∧ s9 = .bool true ∧ Fact (wr = w))
    case atStart => exact ⟨rfl, rfl, rfl, rfl, rfl, ⟨rfl⟩⟩
    case round =>
      obtain ⟨rfl, rfl, rfl, rfl, rfl, HW⟩ := hrel
      have HI2 : Fact (Calls Tryd.prog 100 #[.slice p 0 cap, .int .i64 0, .int .i64 0] wr fun e w' => e = .returned (.tuple #[]) ∧ w' = w) := ⟨by rw [HW.out]; exact HI.out⟩
      go_wp2_with (go_at_call 100; refine HI2.out.mono ?_; rintro e w1 ⟨rfl, h1⟩)
      (try simp only [Exit.inBlock, Exit.then]); refine bodyPost_ret (results_none rfl _ _ _) rfl ?_
      exact ⟨rfl, rfl⟩⟩
  have HL := Fact.mk (fun w => Len_calls 0 w (by decide))
  go_enter Tryd.func88, Tryd.ntmps88
  go_wp2_with (first
    | (go_at_call 96; refine (HL.out _).mono ?_; rintro e w' ⟨rfl, rfl⟩)
    | (go_at_call 95; refine HP.out.mono ?_; rintro e w' ⟨rfl, rfl⟩))
  go_end0
  exact ⟨rfl, rfl⟩
/-- What 'sort' is: the numbers in order. -/
theorem sortN (l : List Nat) : (Go.Sort.sort ltN l.toArray).toList = l.mergeSort (fun x y => decide (x ≤ y)) := by
  obtain ⟨hP, hSo⟩ := Go.Sort.sort_sorts ltN swoN l.toArray
  have h := Go.Sort.sorted_unique_holds swoN (fun x y h1 h2 => by simp only [ltN, decide_eq_false_iff_not] at h1 h2; omega) l.toArray _ hP hSo
  rw [h]
  congr 1
  funext x y
  show (!decide (y < x)) = decide (x ≤ y)
  by_cases h : x ≤ y
  · have h' : ¬ y < x := by omega
    simp [h, h']
  · have h' : y < x := by omega
    simp [h, h']
theorem sort_size (d : Array Nat) : (Go.Sort.sort ltN d).size = d.size := (Go.Sort.sort_sorts ltN swoN d).1.1
end Go.Proofs.YtkmcjokoinoahaaDoor.SortJ
