/- Packets, answers are read: contracts over any world. -/
import Derived.Test.YtjjcjdefenbnjaaParcelE
set_option linter.unusedVariables false
set_option linter.unusedSimpArgs false
namespace Go.Proofs.Ytjjcjdefenbnjaa.ParcelF
open Go.RowKit Go.Proofs.Ytjjcjdefenbnjaa.Lib Go.Proofs.Ytjjcjdefenbnjaa.Reg Go.Proofs.Ytjjcjdefenbnjaa.RegB Go.Proofs.Ytjjcjdefenbnjaa.TlvA Go.Proofs.Ytjjcjdefenbnjaa.TlvC Go.Proofs.Ytjjcjdefenbnjaa.TlvF Go.Proofs.Ytjjcjdefenbnjaa.TlvI Go.Proofs.Ytjjcjdefenbnjaa.LawNums Go.Proofs.Ytjjcjdefenbnjaa.PlainP Go.Proofs.Ytjjcjdefenbnjaa.LawOne Go.Proofs.Ytjjcjdefenbnjaa.DenomA Go.Proofs.Ytjjcjdefenbnjaa.ParcelA Go.Proofs.Ytjjcjdefenbnjaa.ParcelB Go.Proofs.Ytjjcjdefenbnjaa.ParcelC Go.Proofs.Ytjjcjdefenbnjaa.ParcelD Go.Proofs.Ytjjcjdefenbnjaa.ParcelE

def ackC (y : Bool) (k : Nat) : Array Value := #[.bool y, .int .i64 (k : Int)]
theorem ack_i (y : Bool) (k : Nat) : (Try.prog.info? 87).map (·.size) = some (ackC y k).size := by
  rw [show (ackC y k).size = 2 from rfl]; kernel_rfl
theorem ackC_one (y : Bool) (k : Nat) : (ackC y k).all (·.oneCell') = true := by simp [ackC, Value.oneCell']
theorem rEnd_fail (s : St) {k : Int} (hk : k ≠ 0) : rEnd (rFail s k) ≠ 0 := fun h => rFail_ne hk (rEnd_zero h).2
set_option maxHeartbeats 8000000 in
set_option maxRecDepth 100000 in
theorem ReadAck_calls (w : World) (F : Nat → Prop) (A : Option Addr) (n c : Nat) (l : List UInt8) (h : Sl rU8 w F A n c l) (hF : ∀ k, F k → k < w.heap.size) (hn : n ≤ 4294967296) :
    Calls Try.prog 56 #[.slice A n c] w fun e w' => e = .returned (.tuple #[.agg (ackC (readAck l).1 (readAck l).2.1), .int .i64 (readAck l).2.2]) ∧ Below w.heap.size w w' := by
  have H := Fact.mk h
  have HF := Fact.mk hF
  have HN := Fact.mk hn
  clear h hF hn
  go_enter Try.func56, Try.ntmps56
  go_wp2_with (go_at_call 70; fail)
  refine (ROpen_calls _ F A n c l (H.out.move (Same.alloc (Same.refl _ _) HF.out _)) (fun k hk => by have := HF.out k hk; simp; omega) HN.out).mono ?_
  rintro e w0 ⟨pb, rfl, hpb, hr, hb⟩
  have HPB : Fact (w.heap.size < pb) := ⟨by have := hpb.out; simp at this; omega⟩
  have HR0 : Fact (w0.heap[w.heap.size]? = some (.cells (ackC false 0) 87)) := ⟨by rw [hb.block _ (by simp)]; exact heap_new _ _⟩
  have HB0 : Fact (Below w.heap.size w w0) := ⟨((Below.refl _ _).alloc (Nat.le_refl _) (.cells (ackC false 0) 87)).trans (hb.mono (by simp))⟩
  have HX : Fact (readAck l = if rEnd (rdAck (parseG l (-1))).2.2 = 0 then ((rdAck (parseG l (-1))).1 == 1, (rdAck (parseG l (-1))).2.1, 0) else (false, 0, rEnd (rdAck (parseG l (-1))).2.2)) := ⟨rfl⟩
  have HRd0 := Fact.mk hr.out
  obtain ⟨s0, hs0⟩ : ∃ s, parseG l (-1) = s := ⟨_, rfl⟩
  rw [hs0] at HX HRd0
  clear hpb hr hb hs0
  have HIA : Fact (∀ y k, (Try.prog.info? 87).map (·.size) = some (ackC y k).size) := ⟨ack_i⟩
  go_wp2_with (go_at_call 71; fail)
  refine (RNum_calls _ pb s0 HRd0.out _ 1 rfl).mono ?_
  rintro e w1 ⟨rfl, hr, hb⟩
  replace hb := hb.1
  have HRd1 := Fact.mk hr.out
  have HB1 : Fact (Below w.heap.size w w1) := ⟨HB0.out.trans (hb.mono (Nat.le_of_lt HPB.out))⟩
  have HRz1 : Fact (w1.heap[w.heap.size]? = some (.cells (ackC false 0) 87)) := ⟨by rw [hb.block _ HPB.out]; exact HR0.out⟩
  clear hr hb
  have HL1 := Fact.mk (rN_lt s0 1)
  obtain ⟨a, ha⟩ : ∃ x, rN s0 1 = x := ⟨_, rfl⟩
  have HQ1 := Fact.mk ha
  rw [ha] at HRd1 HL1 ⊢
  clear ha
  obtain ⟨y, sa⟩ := a
  simp only at HL1 HRd1
  go_wp2_with (go_at_call 71; fail)
  refine (RNum_calls _ pb sa HRd1.out _ 2 rfl).mono ?_
  rintro e w2 ⟨rfl, hr, hb⟩
  replace hb := hb.1
  have HRd2 := Fact.mk hr.out
  have HB2 : Fact (Below w.heap.size w w2) := ⟨HB1.out.trans (hb.mono (Nat.le_of_lt HPB.out))⟩
  have HRz2 : Fact (w2.heap[w.heap.size]? = some (.cells (ackC false 0) 87)) := ⟨by rw [hb.block _ HPB.out]; exact HRz1.out⟩
  clear hr hb
  have HL2 := Fact.mk (rN_lt sa 2)
  obtain ⟨b, hb⟩ : ∃ x, rN sa 2 = x := ⟨_, rfl⟩
  have HQ2 := Fact.mk hb
  rw [hb] at HRd2 HL2 ⊢
  clear hb
  obtain ⟨k, sb⟩ := b
  simp only at HL2 HRd2
  have HRD : Fact (rdAck s0 = (y, k, if 1 < y ∨ 2147483648 < k ∨ (y = 1 ↔ k ≠ 0) then rFail sb 2 else sb)) := ⟨by unfold rdAck; simp only [HQ1.out, HQ2.out]⟩
  clear HQ1 HQ2
  by_cases h1 : 1 < y
  · have k1 : decide ((1 : Int) < (y : Int)) = true := decide_eq_true (by omega)
    have k1' : decide (1 < y) = true := decide_eq_true h1
    rw [if_pos (.inl h1)] at HRD
    clear h1
    go_wp2_with (go_at_call 72; fail)
    refine (RFail_calls _ pb sb HRd2.out 2).mono ?_
    rintro e w3 ⟨rfl, hr, hb⟩
    have HRF := Fact.mk hr.out
    have HR3 : Fact (w3.heap[w.heap.size]? = some (.cells (ackC false 0) 87)) := ⟨by rw [hb.1.block _ HPB.out]; exact HRz2.out⟩
    have HB3 : Fact (Below w.heap.size w w3) := ⟨HB2.out.trans (hb.1.mono (Nat.le_of_lt HPB.out))⟩
    clear hr hb
    go_wp2_with (go_at_call 74; fail)
    refine (REnd_calls _ pb _ HRF.out).mono ?_
    rintro e w4 ⟨rfl, hb⟩
    have HR4 : Fact (w4.heap[w.heap.size]? = some (.cells (ackC false 0) 87)) := ⟨by rw [hb.1.block _ HPB.out]; exact HR3.out⟩
    have HB4 : Fact (Below w.heap.size w w4) := ⟨HB3.out.trans (hb.1.mono (Nat.le_of_lt HPB.out))⟩
    obtain ⟨z, hz⟩ : ∃ z, rEnd (rFail sb 2) = z := ⟨_, rfl⟩
    have HZN : Fact (z ≠ 0) := ⟨by rw [← hz]; exact rEnd_fail sb (by decide)⟩
    have HZ := Fact.mk hz
    have z1 : (z != 0) = true := by have := HZN.out; simpa using this
    rw [hz]
    clear hz hb
    go_wp2_with (refine wpList_store_row rfl 87 (.tmp 2) (.tmp 33) rfl w.heap.size (ackC false 0) rfl rfl 87 (ackC false 0) HR4.out (HIA.out _ _) rfl (ackC_one _ _) ?_)
    refine bodyPost_ret (ParcelE.results_cell_tmp (fn := Try.f56) rfl _ _ w.heap.size 87 (ackC false 0) (0, 0) _ rfl (setRow_heap _ _ _ _ _ _ HR4.out) Try.underlying87 rfl (HIA.out _ _)) rfl ?_
    rw [HX.out, HRD.out]
    simp only
    rw [HZ.out, if_neg HZN.out]
    exact ⟨rfl, HB4.out.trans (Below.row (Below.refl _ _) (Nat.le_refl _) _)⟩
  have k1 : decide ((1 : Int) < (y : Int)) = false := decide_eq_false (by omega)
  have k1' : decide (1 < y) = false := decide_eq_false h1
  by_cases h2 : 2147483648 < k
  · have k2 : decide ((2147483648 : Int) < (k : Int)) = true := decide_eq_true (by omega)
    have k2' : decide (2147483648 < k) = true := decide_eq_true h2
    rw [if_pos (.inr (.inl h2))] at HRD
    clear h1 h2
    go_wp2_with (go_at_call 72; fail)
    refine (RFail_calls _ pb sb HRd2.out 2).mono ?_
    rintro e w3 ⟨rfl, hr, hb⟩
    have HRF := Fact.mk hr.out
    have HR3 : Fact (w3.heap[w.heap.size]? = some (.cells (ackC false 0) 87)) := ⟨by rw [hb.1.block _ HPB.out]; exact HRz2.out⟩
    have HB3 : Fact (Below w.heap.size w w3) := ⟨HB2.out.trans (hb.1.mono (Nat.le_of_lt HPB.out))⟩
    clear hr hb
    go_wp2_with (go_at_call 74; fail)
    refine (REnd_calls _ pb _ HRF.out).mono ?_
    rintro e w4 ⟨rfl, hb⟩
    have HR4 : Fact (w4.heap[w.heap.size]? = some (.cells (ackC false 0) 87)) := ⟨by rw [hb.1.block _ HPB.out]; exact HR3.out⟩
    have HB4 : Fact (Below w.heap.size w w4) := ⟨HB3.out.trans (hb.1.mono (Nat.le_of_lt HPB.out))⟩
    obtain ⟨z, hz⟩ : ∃ z, rEnd (rFail sb 2) = z := ⟨_, rfl⟩
    have HZN : Fact (z ≠ 0) := ⟨by rw [← hz]; exact rEnd_fail sb (by decide)⟩
    have HZ := Fact.mk hz
    have z1 : (z != 0) = true := by have := HZN.out; simpa using this
    rw [hz]
    clear hz hb
    go_wp2_with (refine wpList_store_row rfl 87 (.tmp 2) (.tmp 33) rfl w.heap.size (ackC false 0) rfl rfl 87 (ackC false 0) HR4.out (HIA.out _ _) rfl (ackC_one _ _) ?_)
    refine bodyPost_ret (ParcelE.results_cell_tmp (fn := Try.f56) rfl _ _ w.heap.size 87 (ackC false 0) (0, 0) _ rfl (setRow_heap _ _ _ _ _ _ HR4.out) Try.underlying87 rfl (HIA.out _ _)) rfl ?_
    rw [HX.out, HRD.out]
    simp only
    rw [HZ.out, if_neg HZN.out]
    exact ⟨rfl, HB4.out.trans (Below.row (Below.refl _ _) (Nat.le_refl _) _)⟩
  have k2 : decide ((2147483648 : Int) < (k : Int)) = false := decide_eq_false (by omega)
  have k2' : decide (2147483648 < k) = false := decide_eq_false h2
  have hy : y = 0 ∨ y = 1 := by omega
  rcases hy with hy | hy
  · subst hy
    by_cases hk : k = 0
    · subst hk
      rw [if_pos (.inr (.inr (by decide)))] at HRD
      clear h1 h2 k1 k1' k2 k2' 
      go_wp2_with (go_at_call 72; fail)
      refine (RFail_calls _ pb sb HRd2.out 2).mono ?_
      rintro e w3 ⟨rfl, hr, hb⟩
      have HRF := Fact.mk hr.out
      have HR3 : Fact (w3.heap[w.heap.size]? = some (.cells (ackC false 0) 87)) := ⟨by rw [hb.1.block _ HPB.out]; exact HRz2.out⟩
      have HB3 : Fact (Below w.heap.size w w3) := ⟨HB2.out.trans (hb.1.mono (Nat.le_of_lt HPB.out))⟩
      clear hr hb
      go_wp2_with (go_at_call 74; fail)
      refine (REnd_calls _ pb _ HRF.out).mono ?_
      rintro e w4 ⟨rfl, hb⟩
      have HR4 : Fact (w4.heap[w.heap.size]? = some (.cells (ackC false 0) 87)) := ⟨by rw [hb.1.block _ HPB.out]; exact HR3.out⟩
      have HB4 : Fact (Below w.heap.size w w4) := ⟨HB3.out.trans (hb.1.mono (Nat.le_of_lt HPB.out))⟩
      obtain ⟨z, hz⟩ : ∃ z, rEnd (rFail sb 2) = z := ⟨_, rfl⟩
      have HZN : Fact (z ≠ 0) := ⟨by rw [← hz]; exact rEnd_fail sb (by decide)⟩
      have HZ := Fact.mk hz
      have z1 : (z != 0) = true := by have := HZN.out; simpa using this
      rw [hz]
      clear hz hb
      go_wp2_with (refine wpList_store_row rfl 87 (.tmp 2) (.tmp 33) rfl w.heap.size (ackC false 0) rfl rfl 87 (ackC false 0) HR4.out (HIA.out _ _) rfl (ackC_one _ _) ?_)
      refine bodyPost_ret (ParcelE.results_cell_tmp (fn := Try.f56) rfl _ _ w.heap.size 87 (ackC false 0) (0, 0) _ rfl (setRow_heap _ _ _ _ _ _ HR4.out) Try.underlying87 rfl (HIA.out _ _)) rfl ?_
      rw [HX.out, HRD.out]
      simp only
      rw [HZ.out, if_neg HZN.out]
      exact ⟨rfl, HB4.out.trans (Below.row (Below.refl _ _) (Nat.le_refl _) _)⟩
    · have k3 : ((k : Int) == 0) = false := by simpa using hk
      rw [if_neg (by omega)] at HRD
      clear h1 hk
      have HKW : Fact (IntKind.i64.wrap (k : Int) = (k : Int)) := ⟨by rw [IntKind.wrap_i64]; omega⟩
      go_wp2_with (go_at_call 74; fail)
      refine (REnd_calls _ pb sb HRd2.out).mono ?_
      rintro e w4 ⟨rfl, hb⟩
      have HR4 : Fact (w4.heap[w.heap.size]? = some (.cells (ackC false 0) 87)) := ⟨by rw [hb.1.block _ HPB.out]; exact HRz2.out⟩
      have HB4 : Fact (Below w.heap.size w w4) := ⟨HB2.out.trans (hb.1.mono (Nat.le_of_lt HPB.out))⟩
      obtain ⟨z, hz⟩ : ∃ z, rEnd sb = z := ⟨_, rfl⟩
      have HZ := Fact.mk hz
      rw [hz]
      clear hz hb
      by_cases hz : z = 0
      · subst hz
        have z1 : ((0 : Int) != 0) = false := rfl
        have kw := HKW.out
        go_wp2_with (refine wpList_store_row rfl 87 (.tmp 2) (.tmp 39) rfl w.heap.size (ackC false k) rfl rfl 87 (ackC false 0) HR4.out (HIA.out _ _) rfl (ackC_one _ _) ?_)
        refine bodyPost_ret (ParcelE.results_cell_tmp (fn := Try.f56) rfl _ _ w.heap.size 87 (ackC false k) (0, 0) _ rfl (setRow_heap _ _ _ _ _ _ HR4.out) Try.underlying87 rfl (HIA.out _ _)) rfl ?_
        rw [HX.out, HRD.out]
        simp only
        rw [HZ.out, if_pos rfl]
        exact ⟨rfl, HB4.out.trans (Below.row (Below.refl _ _) (Nat.le_refl _) _)⟩
      · have z1 : (z != 0) = true := by simpa using hz
        have HZN := Fact.mk hz
        clear hz
        go_wp2_with (refine wpList_store_row rfl 87 (.tmp 2) (.tmp 33) rfl w.heap.size (ackC false 0) rfl rfl 87 (ackC false 0) HR4.out (HIA.out _ _) rfl (ackC_one _ _) ?_)
        refine bodyPost_ret (ParcelE.results_cell_tmp (fn := Try.f56) rfl _ _ w.heap.size 87 (ackC false 0) (0, 0) _ rfl (setRow_heap _ _ _ _ _ _ HR4.out) Try.underlying87 rfl (HIA.out _ _)) rfl ?_
        rw [HX.out, HRD.out]
        simp only
        rw [HZ.out, if_neg HZN.out]
        exact ⟨rfl, HB4.out.trans (Below.row (Below.refl _ _) (Nat.le_refl _) _)⟩
  · subst hy
    by_cases hk : k = 0
    · subst hk
      rw [if_neg (by decide)] at HRD
      clear h1 k1 k1' k2 k2' 
      have HKW : Fact (IntKind.i64.wrap ((0 : Nat) : Int) = ((0 : Nat) : Int)) := ⟨by rw [IntKind.wrap_i64]; omega⟩
      go_wp2_with (go_at_call 74; fail)
      refine (REnd_calls _ pb sb HRd2.out).mono ?_
      rintro e w4 ⟨rfl, hb⟩
      have HR4 : Fact (w4.heap[w.heap.size]? = some (.cells (ackC false 0) 87)) := ⟨by rw [hb.1.block _ HPB.out]; exact HRz2.out⟩
      have HB4 : Fact (Below w.heap.size w w4) := ⟨HB2.out.trans (hb.1.mono (Nat.le_of_lt HPB.out))⟩
      obtain ⟨z, hz⟩ : ∃ z, rEnd sb = z := ⟨_, rfl⟩
      have HZ := Fact.mk hz
      rw [hz]
      clear hz hb
      by_cases hz : z = 0
      · subst hz
        have z1 : ((0 : Int) != 0) = false := rfl
        have kw := HKW.out
        go_wp2_with (refine wpList_store_row rfl 87 (.tmp 2) (.tmp 39) rfl w.heap.size (ackC true 0) rfl rfl 87 (ackC false 0) HR4.out (HIA.out _ _) rfl (ackC_one _ _) ?_)
        refine bodyPost_ret (ParcelE.results_cell_tmp (fn := Try.f56) rfl _ _ w.heap.size 87 (ackC true 0) (0, 0) _ rfl (setRow_heap _ _ _ _ _ _ HR4.out) Try.underlying87 rfl (HIA.out _ _)) rfl ?_
        rw [HX.out, HRD.out]
        simp only
        rw [HZ.out, if_pos rfl]
        exact ⟨rfl, HB4.out.trans (Below.row (Below.refl _ _) (Nat.le_refl _) _)⟩
      · have z1 : (z != 0) = true := by simpa using hz
        have HZN := Fact.mk hz
        clear hz
        go_wp2_with (refine wpList_store_row rfl 87 (.tmp 2) (.tmp 33) rfl w.heap.size (ackC false 0) rfl rfl 87 (ackC false 0) HR4.out (HIA.out _ _) rfl (ackC_one _ _) ?_)
        refine bodyPost_ret (ParcelE.results_cell_tmp (fn := Try.f56) rfl _ _ w.heap.size 87 (ackC false 0) (0, 0) _ rfl (setRow_heap _ _ _ _ _ _ HR4.out) Try.underlying87 rfl (HIA.out _ _)) rfl ?_
        rw [HX.out, HRD.out]
        simp only
        rw [HZ.out, if_neg HZN.out]
        exact ⟨rfl, HB4.out.trans (Below.row (Below.refl _ _) (Nat.le_refl _) _)⟩
    · have k3 : ((k : Int) == 0) = false := by simpa using hk
      rw [if_pos (.inr (.inr (by omega)))] at HRD
      clear h1 h2 hk
      go_wp2_with (go_at_call 72; fail)
      refine (RFail_calls _ pb sb HRd2.out 2).mono ?_
      rintro e w3 ⟨rfl, hr, hb⟩
      have HRF := Fact.mk hr.out
      have HR3 : Fact (w3.heap[w.heap.size]? = some (.cells (ackC false 0) 87)) := ⟨by rw [hb.1.block _ HPB.out]; exact HRz2.out⟩
      have HB3 : Fact (Below w.heap.size w w3) := ⟨HB2.out.trans (hb.1.mono (Nat.le_of_lt HPB.out))⟩
      clear hr hb
      go_wp2_with (go_at_call 74; fail)
      refine (REnd_calls _ pb _ HRF.out).mono ?_
      rintro e w4 ⟨rfl, hb⟩
      have HR4 : Fact (w4.heap[w.heap.size]? = some (.cells (ackC false 0) 87)) := ⟨by rw [hb.1.block _ HPB.out]; exact HR3.out⟩
      have HB4 : Fact (Below w.heap.size w w4) := ⟨HB3.out.trans (hb.1.mono (Nat.le_of_lt HPB.out))⟩
      obtain ⟨z, hz⟩ : ∃ z, rEnd (rFail sb 2) = z := ⟨_, rfl⟩
      have HZN : Fact (z ≠ 0) := ⟨by rw [← hz]; exact rEnd_fail sb (by decide)⟩
      have HZ := Fact.mk hz
      have z1 : (z != 0) = true := by have := HZN.out; simpa using this
      rw [hz]
      clear hz hb
      go_wp2_with (refine wpList_store_row rfl 87 (.tmp 2) (.tmp 33) rfl w.heap.size (ackC false 0) rfl rfl 87 (ackC false 0) HR4.out (HIA.out _ _) rfl (ackC_one _ _) ?_)
      refine bodyPost_ret (ParcelE.results_cell_tmp (fn := Try.f56) rfl _ _ w.heap.size 87 (ackC false 0) (0, 0) _ rfl (setRow_heap _ _ _ _ _ _ HR4.out) Try.underlying87 rfl (HIA.out _ _)) rfl ?_
      rw [HX.out, HRD.out]
      simp only
      rw [HZ.out, if_neg HZN.out]
      exact ⟨rfl, HB4.out.trans (Below.row (Below.refl _ _) (Nat.le_refl _) _)⟩
end Go.Proofs.Ytjjcjdefenbnjaa.ParcelF
