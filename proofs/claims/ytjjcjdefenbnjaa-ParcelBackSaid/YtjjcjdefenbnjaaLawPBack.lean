/- ParcelBack: for every input the law answers true; what was in memory before is as it was. -/
import Derived.Test.YtjjcjdefenbnjaaParcelM
set_option linter.unusedVariables false
set_option linter.unusedSimpArgs false
namespace Go.Proofs.Ytjjcjdefenbnjaa.LawPBack
open Go.RowKit Go.Proofs.Ytjjcjdefenbnjaa.Lib Go.Proofs.Ytjjcjdefenbnjaa.Reg Go.Proofs.Ytjjcjdefenbnjaa.TlvA Go.Proofs.Ytjjcjdefenbnjaa.TlvC Go.Proofs.Ytjjcjdefenbnjaa.TlvF Go.Proofs.Ytjjcjdefenbnjaa.TlvI Go.Proofs.Ytjjcjdefenbnjaa.LawNums Go.Proofs.Ytjjcjdefenbnjaa.PlainP Go.Proofs.Ytjjcjdefenbnjaa.LawOne Go.Proofs.Ytjjcjdefenbnjaa.DenomA Go.Proofs.Ytjjcjdefenbnjaa.ParcelA Go.Proofs.Ytjjcjdefenbnjaa.ParcelB Go.Proofs.Ytjjcjdefenbnjaa.ParcelC Go.Proofs.Ytjjcjdefenbnjaa.ParcelD Go.Proofs.Ytjjcjdefenbnjaa.ParcelE Go.Proofs.Ytjjcjdefenbnjaa.ParcelF Go.Proofs.Ytjjcjdefenbnjaa.OpenP Go.Proofs.Ytjjcjdefenbnjaa.ParcelL Go.Proofs.Ytjjcjdefenbnjaa.ParcelM
set_option maxHeartbeats 40000000 in
set_option maxRecDepth 100000 in
theorem ParcelBack_calls (w : World) (ch : Int) (p : Pk) (hs : Sized p) (hc0 : -9223372036854775808 ≤ ch) (hc1 : ch ≤ 9223372036854775807) (y : Bool) (cc : Int) (hcc0 : -9223372036854775808 ≤ cc) (hcc1 : cc ≤ 9223372036854775807) (hcs : Array Value) (h : Hd) (hk : h.ok) (hh : hcs.toList = hdC h) :
    Calls Try.prog 17 #[.agg (pkA ch p), .agg #[.bool y, .int .i64 cc], .agg hcs] w fun e w' => e = .returned (.bool true) ∧ Below w.heap.size w w' := by
  have HS := Fact.mk hs
  have HK := Fact.mk hk
  have HH := Fact.mk hh
  obtain ⟨c4, hc4, hc4l⟩ : ∃ c4 : Nat, (IntKind.u64.wrap ch) % 4 = (c4 : Int) ∧ c4 < 4 := ⟨((IntKind.u64.wrap ch) % 4).toNat, by omega, by omega⟩
  have u0 : 0 ≤ IntKind.u64.wrap ch := by rw [IntKind.wrap_u64]; omega
  obtain ⟨uch, huch⟩ : ∃ u, IntKind.u64.wrap ch = u := ⟨_, rfl⟩
  rw [huch] at hc4 u0
  have t4 : uch.tmod 4 = (c4 : Int) := by rw [Int.tmod_eq_emod_of_nonneg u0]; exact hc4
  have i4 : IntKind.i64.wrap (c4 : Int) = (c4 : Int) := by rw [IntKind.wrap_i64]; omega
  have v4 : IntKind.u64.wrap (c4 : Int) = (c4 : Int) := by rw [IntKind.wrap_u64]; omega
  obtain ⟨c1, hc1'⟩ : ∃ c1, cc.tmod 1073741824 = c1 := ⟨_, rfl⟩
  have hc1b : -1073741824 < c1 ∧ c1 < 1073741824 := by
    rw [← hc1']
    have h1 := Int.tmod_lt_of_pos cc (show (0 : Int) < 1073741824 by decide)
    have h2 := Int.tmod_lt_of_pos (-cc) (show (0 : Int) < 1073741824 by decide)
    rw [Int.neg_tmod] at h2
    omega
  have w1 : IntKind.i64.wrap c1 = c1 := by rw [IntKind.wrap_i64]; omega
  have w2 : IntKind.i64.wrap (-c1) = -c1 := by rw [IntKind.wrap_i64]; omega
  have HP4 := Fact.mk hc4l
  have HC1 := Fact.mk hc1b
  have hi85 := Fact.mk (show (Try.prog.info? 85).map (·.size) = some (pkA ch p).size by rw [show (pkA ch p).size = 7 from rfl]; kernel_rfl)
  clear hs hk hh hc4 u0 hc0 hc1 hcc0 hcc1 hc4l hc1b
  go_enter Try.func17, Try.ntmps17
  go_wp2_with (go_at_call 50; fail)
  refine (Awake_calls _).mono ?_
  rintro e w3 ⟨rfl, hb⟩
  have HB3 : Fact (Below w.heap.size w w3) := ⟨((((Below.refl _ _).alloc (Nat.le_refl _) (.cells (pkA ch p) 85)).alloc (by simp) (.cells #[.bool y, .int .i64 cc] 87)).alloc (by simp; omega) (.cells hcs 91)).trans (hb.mono (by simp; omega))⟩
  have HR0 : Fact (w3.heap[w.heap.size]? = some (.cells (pkA ch p) 85)) := ⟨by rw [hb.block _ (by simp only [World.size_alloc]; omega)]; rw [Below.heap_alloc _ _ _ (by simp only [World.size_alloc]; omega), Below.heap_alloc _ _ _ (by simp only [World.size_alloc]; omega)]; exact heap_new _ _⟩
  have HR1 : Fact (w3.heap[w.heap.size + 1]? = some (.cells #[.bool y, .int .i64 cc] 87)) := ⟨by rw [hb.block _ (by simp only [World.size_alloc]; omega)]; rw [Below.heap_alloc _ _ _ (by simp)]; have := heap_new (w.alloc (.cells (pkA ch p) 85)) (.cells #[.bool y, .int .i64 cc] 87); simpa using this⟩
  have HR2 : Fact (w3.heap[w.heap.size + 1 + 1]? = some (.cells hcs 91)) := ⟨by rw [hb.block _ (by simp only [World.size_alloc]; omega)]; have := heap_new ((w.alloc (.cells (pkA ch p) 85)).alloc (.cells #[.bool y, .int .i64 cc] 87)) (.cells hcs 91); simpa using this⟩
  clear hb
  go_wp2_with (first
    | (go_at_call 51; fail)
    | (refine wpList_load_row rfl 85 (.tmp 3) rfl w.heap.size rfl 85 (pkA ch p) (0, 0) _ HR0.out Try.underlying85 rfl hi85.out ?_))
  refine (long_calls w3 ch p HS.out).mono ?_
  rintro e w4 ⟨rfl, hb⟩
  have HB4 : Fact (Below w.heap.size w w4) := ⟨HB3.out.trans (hb.mono HB3.out.size)⟩
  have hlt2 : w.heap.size + 1 + 1 < w3.heap.size := by
    rcases Nat.lt_or_ge (w.heap.size + 1 + 1) w3.heap.size with h | h
    · exact h
    · have := HR2.out; rw [Array.getElem?_eq_none h] at this; cases this
  have HS0 : Fact (w4.heap[w.heap.size]? = some (.cells (pkA ch p) 85)) := ⟨by rw [hb.block _ (by omega)]; exact HR0.out⟩
  have HS1 : Fact (w4.heap[w.heap.size + 1]? = some (.cells #[.bool y, .int .i64 cc] 87)) := ⟨by rw [hb.block _ (by omega)]; exact HR1.out⟩
  have HS2 : Fact (w4.heap[w.heap.size + 1 + 1]? = some (.cells hcs 91)) := ⟨by rw [hb.block _ (by omega)]; exact HR2.out⟩
  clear hb hlt2 HR0 HR1 HR2
  by_cases hl : longP p = true
  · rw [hl]
    go_wp2_with fail
    go_ret
    exact ⟨rfl, HB4.out⟩
  · have hl' : longP p = false := by simpa using hl
    rw [hl']
    have HLP := Fact.mk hl'
    clear hl hl'
    obtain ⟨mq, hmq⟩ : ∃ mq, max c1 (-c1) = mq := ⟨_, rfl⟩
    obtain ⟨kk, hkk⟩ : ∃ kk : Int, kk = if y = true then 0 else mq + 1 := ⟨_, rfl⟩
    have HMQ : Fact (0 ≤ mq ∧ mq < 1073741824) := ⟨by have := HC1.out; omega⟩
    have HR40 : Fact (w4.heap[w.heap.size]? = some (.cells (pkA ch p) 85)) := HS0
    have HR11 : Fact ((w4.setCell ⟨w.heap.size, 0, none⟩ (.int .i64 (c4 : Int))).heap[w.heap.size + 1]? = some (.cells #[.bool y, .int .i64 cc] 87)) := ⟨by rw [Below.heap_setCell _ _ _ _ (by simp)]; exact HS1.out⟩
    have HR10 : Fact ((w4.setCell ⟨w.heap.size, 0, none⟩ (.int .i64 (c4 : Int))).heap[w.heap.size]? = some (.cells (pkA c4 p) 85)) := ⟨row_set _ HS0.out⟩
    have HR12 : Fact ((w4.setCell ⟨w.heap.size, 0, none⟩ (.int .i64 (c4 : Int))).heap[w.heap.size + 1 + 1]? = some (.cells hcs 91)) := ⟨by rw [Below.heap_setCell _ _ _ _ (by simp; omega)]; exact HS2.out⟩
    have HR21 : Fact (((w4.setCell ⟨w.heap.size, 0, none⟩ (.int .i64 (c4 : Int))).setCell ⟨w.heap.size + 1, 1, none⟩ (.int .i64 c1)).heap[w.heap.size + 1]? = some (.cells #[.bool y, .int .i64 c1] 87)) := ⟨row_set _ HR11.out⟩
    have HR31 : Fact ((((w4.setCell ⟨w.heap.size, 0, none⟩ (.int .i64 (c4 : Int))).setCell ⟨w.heap.size + 1, 1, none⟩ (.int .i64 c1)).setCell ⟨w.heap.size + 1, 1, none⟩ (.int .i64 mq)).heap[w.heap.size + 1]? = some (.cells #[.bool y, .int .i64 mq] 87)) := ⟨row_set _ HR21.out⟩
    have HR41 : Fact (((((w4.setCell ⟨w.heap.size, 0, none⟩ (.int .i64 (c4 : Int))).setCell ⟨w.heap.size + 1, 1, none⟩ (.int .i64 c1)).setCell ⟨w.heap.size + 1, 1, none⟩ (.int .i64 mq)).setCell ⟨w.heap.size + 1, 1, none⟩ (.int .i64 kk)).heap[w.heap.size + 1]? = some (.cells #[.bool y, .int .i64 kk] 87)) := ⟨row_set _ HR31.out⟩
    have HRP : Fact (((((w4.setCell ⟨w.heap.size, 0, none⟩ (.int .i64 (c4 : Int))).setCell ⟨w.heap.size + 1, 1, none⟩ (.int .i64 c1)).setCell ⟨w.heap.size + 1, 1, none⟩ (.int .i64 mq)).setCell ⟨w.heap.size + 1, 1, none⟩ (.int .i64 kk)).heap[w.heap.size]? = some (.cells (pkA c4 p) 85)) := ⟨by rw [Below.heap_setCell _ _ _ _ (by simp), Below.heap_setCell _ _ _ _ (by simp), Below.heap_setCell _ _ _ _ (by simp)]; exact HR10.out⟩
    have HRH : Fact (((((w4.setCell ⟨w.heap.size, 0, none⟩ (.int .i64 (c4 : Int))).setCell ⟨w.heap.size + 1, 1, none⟩ (.int .i64 c1)).setCell ⟨w.heap.size + 1, 1, none⟩ (.int .i64 mq)).setCell ⟨w.heap.size + 1, 1, none⟩ (.int .i64 kk)).heap[w.heap.size + 1 + 1]? = some (.cells hcs 91)) := ⟨by rw [Below.heap_setCell _ _ _ _ (by simp), Below.heap_setCell _ _ _ _ (by simp), Below.heap_setCell _ _ _ _ (by simp)]; exact HR12.out⟩
    have HBW : Fact (Below w.heap.size w ((((w4.setCell ⟨w.heap.size, 0, none⟩ (.int .i64 (c4 : Int))).setCell ⟨w.heap.size + 1, 1, none⟩ (.int .i64 c1)).setCell ⟨w.heap.size + 1, 1, none⟩ (.int .i64 mq)).setCell ⟨w.heap.size + 1, 1, none⟩ (.int .i64 kk))) := ⟨(((HB4.out.setCell (p := ⟨w.heap.size, 0, none⟩) (Nat.le_refl _) _).setCell (p := ⟨w.heap.size + 1, 1, none⟩) (by simp) _).setCell (p := ⟨w.heap.size + 1, 1, none⟩) (by simp) _).setCell (p := ⟨w.heap.size + 1, 1, none⟩) (by simp) _⟩
    have q0 := row_cell (i := 0) (v := .int .i64 ch) HS0.out rfl
    have f0 := row_free (i := 0) HS0.out
    have q1 := row_cell (i := 1) (v := .int .i64 cc) HR11.out rfl
    have f1 := row_free (i := 1) HR11.out
    have q2 := row_cell (i := 1) (v := .int .i64 c1) HR21.out rfl
    have f2 := row_free (i := 1) HR21.out
    have q3 := row_cell (i := 1) (v := .int .i64 mq) HR31.out rfl
    have q3y := row_cell (i := 0) (v := .bool y) HR31.out rfl
    have f3 := row_free (i := 1) HR31.out
    obtain ⟨k, hk⟩ : ∃ k : Nat, kk = (k : Int) := ⟨kk.toNat, by have := HMQ.out; cases y <;> simp at hkk <;> omega⟩
    have HKY : Fact (k ≤ 1073741824 ∧ (y = true ↔ k = 0)) := ⟨by have := HMQ.out; cases y <;> simp at hkk <;> simp <;> omega⟩
    have wk : y = false → IntKind.i64.wrap (mq + 1) = kk := fun hy => by subst hy; simp at hkk; rw [IntKind.wrap_i64, hkk]; have := HMQ.out; omega
    have wk0 : y = true → kk = 0 := fun hy => by subst hy; simpa using hkk
    have HKK := Fact.mk hk
    have HPE : Fact (∃ p' : Pk, p'.ok ∧ pkA c4 p = pkC p' ∧ (pkL p').length ≤ 3053) := ⟨by
      refine ⟨⟨c4, p.seq, p.tmo, p.den, p.amt, p.frm, p.to⟩, ?_, rfl, ?_⟩
      · have h1 := HLP.out; unfold longP at h1; have h2 := HS.out; have h3 := HP4.out; simp at h1; exact ⟨h3, h2.seq, h2.tmo, h2.amt, by show p.den.length ≤ 65535; omega, by show p.frm.length ≤ 65535; omega, by show p.to.length ≤ 65535; omega⟩
      · have h1 := HLP.out; unfold longP at h1; simp at h1; have := pkL_len ⟨c4, p.seq, p.tmo, p.den, p.amt, p.frm, p.to⟩; simp only at this; omega⟩
    obtain ⟨p', hpok, hpe, hpl⟩ := HPE.out
    rw [hpe] at HRP
    have HPOK := Fact.mk hpok
    have HPL := Fact.mk hpl
    have HRA : Fact (((((w4.setCell ⟨w.heap.size, 0, none⟩ (.int .i64 (c4 : Int))).setCell ⟨w.heap.size + 1, 1, none⟩ (.int .i64 c1)).setCell ⟨w.heap.size + 1, 1, none⟩ (.int .i64 mq)).setCell ⟨w.heap.size + 1, 1, none⟩ (.int .i64 kk)).heap[w.heap.size + 1]? = some (.cells (ackC y k) 87)) := ⟨HR41.out.trans (by rw [HKK.out]; rfl)⟩
    clear hkk hk hpok hpl hpe HPE HR40 HR11 HR10 HR12 HR21 HR31 HR41 HS0 HS1 HS2 hi85 HMQ HLP HS HP4
    have HHI := Fact.mk (hd_i (cs := hcs) (by rw [← Array.length_toList, HH.out]; exact hdC_len HK.out))
    have HKB : Fact (k ≤ 2147483648) := ⟨by have := HKY.out; omega⟩
    have HKI := fun (_ : Unit) => HKY.out.2
    rcases (show c1 < 0 ∨ 0 ≤ c1 by omega) with hs | hs
    · have hms : c1 = -mq := by omega
      have g0 : ¬ mq ≤ -mq := by omega
      have g1 : decide (mq ≤ -mq) = false := decide_eq_false g0
      have w2' : IntKind.i64.wrap mq = mq := by rw [IntKind.wrap_i64]; have := HC1.out; omega
      clear hmq hs w2
      subst hms
      cases y with
      | true =>
        have hz := wk0 rfl
        obtain rfl : k = 0 := (HKI ()).1 rfl
        subst hz
        clear wk wk0 HKK HKY HKI
        go_wp2_with (first
          | (go_at_call 52; fail)
          | (refine wpList_load_row rfl 85 (.tmp 3) rfl (w.heap.size) rfl 85 (pkC p') (0, 0) _ ?_ Try.underlying85 rfl (pk_i _) ?_; (with_reducible exact HRP.out)))
        refine (Packet_calls _ p' HPOK.out).mono ?_
        rintro e w5 ⟨A5, c5, rfl, ho, hb⟩
        have HLP5 := Fact.mk (Lv.out ho.out)
        have HB5 : Fact (Below w.heap.size w w5) := ⟨HBW.out.trans (hb.mono HBW.out.size)⟩
        have HRP5 := Fact.mk (row_move HRP.out hb)
        have HRA5 := Fact.mk (row_move HRA.out hb)
        have HRH5 := Fact.mk (row_move HRH.out hb)
        clear ho hb HBW HRP HRA HRH q0 q1 q2 q3 q3y f0 f1 f2 f3
        go_wp2_with (first
          | (go_at_call 53; fail)
          | (refine wpList_load_row rfl 87 (.tmp 4) rfl (w.heap.size + 1) rfl 87 (ackC true 0) (0, 0) _ ?_ Try.underlying87 rfl (ack_i _ _) ?_; (with_reducible exact HRA5.out)))
        refine (Ack_calls w5 true 0 HKB.out (⟨fun _ => rfl, fun _ => rfl⟩)).mono ?_
        rintro e w6 ⟨A6, c6, rfl, ho, hb⟩
        have HLA6 := Fact.mk (Lv.out ho.out)
        have HLP6 := Fact.mk (HLP5.out.move hb)
        have HB6 : Fact (Below w.heap.size w w6) := ⟨HB5.out.trans (hb.mono HB5.out.size)⟩
        have HRP6 := Fact.mk (row_move HRP5.out hb)
        have HRA6 := Fact.mk (row_move HRA5.out hb)
        have HRH6 := Fact.mk (row_move HRH5.out hb)
        clear ho hb HLP5 HB5 HRP5 HRA5 HRH5
        go_wp2_with (first
          | (go_at_call 54; fail)
          | (refine wpList_load_row rfl 91 (.tmp 5) rfl (w.heap.size + 1 + 1) rfl 91 hcs (0, 0) _ ?_ Try.underlying91 rfl HHI.out ?_; (with_reducible exact HRH6.out)))
        refine (Header_calls w6 h HK.out hcs HH.out).mono ?_
        rintro e w7 ⟨A7, c7, rfl, ho, hb⟩
        have HLH7 := Fact.mk (Lv.out ho.out)
        have HLP7 := Fact.mk (HLP6.out.move hb)
        have HLA7 := Fact.mk (HLA6.out.move hb)
        have HB7 : Fact (Below w.heap.size w w7) := ⟨HB6.out.trans (hb.mono HB6.out.size)⟩
        have HRP7 := Fact.mk (row_move HRP6.out hb)
        have HRA7 := Fact.mk (row_move HRA6.out hb)
        have HRH7 := Fact.mk (row_move HRH6.out hb)
        clear ho hb HLP6 HLA6 HB6 HRP6 HRA6 HRH6
        go_wp2_with (go_at_call 55; fail)
        refine (ReadPacket_calls w7 _ _ _ _ _ HLP7.out (fun _ h => h) (by have := HPL.out; omega)).mono ?_
        rintro e w8 ⟨rfl, hb⟩
        rw [back_pk HPOK.out]
        have HLP8 := Fact.mk (HLP7.out.move hb)
        have HLA8 := Fact.mk (HLA7.out.move hb)
        have HLH8 := Fact.mk (HLH7.out.move hb)
        have HB8 : Fact (Below w.heap.size w w8) := ⟨HB7.out.trans (hb.mono HB7.out.size)⟩
        have HRP8 := Fact.mk (row_move HRP7.out hb)
        have HRA8 := Fact.mk (row_move HRA7.out hb)
        have HRH8 := Fact.mk (row_move HRH7.out hb)
        have HN8 := Fact.mk (below_new w8 (pkC Pk.zero) (pkC p') 85)
        have HG8 : Fact ((w8.alloc (.cells (pkC Pk.zero) 85)).heap[w8.heap.size]? = some (.cells (pkC Pk.zero) 85)) := ⟨heap_new _ _⟩
        clear hb HLP7 HLA7 HLH7 HB7 HRP7 HRA7 HRH7
        go_wp2_with (first
          | (go_at_call 56; fail)
          | (refine wpList_ok rfl (exec_alloc rfl (alloc_pk _)) ?_)
          | (refine wpList_store_row rfl 85 (.tmp 12) (.tmp 67) rfl (w8.heap.size) (pkC p') rfl rfl 85 (pkC Pk.zero) ?_ (pk_i _) rfl (pk_one _) ?_; (exact HG8.out)))
        refine (ReadAck_calls _ _ _ _ _ _ (HLA8.out.move HN8.out) (fun _ h => h) (by have := ackL_len true 0; omega)).mono ?_
        rintro e w9 ⟨rfl, hb⟩
        rw [back_ack (y := true) (c := 0) HKB.out (⟨fun _ => rfl, fun _ => rfl⟩)]
        have HG9 := Fact.mk (row_move (row_new _ _ _ _) hb)
        have hb9 : Below w8.heap.size w8 w9 := HN8.out.trans (hb.mono HN8.out.size)
        have HLP9 := Fact.mk (HLP8.out.move hb9)
        have HLH9 := Fact.mk (HLH8.out.move hb9)
        have HB9 : Fact (Below w.heap.size w w9) := ⟨HB8.out.trans (hb9.mono HB8.out.size)⟩
        have HRP9 := Fact.mk (row_move HRP8.out hb9)
        have HRA9 := Fact.mk (row_move HRA8.out hb9)
        have HRH9 := Fact.mk (row_move HRH8.out hb9)
        have HN9 := Fact.mk (below_new w9 (ackC false 0) (ackC true 0) 87)
        have HGA9 : Fact ((w9.alloc (.cells (ackC false 0) 87)).heap[w9.heap.size]? = some (.cells (ackC false 0) 87)) := ⟨heap_new _ _⟩
        clear hb hb9 HN8 HG8 HLP8 HLA8 HLH8 HB8 HRP8 HRA8 HRH8
        go_wp2_with (first
          | (go_at_call 57; fail)
          | (refine wpList_ok rfl (exec_alloc rfl (alloc_ack _)) ?_)
          | (refine wpList_store_row rfl 87 (.tmp 14) (.tmp 72) rfl (w9.heap.size) (ackC true 0) rfl rfl 87 (ackC false 0) ?_ (ack_i _ _) rfl (ackC_one _ _) ?_; (exact HGA9.out)))
        refine (ReadHeader_calls _ _ _ _ _ _ (HLH9.out.move HN9.out) (fun _ h => h) (by have := hdL_len HK.out; omega)).mono ?_
        rintro e w10 ⟨⟨cs, rfl, hcs'⟩, hb⟩
        rw [back_hd HK.out] at hcs' ⊢
        obtain rfl : cs = hcs := by rw [← Array.toList_inj, hcs'.out, HH.out]
        have HG10 := Fact.mk (row_move (row_new _ _ _ _) hb)
        have hb10 : Below w9.heap.size w9 w10 := HN9.out.trans (hb.mono HN9.out.size)
        have HGP10 := Fact.mk (row_move HG9.out hb10)
        have HLP10 := Fact.mk (HLP9.out.move hb10)
        have HLH10 := Fact.mk (HLH9.out.move hb10)
        have HB10 : Fact (Below w.heap.size w w10) := ⟨HB9.out.trans (hb10.mono HB9.out.size)⟩
        have HRP10 := Fact.mk (row_move HRP9.out hb10)
        have HRA10 := Fact.mk (row_move HRA9.out hb10)
        have HRH10 := Fact.mk (row_move HRH9.out hb10)
        have HN10 := Fact.mk (below_new w10 zHdA cs 91)
        have HGH10 : Fact ((w10.alloc (.cells zHdA 91)).heap[w10.heap.size]? = some (.cells zHdA 91)) := ⟨heap_new _ _⟩
        have HX3 := Fact.mk (row_move HRP10.out HN10.out)
        have HX4 := Fact.mk (row_move HRA10.out HN10.out)
        have HX5 := Fact.mk (row_move HRH10.out HN10.out)
        have HX12 := Fact.mk (row_move HGP10.out HN10.out)
        have HX14 := Fact.mk (row_move HG10.out HN10.out)
        have HX16 := Fact.mk (row_new w10 zHdA cs 91)
        have e1 := eq_pk HPOK.out
        have e2 := eq_ack true 0 HKB.out
        have e3 := eq_hd HK.out HH.out
        have HONE := Fact.mk (hd_one HH.out)
        have HSZ : Fact (zHdA.size = cs.size) := ⟨by have h1 := hdC_len HK.out; rw [← HH.out, Array.length_toList] at h1; rw [h1]; unfold zHdA; rw [List.size_toArray]; exact zHd_len⟩
        clear hb hb10 hcs' HN9 HGA9 HLP9 HLH9 HB9 HRP9 HRA9 HRH9 HG9
        go_wp2_with (first
          | (go_at_call 20; fail)
          | (refine wpList_ok rfl (exec_alloc rfl (alloc_hd _)) ?_)
          | (refine wpList_store_row rfl 91 (.tmp 16) (.tmp 77) rfl (w10.heap.size) cs rfl rfl 91 zHdA ?_ HHI.out HSZ.out HONE.out ?_; (exact HGH10.out))
          | (refine wpList_okG rfl (exec_loadR (ty := 85) (x := .tmp 3) rfl (g := w.heap.size) rfl (t := 85) (cs := (pkC p')) (fr := (0, 0)) HX3.out Try.underlying85 rfl (pk_i _)) ?_)
          | (refine wpList_okG rfl (exec_loadR (ty := 85) (x := .tmp 12) rfl (g := w8.heap.size) rfl (t := 85) (cs := (pkC p')) (fr := (0, 0)) HX12.out Try.underlying85 rfl (pk_i _)) ?_)
          | (refine wpList_okG rfl (exec_loadR (ty := 87) (x := .tmp 4) rfl (g := w.heap.size + 1) rfl (t := 87) (cs := (ackC true 0)) (fr := (0, 0)) HX4.out Try.underlying87 rfl (ack_i _ _)) ?_)
          | (refine wpList_okG rfl (exec_loadR (ty := 87) (x := .tmp 14) rfl (g := w9.heap.size) rfl (t := 87) (cs := (ackC true 0)) (fr := (0, 0)) HX14.out Try.underlying87 rfl (ack_i _ _)) ?_)
          | (refine wpList_okG rfl (exec_loadR (ty := 91) (x := .tmp 5) rfl (g := w.heap.size + 1 + 1) rfl (t := 91) (cs := cs) (fr := (0, 0)) HX5.out Try.underlying91 rfl HHI.out) ?_)
          | (refine wpList_okG rfl (exec_loadR (ty := 91) (x := .tmp 16) rfl (g := w10.heap.size) rfl (t := 91) (cs := cs) (fr := (0, 0)) HX16.out Try.underlying91 rfl HHI.out) ?_))
        refine (Put_calls' _ _ _ _ _ (pkL p') 9 9 _ 1 1 [1] rfl ((HLP10.out.move HN10.out).move (below_one _ _)) (lv_oneAt _ (by simp)) (fun _ h => h) (by have := HPL.out; omega)).mono ?_
        rintro e w13 ⟨A13, c13, rfl, ho, hb⟩
        have hb13 : Below w10.heap.size w10 w13 := thru HN10.out (below_lit hb)
        have HLQ13 := Fact.mk (Lv.ow ho.out)
        have HLH13 := Fact.mk (HLH10.out.move hb13)
        have HB13 : Fact (Below w.heap.size w w13) := ⟨HB10.out.trans (hb13.mono HB10.out.size)⟩
        clear hb hb13 ho HN10 HGH10 HX3 HX4 HX5 HX12 HX14 HX16 e1 e2 e3 HONE HLP10 HLH10 HB10 HGP10 HG10 HRP10 HRA10 HRH10 HSZ
        go_wp2_with (go_at_call 55; fail)
        refine (ReadPacket_calls w13 _ _ _ _ _ HLQ13.out (fun _ h => h) (by have h1 := putL_len (pkL p') 9 [1]; have := HPL.out; simp only [List.length_cons, List.length_nil] at h1; omega)).mono ?_
        rintro e w14 ⟨rfl, hb⟩
        rw [more_pk HPOK.out]
        obtain ⟨q, hq⟩ : ∃ q, (readPk (putL (pkL p') 9 [1])).1 = q := ⟨_, rfl⟩
        rw [hq]
        have HLH14 := Fact.mk (HLH13.out.move hb)
        have HB14 : Fact (Below w.heap.size w w14) := ⟨HB13.out.trans (hb.mono HB13.out.size)⟩
        have HN14 := Fact.mk (below_new w14 (pkC Pk.zero) (pkC q) 85)
        have HG14 : Fact ((w14.alloc (.cells (pkC Pk.zero) 85)).heap[w14.heap.size]? = some (.cells (pkC Pk.zero) 85)) := ⟨heap_new _ _⟩
        clear hb hq HLQ13 HLH13 HB13
        go_wp2_with (first
          | (go_at_call 20; fail)
          | (refine wpList_ok rfl (exec_alloc rfl (alloc_pk _)) ?_)
          | (refine wpList_store_row rfl 85 (.tmp 20) (.tmp 121) rfl (w14.heap.size) (pkC q) rfl rfl 85 (pkC Pk.zero) ?_ (pk_i _) rfl (pk_one _) ?_; (exact HG14.out)))
        refine (Put_calls' _ _ _ _ _ (hdL h) 9 9 _ 1 1 [1] rfl ((HLH14.out.move HN14.out).move (below_one _ _)) (lv_oneAt _ (by simp)) (fun _ h => h) (by have := hdL_len HK.out; omega)).mono ?_
        rintro e w15 ⟨A15, c15, rfl, ho, hb⟩
        have hb15 : Below w14.heap.size w14 w15 := thru HN14.out (below_lit hb)
        have HLQ15 := Fact.mk (Lv.ow ho.out)
        have HB15 : Fact (Below w.heap.size w w15) := ⟨HB14.out.trans (hb15.mono HB14.out.size)⟩
        clear hb hb15 ho HN14 HG14 HLH14 HB14
        go_wp2_with (go_at_call 57; fail)
        refine (ReadHeader_calls w15 _ _ _ _ _ HLQ15.out (fun _ h => h) (by have h1 := putL_len (hdL h) 9 [1]; have := hdL_len HK.out; simp only [List.length_cons, List.length_nil] at h1; omega)).mono ?_
        rintro e w16 ⟨⟨cs2, rfl, hcs2⟩, hb⟩
        rw [readHd_bad (by rw [more_hd HK.out]; decide)] at hcs2
        obtain rfl : cs2 = zHdA := by rw [← Array.toList_inj, hcs2.out]; unfold zHdA; rw [← zHd_eq]
        rw [more_hd HK.out]
        have HB16 : Fact (Below w.heap.size w w16) := ⟨HB15.out.trans (hb.mono HB15.out.size)⟩
        have HG16 : Fact ((w16.alloc (.cells zHdA 91)).heap[w16.heap.size]? = some (.cells zHdA 91)) := ⟨heap_new _ _⟩
        have HIZ := Fact.mk (hd_i (show zHdA.size = 130 by unfold zHdA; rw [List.size_toArray]; exact zHd_len))
        clear hb hcs2 HLQ15 HB15
        go_wp2_with (first
          | (go_at_call 20; fail)
          | (refine wpList_ok rfl (exec_alloc rfl (alloc_hd _)) ?_)
          | (refine wpList_store_row rfl 91 (.tmp 22) (.tmp 132) rfl (w16.heap.size) zHdA rfl rfl 91 zHdA ?_ HIZ.out rfl zHd_one ?_; (exact HG16.out)))
        go_ret
        exact ⟨rfl, HB16.out.trans ((below_new w16 zHdA zHdA 91).mono HB16.out.size)⟩
      | false =>
        have wk' := wk rfl
        have HKN : Fact (k ≠ 0) := ⟨fun h => by have := (HKI ()).2 h; cases this⟩
        have hkk := HKK.out
        clear wk wk0 HKK HKY HKI
        subst hkk
        go_wp2_with (first
          | (go_at_call 52; fail)
          | (refine wpList_load_row rfl 85 (.tmp 3) rfl (w.heap.size) rfl 85 (pkC p') (0, 0) _ ?_ Try.underlying85 rfl (pk_i _) ?_; (with_reducible exact HRP.out)))
        refine (Packet_calls _ p' HPOK.out).mono ?_
        rintro e w5 ⟨A5, c5, rfl, ho, hb⟩
        have HLP5 := Fact.mk (Lv.out ho.out)
        have HB5 : Fact (Below w.heap.size w w5) := ⟨HBW.out.trans (hb.mono HBW.out.size)⟩
        have HRP5 := Fact.mk (row_move HRP.out hb)
        have HRA5 := Fact.mk (row_move HRA.out hb)
        have HRH5 := Fact.mk (row_move HRH.out hb)
        clear ho hb HBW HRP HRA HRH q0 q1 q2 q3 q3y f0 f1 f2 f3
        go_wp2_with (first
          | (go_at_call 53; fail)
          | (refine wpList_load_row rfl 87 (.tmp 4) rfl (w.heap.size + 1) rfl 87 (ackC false k) (0, 0) _ ?_ Try.underlying87 rfl (ack_i _ _) ?_; (with_reducible exact HRA5.out)))
        refine (Ack_calls w5 false k HKB.out (⟨fun h => (by cases h), fun h => absurd h HKN.out⟩)).mono ?_
        rintro e w6 ⟨A6, c6, rfl, ho, hb⟩
        have HLA6 := Fact.mk (Lv.out ho.out)
        have HLP6 := Fact.mk (HLP5.out.move hb)
        have HB6 : Fact (Below w.heap.size w w6) := ⟨HB5.out.trans (hb.mono HB5.out.size)⟩
        have HRP6 := Fact.mk (row_move HRP5.out hb)
        have HRA6 := Fact.mk (row_move HRA5.out hb)
        have HRH6 := Fact.mk (row_move HRH5.out hb)
        clear ho hb HLP5 HB5 HRP5 HRA5 HRH5
        go_wp2_with (first
          | (go_at_call 54; fail)
          | (refine wpList_load_row rfl 91 (.tmp 5) rfl (w.heap.size + 1 + 1) rfl 91 hcs (0, 0) _ ?_ Try.underlying91 rfl HHI.out ?_; (with_reducible exact HRH6.out)))
        refine (Header_calls w6 h HK.out hcs HH.out).mono ?_
        rintro e w7 ⟨A7, c7, rfl, ho, hb⟩
        have HLH7 := Fact.mk (Lv.out ho.out)
        have HLP7 := Fact.mk (HLP6.out.move hb)
        have HLA7 := Fact.mk (HLA6.out.move hb)
        have HB7 : Fact (Below w.heap.size w w7) := ⟨HB6.out.trans (hb.mono HB6.out.size)⟩
        have HRP7 := Fact.mk (row_move HRP6.out hb)
        have HRA7 := Fact.mk (row_move HRA6.out hb)
        have HRH7 := Fact.mk (row_move HRH6.out hb)
        clear ho hb HLP6 HLA6 HB6 HRP6 HRA6 HRH6
        go_wp2_with (go_at_call 55; fail)
        refine (ReadPacket_calls w7 _ _ _ _ _ HLP7.out (fun _ h => h) (by have := HPL.out; omega)).mono ?_
        rintro e w8 ⟨rfl, hb⟩
        rw [back_pk HPOK.out]
        have HLP8 := Fact.mk (HLP7.out.move hb)
        have HLA8 := Fact.mk (HLA7.out.move hb)
        have HLH8 := Fact.mk (HLH7.out.move hb)
        have HB8 : Fact (Below w.heap.size w w8) := ⟨HB7.out.trans (hb.mono HB7.out.size)⟩
        have HRP8 := Fact.mk (row_move HRP7.out hb)
        have HRA8 := Fact.mk (row_move HRA7.out hb)
        have HRH8 := Fact.mk (row_move HRH7.out hb)
        have HN8 := Fact.mk (below_new w8 (pkC Pk.zero) (pkC p') 85)
        have HG8 : Fact ((w8.alloc (.cells (pkC Pk.zero) 85)).heap[w8.heap.size]? = some (.cells (pkC Pk.zero) 85)) := ⟨heap_new _ _⟩
        clear hb HLP7 HLA7 HLH7 HB7 HRP7 HRA7 HRH7
        go_wp2_with (first
          | (go_at_call 56; fail)
          | (refine wpList_ok rfl (exec_alloc rfl (alloc_pk _)) ?_)
          | (refine wpList_store_row rfl 85 (.tmp 12) (.tmp 67) rfl (w8.heap.size) (pkC p') rfl rfl 85 (pkC Pk.zero) ?_ (pk_i _) rfl (pk_one _) ?_; (exact HG8.out)))
        refine (ReadAck_calls _ _ _ _ _ _ (HLA8.out.move HN8.out) (fun _ h => h) (by have := ackL_len false k; omega)).mono ?_
        rintro e w9 ⟨rfl, hb⟩
        rw [back_ack (y := false) (c := k) HKB.out (⟨fun h => (by cases h), fun h => absurd h HKN.out⟩)]
        have HG9 := Fact.mk (row_move (row_new _ _ _ _) hb)
        have hb9 : Below w8.heap.size w8 w9 := HN8.out.trans (hb.mono HN8.out.size)
        have HLP9 := Fact.mk (HLP8.out.move hb9)
        have HLH9 := Fact.mk (HLH8.out.move hb9)
        have HB9 : Fact (Below w.heap.size w w9) := ⟨HB8.out.trans (hb9.mono HB8.out.size)⟩
        have HRP9 := Fact.mk (row_move HRP8.out hb9)
        have HRA9 := Fact.mk (row_move HRA8.out hb9)
        have HRH9 := Fact.mk (row_move HRH8.out hb9)
        have HN9 := Fact.mk (below_new w9 (ackC false 0) (ackC false k) 87)
        have HGA9 : Fact ((w9.alloc (.cells (ackC false 0) 87)).heap[w9.heap.size]? = some (.cells (ackC false 0) 87)) := ⟨heap_new _ _⟩
        clear hb hb9 HN8 HG8 HLP8 HLA8 HLH8 HB8 HRP8 HRA8 HRH8
        go_wp2_with (first
          | (go_at_call 57; fail)
          | (refine wpList_ok rfl (exec_alloc rfl (alloc_ack _)) ?_)
          | (refine wpList_store_row rfl 87 (.tmp 14) (.tmp 72) rfl (w9.heap.size) (ackC false k) rfl rfl 87 (ackC false 0) ?_ (ack_i _ _) rfl (ackC_one _ _) ?_; (exact HGA9.out)))
        refine (ReadHeader_calls _ _ _ _ _ _ (HLH9.out.move HN9.out) (fun _ h => h) (by have := hdL_len HK.out; omega)).mono ?_
        rintro e w10 ⟨⟨cs, rfl, hcs'⟩, hb⟩
        rw [back_hd HK.out] at hcs' ⊢
        obtain rfl : cs = hcs := by rw [← Array.toList_inj, hcs'.out, HH.out]
        have HG10 := Fact.mk (row_move (row_new _ _ _ _) hb)
        have hb10 : Below w9.heap.size w9 w10 := HN9.out.trans (hb.mono HN9.out.size)
        have HGP10 := Fact.mk (row_move HG9.out hb10)
        have HLP10 := Fact.mk (HLP9.out.move hb10)
        have HLH10 := Fact.mk (HLH9.out.move hb10)
        have HB10 : Fact (Below w.heap.size w w10) := ⟨HB9.out.trans (hb10.mono HB9.out.size)⟩
        have HRP10 := Fact.mk (row_move HRP9.out hb10)
        have HRA10 := Fact.mk (row_move HRA9.out hb10)
        have HRH10 := Fact.mk (row_move HRH9.out hb10)
        have HN10 := Fact.mk (below_new w10 zHdA cs 91)
        have HGH10 : Fact ((w10.alloc (.cells zHdA 91)).heap[w10.heap.size]? = some (.cells zHdA 91)) := ⟨heap_new _ _⟩
        have HX3 := Fact.mk (row_move HRP10.out HN10.out)
        have HX4 := Fact.mk (row_move HRA10.out HN10.out)
        have HX5 := Fact.mk (row_move HRH10.out HN10.out)
        have HX12 := Fact.mk (row_move HGP10.out HN10.out)
        have HX14 := Fact.mk (row_move HG10.out HN10.out)
        have HX16 := Fact.mk (row_new w10 zHdA cs 91)
        have e1 := eq_pk HPOK.out
        have e2 := eq_ack false k HKB.out
        have e3 := eq_hd HK.out HH.out
        have HONE := Fact.mk (hd_one HH.out)
        have HSZ : Fact (zHdA.size = cs.size) := ⟨by have h1 := hdC_len HK.out; rw [← HH.out, Array.length_toList] at h1; rw [h1]; unfold zHdA; rw [List.size_toArray]; exact zHd_len⟩
        clear hb hb10 hcs' HN9 HGA9 HLP9 HLH9 HB9 HRP9 HRA9 HRH9 HG9
        go_wp2_with (first
          | (go_at_call 20; fail)
          | (refine wpList_ok rfl (exec_alloc rfl (alloc_hd _)) ?_)
          | (refine wpList_store_row rfl 91 (.tmp 16) (.tmp 77) rfl (w10.heap.size) cs rfl rfl 91 zHdA ?_ HHI.out HSZ.out HONE.out ?_; (exact HGH10.out))
          | (refine wpList_okG rfl (exec_loadR (ty := 85) (x := .tmp 3) rfl (g := w.heap.size) rfl (t := 85) (cs := (pkC p')) (fr := (0, 0)) HX3.out Try.underlying85 rfl (pk_i _)) ?_)
          | (refine wpList_okG rfl (exec_loadR (ty := 85) (x := .tmp 12) rfl (g := w8.heap.size) rfl (t := 85) (cs := (pkC p')) (fr := (0, 0)) HX12.out Try.underlying85 rfl (pk_i _)) ?_)
          | (refine wpList_okG rfl (exec_loadR (ty := 87) (x := .tmp 4) rfl (g := w.heap.size + 1) rfl (t := 87) (cs := (ackC false k)) (fr := (0, 0)) HX4.out Try.underlying87 rfl (ack_i _ _)) ?_)
          | (refine wpList_okG rfl (exec_loadR (ty := 87) (x := .tmp 14) rfl (g := w9.heap.size) rfl (t := 87) (cs := (ackC false k)) (fr := (0, 0)) HX14.out Try.underlying87 rfl (ack_i _ _)) ?_)
          | (refine wpList_okG rfl (exec_loadR (ty := 91) (x := .tmp 5) rfl (g := w.heap.size + 1 + 1) rfl (t := 91) (cs := cs) (fr := (0, 0)) HX5.out Try.underlying91 rfl HHI.out) ?_)
          | (refine wpList_okG rfl (exec_loadR (ty := 91) (x := .tmp 16) rfl (g := w10.heap.size) rfl (t := 91) (cs := cs) (fr := (0, 0)) HX16.out Try.underlying91 rfl HHI.out) ?_))
        refine (Put_calls' _ _ _ _ _ (pkL p') 9 9 _ 1 1 [1] rfl ((HLP10.out.move HN10.out).move (below_one _ _)) (lv_oneAt _ (by simp)) (fun _ h => h) (by have := HPL.out; omega)).mono ?_
        rintro e w13 ⟨A13, c13, rfl, ho, hb⟩
        have hb13 : Below w10.heap.size w10 w13 := thru HN10.out (below_lit hb)
        have HLQ13 := Fact.mk (Lv.ow ho.out)
        have HLH13 := Fact.mk (HLH10.out.move hb13)
        have HB13 : Fact (Below w.heap.size w w13) := ⟨HB10.out.trans (hb13.mono HB10.out.size)⟩
        clear hb hb13 ho HN10 HGH10 HX3 HX4 HX5 HX12 HX14 HX16 e1 e2 e3 HONE HLP10 HLH10 HB10 HGP10 HG10 HRP10 HRA10 HRH10 HSZ
        go_wp2_with (go_at_call 55; fail)
        refine (ReadPacket_calls w13 _ _ _ _ _ HLQ13.out (fun _ h => h) (by have h1 := putL_len (pkL p') 9 [1]; have := HPL.out; simp only [List.length_cons, List.length_nil] at h1; omega)).mono ?_
        rintro e w14 ⟨rfl, hb⟩
        rw [more_pk HPOK.out]
        obtain ⟨q, hq⟩ : ∃ q, (readPk (putL (pkL p') 9 [1])).1 = q := ⟨_, rfl⟩
        rw [hq]
        have HLH14 := Fact.mk (HLH13.out.move hb)
        have HB14 : Fact (Below w.heap.size w w14) := ⟨HB13.out.trans (hb.mono HB13.out.size)⟩
        have HN14 := Fact.mk (below_new w14 (pkC Pk.zero) (pkC q) 85)
        have HG14 : Fact ((w14.alloc (.cells (pkC Pk.zero) 85)).heap[w14.heap.size]? = some (.cells (pkC Pk.zero) 85)) := ⟨heap_new _ _⟩
        clear hb hq HLQ13 HLH13 HB13
        go_wp2_with (first
          | (go_at_call 20; fail)
          | (refine wpList_ok rfl (exec_alloc rfl (alloc_pk _)) ?_)
          | (refine wpList_store_row rfl 85 (.tmp 20) (.tmp 121) rfl (w14.heap.size) (pkC q) rfl rfl 85 (pkC Pk.zero) ?_ (pk_i _) rfl (pk_one _) ?_; (exact HG14.out)))
        refine (Put_calls' _ _ _ _ _ (hdL h) 9 9 _ 1 1 [1] rfl ((HLH14.out.move HN14.out).move (below_one _ _)) (lv_oneAt _ (by simp)) (fun _ h => h) (by have := hdL_len HK.out; omega)).mono ?_
        rintro e w15 ⟨A15, c15, rfl, ho, hb⟩
        have hb15 : Below w14.heap.size w14 w15 := thru HN14.out (below_lit hb)
        have HLQ15 := Fact.mk (Lv.ow ho.out)
        have HB15 : Fact (Below w.heap.size w w15) := ⟨HB14.out.trans (hb15.mono HB14.out.size)⟩
        clear hb hb15 ho HN14 HG14 HLH14 HB14
        go_wp2_with (go_at_call 57; fail)
        refine (ReadHeader_calls w15 _ _ _ _ _ HLQ15.out (fun _ h => h) (by have h1 := putL_len (hdL h) 9 [1]; have := hdL_len HK.out; simp only [List.length_cons, List.length_nil] at h1; omega)).mono ?_
        rintro e w16 ⟨⟨cs2, rfl, hcs2⟩, hb⟩
        rw [readHd_bad (by rw [more_hd HK.out]; decide)] at hcs2
        obtain rfl : cs2 = zHdA := by rw [← Array.toList_inj, hcs2.out]; unfold zHdA; rw [← zHd_eq]
        rw [more_hd HK.out]
        have HB16 : Fact (Below w.heap.size w w16) := ⟨HB15.out.trans (hb.mono HB15.out.size)⟩
        have HG16 : Fact ((w16.alloc (.cells zHdA 91)).heap[w16.heap.size]? = some (.cells zHdA 91)) := ⟨heap_new _ _⟩
        have HIZ := Fact.mk (hd_i (show zHdA.size = 130 by unfold zHdA; rw [List.size_toArray]; exact zHd_len))
        clear hb hcs2 HLQ15 HB15
        go_wp2_with (first
          | (go_at_call 20; fail)
          | (refine wpList_ok rfl (exec_alloc rfl (alloc_hd _)) ?_)
          | (refine wpList_store_row rfl 91 (.tmp 22) (.tmp 132) rfl (w16.heap.size) zHdA rfl rfl 91 zHdA ?_ HIZ.out rfl zHd_one ?_; (exact HG16.out)))
        go_ret
        exact ⟨rfl, HB16.out.trans ((below_new w16 zHdA zHdA 91).mono HB16.out.size)⟩
    · have hms : mq = c1 := by omega
      subst hms
      have g1 : -mq ≤ mq := by omega
      clear hmq hs
      cases y with
      | true =>
        have hz := wk0 rfl
        obtain rfl : k = 0 := (HKI ()).1 rfl
        subst hz
        clear wk wk0 HKK HKY HKI
        go_wp2_with (first
          | (go_at_call 52; fail)
          | (refine wpList_load_row rfl 85 (.tmp 3) rfl (w.heap.size) rfl 85 (pkC p') (0, 0) _ ?_ Try.underlying85 rfl (pk_i _) ?_; (with_reducible exact HRP.out)))
        refine (Packet_calls _ p' HPOK.out).mono ?_
        rintro e w5 ⟨A5, c5, rfl, ho, hb⟩
        have HLP5 := Fact.mk (Lv.out ho.out)
        have HB5 : Fact (Below w.heap.size w w5) := ⟨HBW.out.trans (hb.mono HBW.out.size)⟩
        have HRP5 := Fact.mk (row_move HRP.out hb)
        have HRA5 := Fact.mk (row_move HRA.out hb)
        have HRH5 := Fact.mk (row_move HRH.out hb)
        clear ho hb HBW HRP HRA HRH q0 q1 q2 q3 q3y f0 f1 f2 f3
        go_wp2_with (first
          | (go_at_call 53; fail)
          | (refine wpList_load_row rfl 87 (.tmp 4) rfl (w.heap.size + 1) rfl 87 (ackC true 0) (0, 0) _ ?_ Try.underlying87 rfl (ack_i _ _) ?_; (with_reducible exact HRA5.out)))
        refine (Ack_calls w5 true 0 HKB.out (⟨fun _ => rfl, fun _ => rfl⟩)).mono ?_
        rintro e w6 ⟨A6, c6, rfl, ho, hb⟩
        have HLA6 := Fact.mk (Lv.out ho.out)
        have HLP6 := Fact.mk (HLP5.out.move hb)
        have HB6 : Fact (Below w.heap.size w w6) := ⟨HB5.out.trans (hb.mono HB5.out.size)⟩
        have HRP6 := Fact.mk (row_move HRP5.out hb)
        have HRA6 := Fact.mk (row_move HRA5.out hb)
        have HRH6 := Fact.mk (row_move HRH5.out hb)
        clear ho hb HLP5 HB5 HRP5 HRA5 HRH5
        go_wp2_with (first
          | (go_at_call 54; fail)
          | (refine wpList_load_row rfl 91 (.tmp 5) rfl (w.heap.size + 1 + 1) rfl 91 hcs (0, 0) _ ?_ Try.underlying91 rfl HHI.out ?_; (with_reducible exact HRH6.out)))
        refine (Header_calls w6 h HK.out hcs HH.out).mono ?_
        rintro e w7 ⟨A7, c7, rfl, ho, hb⟩
        have HLH7 := Fact.mk (Lv.out ho.out)
        have HLP7 := Fact.mk (HLP6.out.move hb)
        have HLA7 := Fact.mk (HLA6.out.move hb)
        have HB7 : Fact (Below w.heap.size w w7) := ⟨HB6.out.trans (hb.mono HB6.out.size)⟩
        have HRP7 := Fact.mk (row_move HRP6.out hb)
        have HRA7 := Fact.mk (row_move HRA6.out hb)
        have HRH7 := Fact.mk (row_move HRH6.out hb)
        clear ho hb HLP6 HLA6 HB6 HRP6 HRA6 HRH6
        go_wp2_with (go_at_call 55; fail)
        refine (ReadPacket_calls w7 _ _ _ _ _ HLP7.out (fun _ h => h) (by have := HPL.out; omega)).mono ?_
        rintro e w8 ⟨rfl, hb⟩
        rw [back_pk HPOK.out]
        have HLP8 := Fact.mk (HLP7.out.move hb)
        have HLA8 := Fact.mk (HLA7.out.move hb)
        have HLH8 := Fact.mk (HLH7.out.move hb)
        have HB8 : Fact (Below w.heap.size w w8) := ⟨HB7.out.trans (hb.mono HB7.out.size)⟩
        have HRP8 := Fact.mk (row_move HRP7.out hb)
        have HRA8 := Fact.mk (row_move HRA7.out hb)
        have HRH8 := Fact.mk (row_move HRH7.out hb)
        have HN8 := Fact.mk (below_new w8 (pkC Pk.zero) (pkC p') 85)
        have HG8 : Fact ((w8.alloc (.cells (pkC Pk.zero) 85)).heap[w8.heap.size]? = some (.cells (pkC Pk.zero) 85)) := ⟨heap_new _ _⟩
        clear hb HLP7 HLA7 HLH7 HB7 HRP7 HRA7 HRH7
        go_wp2_with (first
          | (go_at_call 56; fail)
          | (refine wpList_ok rfl (exec_alloc rfl (alloc_pk _)) ?_)
          | (refine wpList_store_row rfl 85 (.tmp 12) (.tmp 67) rfl (w8.heap.size) (pkC p') rfl rfl 85 (pkC Pk.zero) ?_ (pk_i _) rfl (pk_one _) ?_; (exact HG8.out)))
        refine (ReadAck_calls _ _ _ _ _ _ (HLA8.out.move HN8.out) (fun _ h => h) (by have := ackL_len true 0; omega)).mono ?_
        rintro e w9 ⟨rfl, hb⟩
        rw [back_ack (y := true) (c := 0) HKB.out (⟨fun _ => rfl, fun _ => rfl⟩)]
        have HG9 := Fact.mk (row_move (row_new _ _ _ _) hb)
        have hb9 : Below w8.heap.size w8 w9 := HN8.out.trans (hb.mono HN8.out.size)
        have HLP9 := Fact.mk (HLP8.out.move hb9)
        have HLH9 := Fact.mk (HLH8.out.move hb9)
        have HB9 : Fact (Below w.heap.size w w9) := ⟨HB8.out.trans (hb9.mono HB8.out.size)⟩
        have HRP9 := Fact.mk (row_move HRP8.out hb9)
        have HRA9 := Fact.mk (row_move HRA8.out hb9)
        have HRH9 := Fact.mk (row_move HRH8.out hb9)
        have HN9 := Fact.mk (below_new w9 (ackC false 0) (ackC true 0) 87)
        have HGA9 : Fact ((w9.alloc (.cells (ackC false 0) 87)).heap[w9.heap.size]? = some (.cells (ackC false 0) 87)) := ⟨heap_new _ _⟩
        clear hb hb9 HN8 HG8 HLP8 HLA8 HLH8 HB8 HRP8 HRA8 HRH8
        go_wp2_with (first
          | (go_at_call 57; fail)
          | (refine wpList_ok rfl (exec_alloc rfl (alloc_ack _)) ?_)
          | (refine wpList_store_row rfl 87 (.tmp 14) (.tmp 72) rfl (w9.heap.size) (ackC true 0) rfl rfl 87 (ackC false 0) ?_ (ack_i _ _) rfl (ackC_one _ _) ?_; (exact HGA9.out)))
        refine (ReadHeader_calls _ _ _ _ _ _ (HLH9.out.move HN9.out) (fun _ h => h) (by have := hdL_len HK.out; omega)).mono ?_
        rintro e w10 ⟨⟨cs, rfl, hcs'⟩, hb⟩
        rw [back_hd HK.out] at hcs' ⊢
        obtain rfl : cs = hcs := by rw [← Array.toList_inj, hcs'.out, HH.out]
        have HG10 := Fact.mk (row_move (row_new _ _ _ _) hb)
        have hb10 : Below w9.heap.size w9 w10 := HN9.out.trans (hb.mono HN9.out.size)
        have HGP10 := Fact.mk (row_move HG9.out hb10)
        have HLP10 := Fact.mk (HLP9.out.move hb10)
        have HLH10 := Fact.mk (HLH9.out.move hb10)
        have HB10 : Fact (Below w.heap.size w w10) := ⟨HB9.out.trans (hb10.mono HB9.out.size)⟩
        have HRP10 := Fact.mk (row_move HRP9.out hb10)
        have HRA10 := Fact.mk (row_move HRA9.out hb10)
        have HRH10 := Fact.mk (row_move HRH9.out hb10)
        have HN10 := Fact.mk (below_new w10 zHdA cs 91)
        have HGH10 : Fact ((w10.alloc (.cells zHdA 91)).heap[w10.heap.size]? = some (.cells zHdA 91)) := ⟨heap_new _ _⟩
        have HX3 := Fact.mk (row_move HRP10.out HN10.out)
        have HX4 := Fact.mk (row_move HRA10.out HN10.out)
        have HX5 := Fact.mk (row_move HRH10.out HN10.out)
        have HX12 := Fact.mk (row_move HGP10.out HN10.out)
        have HX14 := Fact.mk (row_move HG10.out HN10.out)
        have HX16 := Fact.mk (row_new w10 zHdA cs 91)
        have e1 := eq_pk HPOK.out
        have e2 := eq_ack true 0 HKB.out
        have e3 := eq_hd HK.out HH.out
        have HONE := Fact.mk (hd_one HH.out)
        have HSZ : Fact (zHdA.size = cs.size) := ⟨by have h1 := hdC_len HK.out; rw [← HH.out, Array.length_toList] at h1; rw [h1]; unfold zHdA; rw [List.size_toArray]; exact zHd_len⟩
        clear hb hb10 hcs' HN9 HGA9 HLP9 HLH9 HB9 HRP9 HRA9 HRH9 HG9
        go_wp2_with (first
          | (go_at_call 20; fail)
          | (refine wpList_ok rfl (exec_alloc rfl (alloc_hd _)) ?_)
          | (refine wpList_store_row rfl 91 (.tmp 16) (.tmp 77) rfl (w10.heap.size) cs rfl rfl 91 zHdA ?_ HHI.out HSZ.out HONE.out ?_; (exact HGH10.out))
          | (refine wpList_okG rfl (exec_loadR (ty := 85) (x := .tmp 3) rfl (g := w.heap.size) rfl (t := 85) (cs := (pkC p')) (fr := (0, 0)) HX3.out Try.underlying85 rfl (pk_i _)) ?_)
          | (refine wpList_okG rfl (exec_loadR (ty := 85) (x := .tmp 12) rfl (g := w8.heap.size) rfl (t := 85) (cs := (pkC p')) (fr := (0, 0)) HX12.out Try.underlying85 rfl (pk_i _)) ?_)
          | (refine wpList_okG rfl (exec_loadR (ty := 87) (x := .tmp 4) rfl (g := w.heap.size + 1) rfl (t := 87) (cs := (ackC true 0)) (fr := (0, 0)) HX4.out Try.underlying87 rfl (ack_i _ _)) ?_)
          | (refine wpList_okG rfl (exec_loadR (ty := 87) (x := .tmp 14) rfl (g := w9.heap.size) rfl (t := 87) (cs := (ackC true 0)) (fr := (0, 0)) HX14.out Try.underlying87 rfl (ack_i _ _)) ?_)
          | (refine wpList_okG rfl (exec_loadR (ty := 91) (x := .tmp 5) rfl (g := w.heap.size + 1 + 1) rfl (t := 91) (cs := cs) (fr := (0, 0)) HX5.out Try.underlying91 rfl HHI.out) ?_)
          | (refine wpList_okG rfl (exec_loadR (ty := 91) (x := .tmp 16) rfl (g := w10.heap.size) rfl (t := 91) (cs := cs) (fr := (0, 0)) HX16.out Try.underlying91 rfl HHI.out) ?_))
        refine (Put_calls' _ _ _ _ _ (pkL p') 9 9 _ 1 1 [1] rfl ((HLP10.out.move HN10.out).move (below_one _ _)) (lv_oneAt _ (by simp)) (fun _ h => h) (by have := HPL.out; omega)).mono ?_
        rintro e w13 ⟨A13, c13, rfl, ho, hb⟩
        have hb13 : Below w10.heap.size w10 w13 := thru HN10.out (below_lit hb)
        have HLQ13 := Fact.mk (Lv.ow ho.out)
        have HLH13 := Fact.mk (HLH10.out.move hb13)
        have HB13 : Fact (Below w.heap.size w w13) := ⟨HB10.out.trans (hb13.mono HB10.out.size)⟩
        clear hb hb13 ho HN10 HGH10 HX3 HX4 HX5 HX12 HX14 HX16 e1 e2 e3 HONE HLP10 HLH10 HB10 HGP10 HG10 HRP10 HRA10 HRH10 HSZ
        go_wp2_with (go_at_call 55; fail)
        refine (ReadPacket_calls w13 _ _ _ _ _ HLQ13.out (fun _ h => h) (by have h1 := putL_len (pkL p') 9 [1]; have := HPL.out; simp only [List.length_cons, List.length_nil] at h1; omega)).mono ?_
        rintro e w14 ⟨rfl, hb⟩
        rw [more_pk HPOK.out]
        obtain ⟨q, hq⟩ : ∃ q, (readPk (putL (pkL p') 9 [1])).1 = q := ⟨_, rfl⟩
        rw [hq]
        have HLH14 := Fact.mk (HLH13.out.move hb)
        have HB14 : Fact (Below w.heap.size w w14) := ⟨HB13.out.trans (hb.mono HB13.out.size)⟩
        have HN14 := Fact.mk (below_new w14 (pkC Pk.zero) (pkC q) 85)
        have HG14 : Fact ((w14.alloc (.cells (pkC Pk.zero) 85)).heap[w14.heap.size]? = some (.cells (pkC Pk.zero) 85)) := ⟨heap_new _ _⟩
        clear hb hq HLQ13 HLH13 HB13
        go_wp2_with (first
          | (go_at_call 20; fail)
          | (refine wpList_ok rfl (exec_alloc rfl (alloc_pk _)) ?_)
          | (refine wpList_store_row rfl 85 (.tmp 20) (.tmp 121) rfl (w14.heap.size) (pkC q) rfl rfl 85 (pkC Pk.zero) ?_ (pk_i _) rfl (pk_one _) ?_; (exact HG14.out)))
        refine (Put_calls' _ _ _ _ _ (hdL h) 9 9 _ 1 1 [1] rfl ((HLH14.out.move HN14.out).move (below_one _ _)) (lv_oneAt _ (by simp)) (fun _ h => h) (by have := hdL_len HK.out; omega)).mono ?_
        rintro e w15 ⟨A15, c15, rfl, ho, hb⟩
        have hb15 : Below w14.heap.size w14 w15 := thru HN14.out (below_lit hb)
        have HLQ15 := Fact.mk (Lv.ow ho.out)
        have HB15 : Fact (Below w.heap.size w w15) := ⟨HB14.out.trans (hb15.mono HB14.out.size)⟩
        clear hb hb15 ho HN14 HG14 HLH14 HB14
        go_wp2_with (go_at_call 57; fail)
        refine (ReadHeader_calls w15 _ _ _ _ _ HLQ15.out (fun _ h => h) (by have h1 := putL_len (hdL h) 9 [1]; have := hdL_len HK.out; simp only [List.length_cons, List.length_nil] at h1; omega)).mono ?_
        rintro e w16 ⟨⟨cs2, rfl, hcs2⟩, hb⟩
        rw [readHd_bad (by rw [more_hd HK.out]; decide)] at hcs2
        obtain rfl : cs2 = zHdA := by rw [← Array.toList_inj, hcs2.out]; unfold zHdA; rw [← zHd_eq]
        rw [more_hd HK.out]
        have HB16 : Fact (Below w.heap.size w w16) := ⟨HB15.out.trans (hb.mono HB15.out.size)⟩
        have HG16 : Fact ((w16.alloc (.cells zHdA 91)).heap[w16.heap.size]? = some (.cells zHdA 91)) := ⟨heap_new _ _⟩
        have HIZ := Fact.mk (hd_i (show zHdA.size = 130 by unfold zHdA; rw [List.size_toArray]; exact zHd_len))
        clear hb hcs2 HLQ15 HB15
        go_wp2_with (first
          | (go_at_call 20; fail)
          | (refine wpList_ok rfl (exec_alloc rfl (alloc_hd _)) ?_)
          | (refine wpList_store_row rfl 91 (.tmp 22) (.tmp 132) rfl (w16.heap.size) zHdA rfl rfl 91 zHdA ?_ HIZ.out rfl zHd_one ?_; (exact HG16.out)))
        go_ret
        exact ⟨rfl, HB16.out.trans ((below_new w16 zHdA zHdA 91).mono HB16.out.size)⟩
      | false =>
        have wk' := wk rfl
        have HKN : Fact (k ≠ 0) := ⟨fun h => by have := (HKI ()).2 h; cases this⟩
        have hkk := HKK.out
        clear wk wk0 HKK HKY HKI
        subst hkk
        go_wp2_with (first
          | (go_at_call 52; fail)
          | (refine wpList_load_row rfl 85 (.tmp 3) rfl (w.heap.size) rfl 85 (pkC p') (0, 0) _ ?_ Try.underlying85 rfl (pk_i _) ?_; (with_reducible exact HRP.out)))
        refine (Packet_calls _ p' HPOK.out).mono ?_
        rintro e w5 ⟨A5, c5, rfl, ho, hb⟩
        have HLP5 := Fact.mk (Lv.out ho.out)
        have HB5 : Fact (Below w.heap.size w w5) := ⟨HBW.out.trans (hb.mono HBW.out.size)⟩
        have HRP5 := Fact.mk (row_move HRP.out hb)
        have HRA5 := Fact.mk (row_move HRA.out hb)
        have HRH5 := Fact.mk (row_move HRH.out hb)
        clear ho hb HBW HRP HRA HRH q0 q1 q2 q3 q3y f0 f1 f2 f3
        go_wp2_with (first
          | (go_at_call 53; fail)
          | (refine wpList_load_row rfl 87 (.tmp 4) rfl (w.heap.size + 1) rfl 87 (ackC false k) (0, 0) _ ?_ Try.underlying87 rfl (ack_i _ _) ?_; (with_reducible exact HRA5.out)))
        refine (Ack_calls w5 false k HKB.out (⟨fun h => (by cases h), fun h => absurd h HKN.out⟩)).mono ?_
        rintro e w6 ⟨A6, c6, rfl, ho, hb⟩
        have HLA6 := Fact.mk (Lv.out ho.out)
        have HLP6 := Fact.mk (HLP5.out.move hb)
        have HB6 : Fact (Below w.heap.size w w6) := ⟨HB5.out.trans (hb.mono HB5.out.size)⟩
        have HRP6 := Fact.mk (row_move HRP5.out hb)
        have HRA6 := Fact.mk (row_move HRA5.out hb)
        have HRH6 := Fact.mk (row_move HRH5.out hb)
        clear ho hb HLP5 HB5 HRP5 HRA5 HRH5
        go_wp2_with (first
          | (go_at_call 54; fail)
          | (refine wpList_load_row rfl 91 (.tmp 5) rfl (w.heap.size + 1 + 1) rfl 91 hcs (0, 0) _ ?_ Try.underlying91 rfl HHI.out ?_; (with_reducible exact HRH6.out)))
        refine (Header_calls w6 h HK.out hcs HH.out).mono ?_
        rintro e w7 ⟨A7, c7, rfl, ho, hb⟩
        have HLH7 := Fact.mk (Lv.out ho.out)
        have HLP7 := Fact.mk (HLP6.out.move hb)
        have HLA7 := Fact.mk (HLA6.out.move hb)
        have HB7 : Fact (Below w.heap.size w w7) := ⟨HB6.out.trans (hb.mono HB6.out.size)⟩
        have HRP7 := Fact.mk (row_move HRP6.out hb)
        have HRA7 := Fact.mk (row_move HRA6.out hb)
        have HRH7 := Fact.mk (row_move HRH6.out hb)
        clear ho hb HLP6 HLA6 HB6 HRP6 HRA6 HRH6
        go_wp2_with (go_at_call 55; fail)
        refine (ReadPacket_calls w7 _ _ _ _ _ HLP7.out (fun _ h => h) (by have := HPL.out; omega)).mono ?_
        rintro e w8 ⟨rfl, hb⟩
        rw [back_pk HPOK.out]
        have HLP8 := Fact.mk (HLP7.out.move hb)
        have HLA8 := Fact.mk (HLA7.out.move hb)
        have HLH8 := Fact.mk (HLH7.out.move hb)
        have HB8 : Fact (Below w.heap.size w w8) := ⟨HB7.out.trans (hb.mono HB7.out.size)⟩
        have HRP8 := Fact.mk (row_move HRP7.out hb)
        have HRA8 := Fact.mk (row_move HRA7.out hb)
        have HRH8 := Fact.mk (row_move HRH7.out hb)
        have HN8 := Fact.mk (below_new w8 (pkC Pk.zero) (pkC p') 85)
        have HG8 : Fact ((w8.alloc (.cells (pkC Pk.zero) 85)).heap[w8.heap.size]? = some (.cells (pkC Pk.zero) 85)) := ⟨heap_new _ _⟩
        clear hb HLP7 HLA7 HLH7 HB7 HRP7 HRA7 HRH7
        go_wp2_with (first
          | (go_at_call 56; fail)
          | (refine wpList_ok rfl (exec_alloc rfl (alloc_pk _)) ?_)
          | (refine wpList_store_row rfl 85 (.tmp 12) (.tmp 67) rfl (w8.heap.size) (pkC p') rfl rfl 85 (pkC Pk.zero) ?_ (pk_i _) rfl (pk_one _) ?_; (exact HG8.out)))
        refine (ReadAck_calls _ _ _ _ _ _ (HLA8.out.move HN8.out) (fun _ h => h) (by have := ackL_len false k; omega)).mono ?_
        rintro e w9 ⟨rfl, hb⟩
        rw [back_ack (y := false) (c := k) HKB.out (⟨fun h => (by cases h), fun h => absurd h HKN.out⟩)]
        have HG9 := Fact.mk (row_move (row_new _ _ _ _) hb)
        have hb9 : Below w8.heap.size w8 w9 := HN8.out.trans (hb.mono HN8.out.size)
        have HLP9 := Fact.mk (HLP8.out.move hb9)
        have HLH9 := Fact.mk (HLH8.out.move hb9)
        have HB9 : Fact (Below w.heap.size w w9) := ⟨HB8.out.trans (hb9.mono HB8.out.size)⟩
        have HRP9 := Fact.mk (row_move HRP8.out hb9)
        have HRA9 := Fact.mk (row_move HRA8.out hb9)
        have HRH9 := Fact.mk (row_move HRH8.out hb9)
        have HN9 := Fact.mk (below_new w9 (ackC false 0) (ackC false k) 87)
        have HGA9 : Fact ((w9.alloc (.cells (ackC false 0) 87)).heap[w9.heap.size]? = some (.cells (ackC false 0) 87)) := ⟨heap_new _ _⟩
        clear hb hb9 HN8 HG8 HLP8 HLA8 HLH8 HB8 HRP8 HRA8 HRH8
        go_wp2_with (first
          | (go_at_call 57; fail)
          | (refine wpList_ok rfl (exec_alloc rfl (alloc_ack _)) ?_)
          | (refine wpList_store_row rfl 87 (.tmp 14) (.tmp 72) rfl (w9.heap.size) (ackC false k) rfl rfl 87 (ackC false 0) ?_ (ack_i _ _) rfl (ackC_one _ _) ?_; (exact HGA9.out)))
        refine (ReadHeader_calls _ _ _ _ _ _ (HLH9.out.move HN9.out) (fun _ h => h) (by have := hdL_len HK.out; omega)).mono ?_
        rintro e w10 ⟨⟨cs, rfl, hcs'⟩, hb⟩
        rw [back_hd HK.out] at hcs' ⊢
        obtain rfl : cs = hcs := by rw [← Array.toList_inj, hcs'.out, HH.out]
        have HG10 := Fact.mk (row_move (row_new _ _ _ _) hb)
        have hb10 : Below w9.heap.size w9 w10 := HN9.out.trans (hb.mono HN9.out.size)
        have HGP10 := Fact.mk (row_move HG9.out hb10)
        have HLP10 := Fact.mk (HLP9.out.move hb10)
        have HLH10 := Fact.mk (HLH9.out.move hb10)
        have HB10 : Fact (Below w.heap.size w w10) := ⟨HB9.out.trans (hb10.mono HB9.out.size)⟩
        have HRP10 := Fact.mk (row_move HRP9.out hb10)
        have HRA10 := Fact.mk (row_move HRA9.out hb10)
        have HRH10 := Fact.mk (row_move HRH9.out hb10)
        have HN10 := Fact.mk (below_new w10 zHdA cs 91)
        have HGH10 : Fact ((w10.alloc (.cells zHdA 91)).heap[w10.heap.size]? = some (.cells zHdA 91)) := ⟨heap_new _ _⟩
        have HX3 := Fact.mk (row_move HRP10.out HN10.out)
        have HX4 := Fact.mk (row_move HRA10.out HN10.out)
        have HX5 := Fact.mk (row_move HRH10.out HN10.out)
        have HX12 := Fact.mk (row_move HGP10.out HN10.out)
        have HX14 := Fact.mk (row_move HG10.out HN10.out)
        have HX16 := Fact.mk (row_new w10 zHdA cs 91)
        have e1 := eq_pk HPOK.out
        have e2 := eq_ack false k HKB.out
        have e3 := eq_hd HK.out HH.out
        have HONE := Fact.mk (hd_one HH.out)
        have HSZ : Fact (zHdA.size = cs.size) := ⟨by have h1 := hdC_len HK.out; rw [← HH.out, Array.length_toList] at h1; rw [h1]; unfold zHdA; rw [List.size_toArray]; exact zHd_len⟩
        clear hb hb10 hcs' HN9 HGA9 HLP9 HLH9 HB9 HRP9 HRA9 HRH9 HG9
        go_wp2_with (first
          | (go_at_call 20; fail)
          | (refine wpList_ok rfl (exec_alloc rfl (alloc_hd _)) ?_)
          | (refine wpList_store_row rfl 91 (.tmp 16) (.tmp 77) rfl (w10.heap.size) cs rfl rfl 91 zHdA ?_ HHI.out HSZ.out HONE.out ?_; (exact HGH10.out))
          | (refine wpList_okG rfl (exec_loadR (ty := 85) (x := .tmp 3) rfl (g := w.heap.size) rfl (t := 85) (cs := (pkC p')) (fr := (0, 0)) HX3.out Try.underlying85 rfl (pk_i _)) ?_)
          | (refine wpList_okG rfl (exec_loadR (ty := 85) (x := .tmp 12) rfl (g := w8.heap.size) rfl (t := 85) (cs := (pkC p')) (fr := (0, 0)) HX12.out Try.underlying85 rfl (pk_i _)) ?_)
          | (refine wpList_okG rfl (exec_loadR (ty := 87) (x := .tmp 4) rfl (g := w.heap.size + 1) rfl (t := 87) (cs := (ackC false k)) (fr := (0, 0)) HX4.out Try.underlying87 rfl (ack_i _ _)) ?_)
          | (refine wpList_okG rfl (exec_loadR (ty := 87) (x := .tmp 14) rfl (g := w9.heap.size) rfl (t := 87) (cs := (ackC false k)) (fr := (0, 0)) HX14.out Try.underlying87 rfl (ack_i _ _)) ?_)
          | (refine wpList_okG rfl (exec_loadR (ty := 91) (x := .tmp 5) rfl (g := w.heap.size + 1 + 1) rfl (t := 91) (cs := cs) (fr := (0, 0)) HX5.out Try.underlying91 rfl HHI.out) ?_)
          | (refine wpList_okG rfl (exec_loadR (ty := 91) (x := .tmp 16) rfl (g := w10.heap.size) rfl (t := 91) (cs := cs) (fr := (0, 0)) HX16.out Try.underlying91 rfl HHI.out) ?_))
        refine (Put_calls' _ _ _ _ _ (pkL p') 9 9 _ 1 1 [1] rfl ((HLP10.out.move HN10.out).move (below_one _ _)) (lv_oneAt _ (by simp)) (fun _ h => h) (by have := HPL.out; omega)).mono ?_
        rintro e w13 ⟨A13, c13, rfl, ho, hb⟩
        have hb13 : Below w10.heap.size w10 w13 := thru HN10.out (below_lit hb)
        have HLQ13 := Fact.mk (Lv.ow ho.out)
        have HLH13 := Fact.mk (HLH10.out.move hb13)
        have HB13 : Fact (Below w.heap.size w w13) := ⟨HB10.out.trans (hb13.mono HB10.out.size)⟩
        clear hb hb13 ho HN10 HGH10 HX3 HX4 HX5 HX12 HX14 HX16 e1 e2 e3 HONE HLP10 HLH10 HB10 HGP10 HG10 HRP10 HRA10 HRH10 HSZ
        go_wp2_with (go_at_call 55; fail)
        refine (ReadPacket_calls w13 _ _ _ _ _ HLQ13.out (fun _ h => h) (by have h1 := putL_len (pkL p') 9 [1]; have := HPL.out; simp only [List.length_cons, List.length_nil] at h1; omega)).mono ?_
        rintro e w14 ⟨rfl, hb⟩
        rw [more_pk HPOK.out]
        obtain ⟨q, hq⟩ : ∃ q, (readPk (putL (pkL p') 9 [1])).1 = q := ⟨_, rfl⟩
        rw [hq]
        have HLH14 := Fact.mk (HLH13.out.move hb)
        have HB14 : Fact (Below w.heap.size w w14) := ⟨HB13.out.trans (hb.mono HB13.out.size)⟩
        have HN14 := Fact.mk (below_new w14 (pkC Pk.zero) (pkC q) 85)
        have HG14 : Fact ((w14.alloc (.cells (pkC Pk.zero) 85)).heap[w14.heap.size]? = some (.cells (pkC Pk.zero) 85)) := ⟨heap_new _ _⟩
        clear hb hq HLQ13 HLH13 HB13
        go_wp2_with (first
          | (go_at_call 20; fail)
          | (refine wpList_ok rfl (exec_alloc rfl (alloc_pk _)) ?_)
          | (refine wpList_store_row rfl 85 (.tmp 20) (.tmp 121) rfl (w14.heap.size) (pkC q) rfl rfl 85 (pkC Pk.zero) ?_ (pk_i _) rfl (pk_one _) ?_; (exact HG14.out)))
        refine (Put_calls' _ _ _ _ _ (hdL h) 9 9 _ 1 1 [1] rfl ((HLH14.out.move HN14.out).move (below_one _ _)) (lv_oneAt _ (by simp)) (fun _ h => h) (by have := hdL_len HK.out; omega)).mono ?_
        rintro e w15 ⟨A15, c15, rfl, ho, hb⟩
        have hb15 : Below w14.heap.size w14 w15 := thru HN14.out (below_lit hb)
        have HLQ15 := Fact.mk (Lv.ow ho.out)
        have HB15 : Fact (Below w.heap.size w w15) := ⟨HB14.out.trans (hb15.mono HB14.out.size)⟩
        clear hb hb15 ho HN14 HG14 HLH14 HB14
        go_wp2_with (go_at_call 57; fail)
        refine (ReadHeader_calls w15 _ _ _ _ _ HLQ15.out (fun _ h => h) (by have h1 := putL_len (hdL h) 9 [1]; have := hdL_len HK.out; simp only [List.length_cons, List.length_nil] at h1; omega)).mono ?_
        rintro e w16 ⟨⟨cs2, rfl, hcs2⟩, hb⟩
        rw [readHd_bad (by rw [more_hd HK.out]; decide)] at hcs2
        obtain rfl : cs2 = zHdA := by rw [← Array.toList_inj, hcs2.out]; unfold zHdA; rw [← zHd_eq]
        rw [more_hd HK.out]
        have HB16 : Fact (Below w.heap.size w w16) := ⟨HB15.out.trans (hb.mono HB15.out.size)⟩
        have HG16 : Fact ((w16.alloc (.cells zHdA 91)).heap[w16.heap.size]? = some (.cells zHdA 91)) := ⟨heap_new _ _⟩
        have HIZ := Fact.mk (hd_i (show zHdA.size = 130 by unfold zHdA; rw [List.size_toArray]; exact zHd_len))
        clear hb hcs2 HLQ15 HB15
        go_wp2_with (first
          | (go_at_call 20; fail)
          | (refine wpList_ok rfl (exec_alloc rfl (alloc_hd _)) ?_)
          | (refine wpList_store_row rfl 91 (.tmp 22) (.tmp 132) rfl (w16.heap.size) zHdA rfl rfl 91 zHdA ?_ HIZ.out rfl zHd_one ?_; (exact HG16.out)))
        go_ret
        exact ⟨rfl, HB16.out.trans ((below_new w16 zHdA zHdA 91).mono HB16.out.size)⟩
end Go.Proofs.Ytjjcjdefenbnjaa.LawPBack
