/- ParcelOne: for every input the law answers true; what was in memory before is as it was. -/
import Derived.Test.YtjjcjdefenbnjaaTurned
import Derived.Test.YtjjcjdefenbnjaaLibB
set_option linter.unusedVariables false
set_option linter.unusedSimpArgs false
namespace Go.Proofs.Ytjjcjdefenbnjaa.LawPOne
open Go.RowKit Go.Proofs.Ytjjcjdefenbnjaa.Lib Go.Proofs.Ytjjcjdefenbnjaa.LibB Go.Proofs.Ytjjcjdefenbnjaa.Reg Go.Proofs.Ytjjcjdefenbnjaa.TlvA Go.Proofs.Ytjjcjdefenbnjaa.TlvC Go.Proofs.Ytjjcjdefenbnjaa.TlvF Go.Proofs.Ytjjcjdefenbnjaa.TlvI Go.Proofs.Ytjjcjdefenbnjaa.LawNums Go.Proofs.Ytjjcjdefenbnjaa.PlainP Go.Proofs.Ytjjcjdefenbnjaa.LawOne Go.Proofs.Ytjjcjdefenbnjaa.DenomA Go.Proofs.Ytjjcjdefenbnjaa.ParcelA Go.Proofs.Ytjjcjdefenbnjaa.ParcelB Go.Proofs.Ytjjcjdefenbnjaa.ParcelC Go.Proofs.Ytjjcjdefenbnjaa.ParcelD Go.Proofs.Ytjjcjdefenbnjaa.ParcelE Go.Proofs.Ytjjcjdefenbnjaa.ParcelF Go.Proofs.Ytjjcjdefenbnjaa.ParcelK Go.Proofs.Ytjjcjdefenbnjaa.OpenP Go.Proofs.Ytjjcjdefenbnjaa.ParcelL Go.Proofs.Ytjjcjdefenbnjaa.ParcelM Go.Proofs.Ytjjcjdefenbnjaa.Turned
theorem Packet_any (w : World) (ch : Int) (p : Pk) (hs : Sized p) (hl : longP p = false) : Calls Try.prog 52 #[.agg (pkA ch p)] w fun e w' => ∃ A n c x k, e = .returned (.tuple #[.slice A n c, .int .i64 k]) ∧ Fact (Lv w' A c x) ∧ Fact (x.length = n ∧ n ≤ 3100) ∧ Below w.heap.size w w' := by
  by_cases hc : ch < 0 ∨ 4 ≤ ch
  · refine (Packet_bad w p ch hc).mono ?_
    rintro e w' h
    obtain ⟨he, hb⟩ := h
    exact ⟨none, 0, 0, [], _, he, ⟨Sl.nil _ _ _ _ _ (by decide)⟩, ⟨rfl, by decide⟩, hb⟩
  · obtain ⟨c4, rfl⟩ : ∃ c4 : Nat, ch = (c4 : Int) := ⟨ch.toNat, by omega⟩
    have hl' := hl
    unfold longP at hl'
    simp at hl'
    have hok : (⟨c4, p.seq, p.tmo, p.den, p.amt, p.frm, p.to⟩ : Pk).ok := ⟨by show c4 < 4; omega, hs.seq, hs.tmo, hs.amt, by show p.den.length ≤ 65535; omega, by show p.frm.length ≤ 65535; omega, by show p.to.length ≤ 65535; omega⟩
    refine (Packet_calls w ⟨c4, p.seq, p.tmo, p.den, p.amt, p.frm, p.to⟩ hok).mono ?_
    rintro e w' ⟨A, c, rfl, ho, hb⟩
    have h1 := pkL_len ⟨c4, p.seq, p.tmo, p.den, p.amt, p.frm, p.to⟩
    simp only at h1
    exact ⟨A, _, c, _, 0, rfl, ⟨Lv.out ho.out⟩, ⟨rfl, by omega⟩, hb⟩
theorem zero_ok : Hd.zero.ok := by constructor <;> decide
theorem readHd_ok (v : List UInt8) : (readHd v).1.ok := by
  by_cases h : (readHd v).2 = 0
  · exact (one_hd h).1
  · rw [readHd_bad h]; exact zero_ok
set_option maxHeartbeats 40000000 in
set_option maxRecDepth 100000 in
theorem ParcelOne_calls (w : World) (F : Nat → Prop) (hF : ∀ k, F k → k < w.heap.size) (A : Option Addr) (n c : Nat) (l : List UInt8) (h : Sl rU8 w F A n c l) (ch : Int) (p : Pk) (hs : Sized p) (A1 : Option Addr) (n1 c1 : Nat) (xs : List Int64) (h1 : Sl rI64 w F A1 n1 c1 xs) (A2 : Option Addr) (n2 c2 : Nat) (bs : List UInt8) (h2 : Sl rU8 w F A2 n2 c2 bs) :
    Calls Try.prog 18 #[.slice A n c, .agg (pkA ch p), .slice A1 n1 c1, .slice A2 n2 c2] w fun e w' => e = .returned (.bool true) ∧ Below w.heap.size w w' := by
  have HF := Fact.mk hF
  have HA := Fact.mk h
  have H1 := Fact.mk h1
  have H2 := Fact.mk h2
  have HS := Fact.mk hs
  have HI85 := Fact.mk (show (Try.prog.info? 85).map (·.size) = some (pkA ch p).size by rw [show (pkA ch p).size = 7 from rfl]; kernel_rfl)
  clear h h1 h2 hF hs
  by_cases hn : n ≤ 1000
  · have d1 : decide (1000 < n) = false := by simp; omega
    have d1' : decide ((1000 : Int) < n) = false := by simp; omega
    have HN := Fact.mk hn
    clear hn
    go_enter Try.func18, Try.ntmps18
    go_wp2_with (go_at_call 50; fail)
    refine (Awake_calls _).mono ?_
    rintro e w3 ⟨rfl, hb⟩
    have HB3 : Fact (Below w.heap.size w w3) := ⟨((Below.refl _ _).alloc (Nat.le_refl _) (.cells (pkA ch p) 85)).trans (hb.mono (by simp))⟩
    have HR0 : Fact (w3.heap[w.heap.size]? = some (.cells (pkA ch p) 85)) := ⟨by rw [hb.block _ (by simp)]; exact heap_new _ _⟩
    clear hb
    go_wp2_with (first
      | (go_at_call 51; fail)
      | (refine wpList_okG rfl (exec_loadR rfl rfl HR0.out Try.underlying85 rfl HI85.out) ?_))
    refine (long_calls w3 ch p HS.out).mono ?_
    rintro e w4 ⟨rfl, hb⟩
    have HB4 : Fact (Below w.heap.size w w4) := ⟨HB3.out.trans (hb.mono HB3.out.size)⟩
    have HR4 : Fact (w4.heap[w.heap.size]? = some (.cells (pkA ch p) 85)) := ⟨row_move HR0.out hb⟩
    clear hb HR0 HB3
    by_cases hl : longP p = true
    · rw [hl]
      go_wp2_with fail
      go_ret
      exact ⟨rfl, HB4.out⟩
    · have hl' : longP p = false := by simpa using hl
      rw [hl']
      have HLP := Fact.mk hl'
      clear hl hl'
      go_wp2_with (first
        | (go_at_call 52; fail)
        | (refine wpList_load_row rfl 85 (.tmp 5) rfl w.heap.size rfl 85 (pkA ch p) (0, 0) _ HR4.out Try.underlying85 rfl HI85.out ?_))
      refine (Packet_any w4 ch p HS.out HLP.out).mono ?_
      rintro e w5 ⟨A5, n5, c5, x5, k5, rfl, hL5, hN5, hb⟩
      have HL5 : Fact (Sl rU8 w5 (fun k => k < w5.heap.size) A5 n5 c5 x5) := ⟨by have h1 := hL5.out; have h2 := hN5.out.1; subst h2; exact h1⟩
      have HN5 := Fact.mk hN5.out.2
      have HB5 : Fact (Below w.heap.size w w5) := ⟨HB4.out.trans (hb.mono HB4.out.size)⟩
      clear hb HR4 HB4 hL5 hN5
      go_wp2_with (go_at_call 58; fail)
      refine (Turned_calls w5 (fun k => k < w5.heap.size) (fun _ h => h) A5 n5 c5 x5 HL5.out A1 n1 c1 xs ((H1.out.move (Same.of_below HB5.out HF.out)).mono (fun k hk => Nat.lt_of_lt_of_le (HF.out k hk) HB5.out.size)) A2 n2 c2 bs ((H2.out.move (Same.of_below HB5.out HF.out)).mono (fun k hk => Nat.lt_of_lt_of_le (HF.out k hk) HB5.out.size)) (Nat.le_trans HN5.out (by decide))).mono ?_
      rintro e w6 ⟨A6, m6, c6, l6, rfl, hm6, hR6, hb⟩
      have HM6 : Fact (m6 ≤ 3100) := ⟨Nat.le_trans hm6.out HN5.out⟩
      have HB6 : Fact (Below w.heap.size w w6) := ⟨HB5.out.trans (hb.mono HB5.out.size)⟩
      have HS6 : Fact (Sl rU8 w6 (fun k => k < w6.heap.size) A6 m6 c6 l6) := ⟨hR6.out.sl.mono (fun k hk => hk.2)⟩
      have HA6 : Fact (Sl rU8 w6 (fun k => k < w6.heap.size) A n c l) := ⟨(HA.out.move (Same.of_below HB6.out HF.out)).mono (fun k hk => Nat.lt_of_lt_of_le (HF.out k hk) HB6.out.size)⟩
      clear hb hm6 hR6 HB5 HL5
      go_wp2_with fail
      have HBX : Fact (Below w6.heap.size w6 (w6.alloc (.cells #[.slice A n c, .slice A6 m6 c6] 22))) := ⟨(Below.refl _ _).alloc (Nat.le_refl _) _⟩
      have HZ : Fact (Sl (Rep.slice rU8) (w6.alloc (.cells #[.slice A n c, .slice A6 m6 c6] 22)) (fun k => k < w6.heap.size + 1) (some ⟨w6.heap.size, 0, none⟩) 2 2 [l, l6]) := ⟨by
        have hm : Same (fun k => k < w6.heap.size) w6 (w6.alloc (.cells #[.slice A n c, .slice A6 m6 c6] 22)) := Same.of_below HBX.out (fun _ h => h)
        refine (Sl.box (F := fun k => k < w6.heap.size) (xs := [l, l6]) w6 22 (sl_cons (HA6.out.move hm) (sl_cons (HS6.out.move hm) (Els.nil _ _ _))) (by simp)).mono ?_
        rintro k (hk | rfl)
        · exact Nat.lt_succ_of_lt hk
        · exact Nat.lt_succ_self _⟩
      have HLS : Fact (∀ x ∈ [l, l6], x.length ≤ 4000) := ⟨by
        have e1 := HA6.out.len
        have e2 := HS6.out.len
        have e3 := HN.out
        have e4 := HM6.out
        intro x hx
        simp only [List.mem_cons, List.not_mem_nil, or_false] at hx
        rcases hx with rfl | rfl <;> omega⟩
      have HB7 : Fact (Below w.heap.size w (w6.alloc (.cells #[.slice A n c, .slice A6 m6 c6] 22))) := ⟨HB6.out.trans (HBX.out.mono HB6.out.size)⟩
      generalize hw7 : w6.alloc (.cells #[.slice A n c, .slice A6 m6 c6] 22) = w7 at HZ HB7 ⊢
      generalize hg6 : w6.heap.size = g6 at HZ ⊢
      have HG6 : Fact (w7.heap.size = g6 + 1) := ⟨by rw [← hw7, ← hg6]; simp⟩
      clear hw7 hg6 HBX HA6 HS6 HB6
      generalize [l, l6] = zs at HZ HLS
      go_loopg [44] 2 (fun kq i wr => ∃ k : Nat, i = .int .i64 (k : Int) ∧ Fact (k + kq = 2) ∧ Fact (Below w7.heap.size w7 wr))
      case atStart => exact ⟨0, rfl, ⟨rfl⟩, ⟨Below.refl _ _⟩⟩
      case round =>
        obtain ⟨k, rfl, HK, HB⟩ := hrel
        by_cases hk2 : k < 2
        · have HK2 := Fact.mk hk2
          have i2 : (k : Int) < 2 := by omega
          obtain ⟨v, hv⟩ : ∃ v, zs[k]? = some v := ⟨_, List.getElem?_eq_getElem (by rw [HZ.out.len]; exact hk2)⟩
          obtain ⟨adz, cz, hez, hfz, hkz, hcz⟩ := HZ.out.at_ hv
          obtain ⟨Av, cv, hcs, hsv⟩ := hkz
          subst hcs
          injection hez with hez
          subst hez
          have hc1 : wr.cell? ⟨g6, k, none⟩ = some (.slice Av v.length cv) := by
            have h0 := hcz 0 _ rfl
            have ha : (⟨g6, 0, none⟩ : Addr).add (k * (Rep.slice rU8).sz + 0) = ⟨g6, k, none⟩ := by rw [add_plain']; congr 1; exact Nat.mul_one k
            rw [ha] at h0
            exact (HB.out.cell (p := ⟨g6, k, none⟩) (by have := HG6.out; show g6 < w7.heap.size; omega)).trans h0
          have hVL : v.length ≤ 4000 := HLS.out v (List.mem_of_getElem? hv)
          have HSv : Fact (Lv wr Av cv v) := ⟨(hsv.move (Same.of_below HB.out (fun k hk => by have := HG6.out; omega))).mono (fun k hk => by have := HG6.out; have := HB.out.size; omega)⟩
          obtain ⟨nv, hnv⟩ : ∃ nv, v.length = nv := ⟨_, rfl⟩
          have HSS : Fact (Sl rU8 wr (fun k => k < wr.heap.size) Av nv cv v) := ⟨by rw [← hnv]; exact HSv.out⟩
          rw [hnv] at hc1 hVL
          have HNV : Fact (nv ≤ 4000) := ⟨hVL⟩
          clear hk2 hv hcz hsv hfz hVL hnv HSv
          go_wp2_with (go_at_call 55; fail)
          refine (ReadPacket_calls _ _ Av nv cv v HSS.out (fun _ h => h) (by have := HNV.out; omega)).mono ?_
          rintro e wA ⟨rfl, hb⟩
          have HBa : Fact (Below w7.heap.size w7 wA) := ⟨HB.out.trans (hb.mono HB.out.size)⟩
          have HSa : Fact (Sl rU8 wA (fun k => k < wA.heap.size) Av nv cv v) := ⟨(HSS.out.move (Same.of_below hb (fun _ h => h))).mono (fun k hk => Nat.lt_of_lt_of_le hk hb.size)⟩
          have hone : (readPk v).2 = 0 → (readPk v).1.ok ∧ pkL (readPk v).1 = v := one_pk
          obtain ⟨q, er, hq⟩ : ∃ q er, readPk v = (q, er) := ⟨_, _, rfl⟩
          rw [hq] at hone ⊢
          have HONE := Fact.mk hone
          have HBN := Fact.mk (below_new wA (pkC Pk.zero) (pkC q) 85)
          have HRN : Fact (((wA.alloc (.cells (pkC Pk.zero) 85)).setRow wA.heap.size (pkC q)).heap[wA.heap.size]? = some (.cells (pkC q) 85 (0, 0))) := ⟨row_new wA _ _ _⟩
          clear hb hone hq HB HSS
          by_cases he : er = 0
          · subst he
            obtain ⟨hok, hpl⟩ := HONE.out rfl
            have HOK := Fact.mk hok
            have HPL := Fact.mk hpl
            clear hok hpl HONE
            have e0 : ((0 : Int) == 0) = true := rfl
            go_wp2_with (first
              | (refine wpList_ok rfl (exec_alloc rfl (alloc_pk _)) ?_)
              | (refine wpList_store_row rfl 85 (.tmp 13) (.tmp 51) rfl wA.heap.size (pkC q) rfl rfl 85 (pkC Pk.zero) (heap_new _ _) (ParcelM.pk_i _) rfl (pk_one _) ?_; generalize hwn : (wA.alloc (.cells (pkC Pk.zero) 85)).setRow wA.heap.size (pkC q) = wN at HBN HRN ⊢; clear hwn)
              | (go_at_call 52; fail)
              | (refine wpList_load_row rfl 85 (.tmp 13) rfl wA.heap.size rfl 85 (pkC q) (0, 0) _ HRN.out Try.underlying85 rfl (ParcelM.pk_i _) ?_))
            refine (Packet_calls _ q HOK.out).mono ?_
            rintro e wB ⟨Ab, cb, rfl, ho, hb⟩
            have HLb := Fact.mk (Lv.out ho.out)
            rw [HPL.out] at HLb ⊢
            have HBb : Fact (Below w7.heap.size w7 wB) := ⟨(HBa.out.trans (HBN.out.mono HBa.out.size)).trans (hb.mono (Nat.le_trans HBa.out.size HBN.out.size))⟩
            have HSb : Fact (Sl rU8 wB (fun k => k < wB.heap.size) Av nv cv v) := ⟨(((HSa.out.move (Same.of_below HBN.out (fun _ h => h))).mono (fun k hk => Nat.lt_of_lt_of_le hk HBN.out.size)).move (Same.of_below hb (fun _ h => h))).mono (fun k hk => Nat.lt_of_lt_of_le hk hb.size)⟩
            have K1 := run_str (P := Try.prog) 22 5 9 Try.underlying22 Try.underlying5 Try.underlying9 HLb.out
            have K2 := run_str (P := Try.prog) 22 5 9 Try.underlying22 Try.underlying5 Try.underlying9 HSb.out
            have hvn : v.length = nv := HSb.out.len
            rw [hvn] at K1 ⊢
            clear ho hb HBa HSa HBN HRN HPL HOK hvn HLb
            go_wp2_with (go_at_call 56; fail)
            clear K1 K2
            refine (ReadAck_calls _ _ Av nv cv v HSb.out (fun _ h => h) (by have := HNV.out; omega)).mono ?_
            rintro e wC ⟨rfl, hb⟩
            have HBc : Fact (Below w7.heap.size w7 wC) := ⟨HBb.out.trans (hb.mono HBb.out.size)⟩
            have HSc : Fact (Sl rU8 wC (fun k => k < wC.heap.size) Av nv cv v) := ⟨(HSb.out.move (Same.of_below hb (fun _ h => h))).mono (fun k hk => Nat.lt_of_lt_of_le hk hb.size)⟩
            have hone2 : (readAck v).2.2 = 0 → (readAck v).2.1 ≤ 2147483648 ∧ ((readAck v).1 = true ↔ (readAck v).2.1 = 0) ∧ ackL (readAck v).1 (readAck v).2.1 = v := one_ack
            obtain ⟨y, kk, er2, hq⟩ : ∃ y kk er2, readAck v = (y, kk, er2) := ⟨_, _, _, rfl⟩
            rw [hq] at hone2 ⊢
            simp only at hone2 ⊢
            have HONE2 := Fact.mk hone2
            have HBN2 := Fact.mk (below_new wC (ackC false 0) (ackC y kk) 87)
            have HRN2 : Fact (((wC.alloc (.cells (ackC false 0) 87)).setRow wC.heap.size (ackC y kk)).heap[wC.heap.size]? = some (.cells (ackC y kk) 87 (0, 0))) := ⟨row_new wC _ _ _⟩
            clear hb hone2 hq HBb HSb
            by_cases he2 : er2 = 0
            · subst he2
              obtain ⟨hk31, hyk, hal⟩ := HONE2.out rfl
              have HK31 := Fact.mk hk31
              have HYK := fun (_ : Unit) => hyk
              have HAL := Fact.mk hal
              have HYF := Fact.mk hyk
              clear hk31 hyk hal HONE2 HYK
              have e20 : ((0 : Int) == 0) = true := rfl
              go_wp2_with (first
                | (refine wpList_ok rfl (exec_alloc rfl (alloc_ack _)) ?_)
                | (refine wpList_store_row rfl 87 (.tmp 17) (.tmp 72) rfl wC.heap.size (ackC y kk) rfl rfl 87 (ackC false 0) (heap_new _ _) (ack_i _ _) rfl (ackC_one _ _) ?_; generalize hwn : (wC.alloc (.cells (ackC false 0) 87)).setRow wC.heap.size (ackC y kk) = wN2 at HBN2 HRN2 ⊢; clear hwn)
                | (go_at_call 53; fail)
                | (refine wpList_load_row rfl 87 (.tmp 17) rfl wC.heap.size rfl 87 (ackC y kk) (0, 0) _ HRN2.out Try.underlying87 rfl (ack_i _ _) ?_))
              refine (Ack_calls _ y kk HK31.out HYF.out).mono ?_
              rintro e wD ⟨Ab, cb, rfl, ho, hb⟩
              have HLb := Fact.mk (Lv.out ho.out)
              rw [HAL.out] at HLb ⊢
              have HBd : Fact (Below w7.heap.size w7 wD) := ⟨(HBc.out.trans (HBN2.out.mono HBc.out.size)).trans (hb.mono (Nat.le_trans HBc.out.size HBN2.out.size))⟩
              have HSd : Fact (Sl rU8 wD (fun k => k < wD.heap.size) Av nv cv v) := ⟨(((HSc.out.move (Same.of_below HBN2.out (fun _ h => h))).mono (fun k hk => Nat.lt_of_lt_of_le hk HBN2.out.size)).move (Same.of_below hb (fun _ h => h))).mono (fun k hk => Nat.lt_of_lt_of_le hk hb.size)⟩
              have K1 := run_str (P := Try.prog) 22 5 9 Try.underlying22 Try.underlying5 Try.underlying9 HLb.out
              have K2 := run_str (P := Try.prog) 22 5 9 Try.underlying22 Try.underlying5 Try.underlying9 HSd.out
              have hvn : v.length = nv := HSd.out.len
              rw [hvn] at K1 ⊢
              clear ho hb HBc HSc HBN2 HRN2 HAL HK31 HYF hvn HLb
              go_wp2_with (go_at_call 57; fail)
              clear K1 K2
              refine (ReadHeader_calls _ _ Av nv cv v HSd.out (fun _ h => h) (by have := HNV.out; omega)).mono ?_
              rintro e wE ⟨⟨cs, rfl, hcs⟩, hb⟩
              have HBe : Fact (Below w7.heap.size w7 wE) := ⟨HBd.out.trans (hb.mono HBd.out.size)⟩
              have HSe : Fact (Sl rU8 wE (fun k => k < wE.heap.size) Av nv cv v) := ⟨(HSd.out.move (Same.of_below hb (fun _ h => h))).mono (fun k hk => Nat.lt_of_lt_of_le hk hb.size)⟩
              have hone3 : (readHd v).2 = 0 → (readHd v).1.ok ∧ hdL (readHd v).1 = v := one_hd
              have hokh := readHd_ok v
              obtain ⟨hh, er3, hq⟩ : ∃ hh er3, readHd v = (hh, er3) := ⟨_, _, rfl⟩
              rw [hq] at hone3 hcs hokh ⊢
              simp only at hone3 hcs hokh ⊢
              have HONE3 := Fact.mk hone3
              have HCS := Fact.mk hcs.out
              have HSZ : Fact (cs.size = 130) := ⟨by rw [← Array.length_toList, hcs.out]; exact hdC_len hokh⟩
              have HI := Fact.mk (hd_i HSZ.out)
              have HZZ : Fact (zHdA.size = cs.size) := ⟨by rw [HSZ.out]; rfl⟩
              have HBN3 := Fact.mk (below_new wE zHdA cs 91)
              have HRN3 : Fact (((wE.alloc (.cells zHdA 91)).setRow wE.heap.size cs).heap[wE.heap.size]? = some (.cells cs 91 (0, 0))) := ⟨row_new wE _ _ _⟩
              clear hb hone3 hcs hokh hq HBd HSd
              have ec : er3 = 0 ∨ (er3 == 0) = false := by by_cases h : er3 = 0; exact .inl h; exact .inr (by simpa using h)
              go_wp2_with (first
                | (refine wpList_ok rfl (exec_alloc rfl (alloc_hd _)) ?_)
                | (refine wpList_store_row rfl 91 (.tmp 21) (.tmp 93) rfl wE.heap.size cs rfl rfl 91 zHdA (heap_new _ _) HI.out HZZ.out (hd_one HCS.out) ?_; generalize hwn : (wE.alloc (.cells zHdA 91)).setRow wE.heap.size cs = wN3 at HBN3 HRN3 ⊢; clear hwn))
              have HBx : Fact (Below w7.heap.size w7 wN3) := ⟨HBe.out.trans (HBN3.out.mono HBe.out.size)⟩
              have HSx : Fact (Sl rU8 wN3 (fun k => k < wN3.heap.size) Av nv cv v) := ⟨(HSe.out.move (Same.of_below HBN3.out (fun _ h => h))).mono (fun k hk => Nat.lt_of_lt_of_le hk HBN3.out.size)⟩
              rcases ec with he3 | he3
              · subst he3
                obtain ⟨hok3, hhl⟩ := HONE3.out rfl
                have HOK3 := Fact.mk hok3
                have HHL := Fact.mk hhl
                have KR : Fact (∀ W, Below wN3.heap.size wN3 W → W.heap[wE.heap.size]? = some (.cells cs 91 (0, 0))) := ⟨fun W hW => row_move HRN3.out hW⟩
                have KZ : Fact (∀ W, Below wN3.heap.size wN3 W → (convert 22 9 (.slice Av nv cv)).run Try.prog W = .ok (.string ⟨v.toArray⟩) W) := ⟨fun W hW => run_str _ _ _ Try.underlying22 Try.underlying5 Try.underlying9 (HSx.out.move (Same.of_below hW (fun _ h => h)))⟩
                have HNVL : Fact (v.length = nv) := ⟨HSx.out.len⟩
                clear hok3 hhl HBe HSe HBN3 HRN3 HONE3 HSx
                refine wp_region_S (fun W => Below wN3.heap.size wN3 W) [(0, true), (1, true), (2, true), (3, true), (6, true), (7, true), (4, false), (5, false), (8, true), (9, true)] (by kernel_rfl) (by kernel_rfl) (by kernel_rfl) rfl rfl (by intro c a d v w h; cases d <;> exact h) (Below.refl _ _).drew ?_
                simp only [pick, List.filterMap_cons, List.filterMap_nil, Option.map_some, List.getElem?_toArray, List.getElem?_cons_zero, List.getElem?_cons_succ]
                have HS5 : Fact (Below wN3.heap.size wN3 wN3.drew) := ⟨(Below.refl _ _).drew⟩
                generalize wN3.drew = wd at HS5 ⊢
                iterate 3
                  (apply seq_tell rfl
                   · intro w2 hS
                     go_simp
                     first | done | rfl
                   simp only [Act.put, List.setIfInBounds_toArray, List.set_cons_succ, List.set_cons_zero])
                apply seq_tellG rfl
                · intro w2 hS
                  exact exec_loadR rfl rfl (KR.out w2 hS) Try.underlying91 rfl HI.out
                simp only [Act.put, List.setIfInBounds_toArray, List.set_cons_succ, List.set_cons_zero]
                iterate 2
                  (apply seq_tellG rfl
                   · intro w2 hS
                     have K2 := KZ.out w2 hS
                     go_simp
                     first | done | rfl
                   simp only [Act.put, List.setIfInBounds_toArray, List.set_cons_succ, List.set_cons_zero])
                refine seq_callG (f := 54) (args := #[.agg cs]) rfl rfl Try.func54 (by kernel_rfl) rfl (by simp only [List.map_toArray, List.map_cons, List.map_nil]; rfl) ?_
                refine (Header_calls wd hh HOK3.out cs HCS.out).mono ?_
                rintro e wF ⟨Af, cf, rfl, ho, hb⟩
                have HSF : Fact (Below wN3.heap.size wN3 wF) := ⟨HS5.out.trans (hb.mono HS5.out.size)⟩
                have HLf := Fact.mk (Lv.out ho.out)
                rw [HHL.out] at HLf ⊢
                have KF : Fact (∀ W, W = wF → (convert 22 9 (.slice Af v.length cf)).run Try.prog W = .ok (.string ⟨v.toArray⟩) W) := ⟨fun W hW => by subst hW; exact run_str _ _ _ Try.underlying22 Try.underlying5 Try.underlying9 HLf.out⟩
                clear ho hb
                refine ⟨_, rfl, HSF.out, ?_⟩
                simp only [Act.put, List.setIfInBounds_toArray, List.set_cons_succ, List.set_cons_zero]
                apply seq_doG rfl
                · have K1 := KF.out wF rfl
                  go_simp
                  exact ⟨rfl, rfl⟩
                · exact HSF.out
                simp only [Act.put, List.setIfInBounds_toArray, List.set_cons_succ, List.set_cons_zero]
                apply seq_tellG rfl
                · intro w2 hS
                  go_simp
                  first | done | rfl
                simp only [Act.put, List.setIfInBounds_toArray, List.set_cons_succ, List.set_cons_zero]
                apply seq_tell rfl
                · intro w2 hS
                  go_simp
                  first | done | rfl
                simp only [Act.put, List.setIfInBounds_toArray, List.set_cons_succ, List.set_cons_zero]
                unfold wpSeqS
                go_wp2_with fail
                go_roundg (2 - (k + 1))
                case measure => have := HK.out; have := HK2.out; omega
                case rel => exact ⟨k + 1, by go_num, ⟨by have := HK2.out; omega⟩, ⟨HBx.out.trans (HSF.out.mono HBx.out.size)⟩⟩
              · clear HONE3 HBe HSe HBN3 HRN3
                go_wp2_with fail
                go_quiet (fail)
                go_wp2_with fail
                go_roundg (2 - (k + 1))
                case measure => have := HK.out; have := HK2.out; omega
                case rel => exact ⟨k + 1, by go_num, ⟨by have := HK2.out; omega⟩, ⟨below_drewN' HBx.out _⟩⟩
            · have e20 : (er2 == 0) = false := by simpa using he2
              clear he2 HONE2
              go_wp2_with (first
                | (refine wpList_ok rfl (exec_alloc rfl (alloc_ack _)) ?_)
                | (refine wpList_store_row rfl 87 (.tmp 17) (.tmp 72) rfl wC.heap.size (ackC y kk) rfl rfl 87 (ackC false 0) (heap_new _ _) (ack_i _ _) rfl (ackC_one _ _) ?_; generalize hwn : (wC.alloc (.cells (ackC false 0) 87)).setRow wC.heap.size (ackC y kk) = wN2 at HBN2 HRN2 ⊢; clear hwn)
                | (go_at_call 57; fail))
              have HBd : Fact (Below w7.heap.size w7 wN2) := ⟨HBc.out.trans (HBN2.out.mono HBc.out.size)⟩
              have HSd : Fact (Sl rU8 wN2 (fun k => k < wN2.heap.size) Av nv cv v) := ⟨(HSc.out.move (Same.of_below HBN2.out (fun _ h => h))).mono (fun k hk => Nat.lt_of_lt_of_le hk HBN2.out.size)⟩
              clear HBc HSc HBN2 HRN2 e20
              refine (ReadHeader_calls _ _ Av nv cv v HSd.out (fun _ h => h) (by have := HNV.out; omega)).mono ?_
              rintro e wE ⟨⟨cs, rfl, hcs⟩, hb⟩
              have HBe : Fact (Below w7.heap.size w7 wE) := ⟨HBd.out.trans (hb.mono HBd.out.size)⟩
              have HSe : Fact (Sl rU8 wE (fun k => k < wE.heap.size) Av nv cv v) := ⟨(HSd.out.move (Same.of_below hb (fun _ h => h))).mono (fun k hk => Nat.lt_of_lt_of_le hk hb.size)⟩
              have hone3 : (readHd v).2 = 0 → (readHd v).1.ok ∧ hdL (readHd v).1 = v := one_hd
              have hokh := readHd_ok v
              obtain ⟨hh, er3, hq⟩ : ∃ hh er3, readHd v = (hh, er3) := ⟨_, _, rfl⟩
              rw [hq] at hone3 hcs hokh ⊢
              simp only at hone3 hcs hokh ⊢
              have HONE3 := Fact.mk hone3
              have HCS := Fact.mk hcs.out
              have HSZ : Fact (cs.size = 130) := ⟨by rw [← Array.length_toList, hcs.out]; exact hdC_len hokh⟩
              have HI := Fact.mk (hd_i HSZ.out)
              have HZZ : Fact (zHdA.size = cs.size) := ⟨by rw [HSZ.out]; rfl⟩
              have HBN3 := Fact.mk (below_new wE zHdA cs 91)
              have HRN3 : Fact (((wE.alloc (.cells zHdA 91)).setRow wE.heap.size cs).heap[wE.heap.size]? = some (.cells cs 91 (0, 0))) := ⟨row_new wE _ _ _⟩
              clear hb hone3 hcs hokh hq HBd HSd
              have ec : er3 = 0 ∨ (er3 == 0) = false := by by_cases h : er3 = 0; exact .inl h; exact .inr (by simpa using h)
              go_wp2_with (first
                | (refine wpList_ok rfl (exec_alloc rfl (alloc_hd _)) ?_)
                | (refine wpList_store_row rfl 91 (.tmp 21) (.tmp 93) rfl wE.heap.size cs rfl rfl 91 zHdA (heap_new _ _) HI.out HZZ.out (hd_one HCS.out) ?_; generalize hwn : (wE.alloc (.cells zHdA 91)).setRow wE.heap.size cs = wN3 at HBN3 HRN3 ⊢; clear hwn))
              have HBx : Fact (Below w7.heap.size w7 wN3) := ⟨HBe.out.trans (HBN3.out.mono HBe.out.size)⟩
              have HSx : Fact (Sl rU8 wN3 (fun k => k < wN3.heap.size) Av nv cv v) := ⟨(HSe.out.move (Same.of_below HBN3.out (fun _ h => h))).mono (fun k hk => Nat.lt_of_lt_of_le hk HBN3.out.size)⟩
              rcases ec with he3 | he3
              · subst he3
                obtain ⟨hok3, hhl⟩ := HONE3.out rfl
                have HOK3 := Fact.mk hok3
                have HHL := Fact.mk hhl
                have KR : Fact (∀ W, Below wN3.heap.size wN3 W → W.heap[wE.heap.size]? = some (.cells cs 91 (0, 0))) := ⟨fun W hW => row_move HRN3.out hW⟩
                have KZ : Fact (∀ W, Below wN3.heap.size wN3 W → (convert 22 9 (.slice Av nv cv)).run Try.prog W = .ok (.string ⟨v.toArray⟩) W) := ⟨fun W hW => run_str _ _ _ Try.underlying22 Try.underlying5 Try.underlying9 (HSx.out.move (Same.of_below hW (fun _ h => h)))⟩
                have HNVL : Fact (v.length = nv) := ⟨HSx.out.len⟩
                clear hok3 hhl HBe HSe HBN3 HRN3 HONE3 HSx
                refine wp_region_S (fun W => Below wN3.heap.size wN3 W) [(0, true), (1, true), (2, true), (3, true), (6, true), (7, true), (4, false), (5, false), (8, true), (9, true)] (by kernel_rfl) (by kernel_rfl) (by kernel_rfl) rfl rfl (by intro c a d v w h; cases d <;> exact h) (Below.refl _ _).drew ?_
                simp only [pick, List.filterMap_cons, List.filterMap_nil, Option.map_some, List.getElem?_toArray, List.getElem?_cons_zero, List.getElem?_cons_succ]
                have HS5 : Fact (Below wN3.heap.size wN3 wN3.drew) := ⟨(Below.refl _ _).drew⟩
                generalize wN3.drew = wd at HS5 ⊢
                iterate 3
                  (apply seq_tell rfl
                   · intro w2 hS
                     go_simp
                     first | done | rfl
                   simp only [Act.put, List.setIfInBounds_toArray, List.set_cons_succ, List.set_cons_zero])
                apply seq_tellG rfl
                · intro w2 hS
                  exact exec_loadR rfl rfl (KR.out w2 hS) Try.underlying91 rfl HI.out
                simp only [Act.put, List.setIfInBounds_toArray, List.set_cons_succ, List.set_cons_zero]
                iterate 2
                  (apply seq_tellG rfl
                   · intro w2 hS
                     have K2 := KZ.out w2 hS
                     go_simp
                     first | done | rfl
                   simp only [Act.put, List.setIfInBounds_toArray, List.set_cons_succ, List.set_cons_zero])
                refine seq_callG (f := 54) (args := #[.agg cs]) rfl rfl Try.func54 (by kernel_rfl) rfl (by simp only [List.map_toArray, List.map_cons, List.map_nil]; rfl) ?_
                refine (Header_calls wd hh HOK3.out cs HCS.out).mono ?_
                rintro e wF ⟨Af, cf, rfl, ho, hb⟩
                have HSF : Fact (Below wN3.heap.size wN3 wF) := ⟨HS5.out.trans (hb.mono HS5.out.size)⟩
                have HLf := Fact.mk (Lv.out ho.out)
                rw [HHL.out] at HLf ⊢
                have KF : Fact (∀ W, W = wF → (convert 22 9 (.slice Af v.length cf)).run Try.prog W = .ok (.string ⟨v.toArray⟩) W) := ⟨fun W hW => by subst hW; exact run_str _ _ _ Try.underlying22 Try.underlying5 Try.underlying9 HLf.out⟩
                clear ho hb
                refine ⟨_, rfl, HSF.out, ?_⟩
                simp only [Act.put, List.setIfInBounds_toArray, List.set_cons_succ, List.set_cons_zero]
                apply seq_doG rfl
                · have K1 := KF.out wF rfl
                  go_simp
                  exact ⟨rfl, rfl⟩
                · exact HSF.out
                simp only [Act.put, List.setIfInBounds_toArray, List.set_cons_succ, List.set_cons_zero]
                apply seq_tellG rfl
                · intro w2 hS
                  go_simp
                  first | done | rfl
                simp only [Act.put, List.setIfInBounds_toArray, List.set_cons_succ, List.set_cons_zero]
                apply seq_tell rfl
                · intro w2 hS
                  go_simp
                  first | done | rfl
                simp only [Act.put, List.setIfInBounds_toArray, List.set_cons_succ, List.set_cons_zero]
                unfold wpSeqS
                go_wp2_with fail
                go_roundg (2 - (k + 1))
                case measure => have := HK.out; have := HK2.out; omega
                case rel => exact ⟨k + 1, by go_num, ⟨by have := HK2.out; omega⟩, ⟨HBx.out.trans (HSF.out.mono HBx.out.size)⟩⟩
              · clear HONE3 HBe HSe HBN3 HRN3
                go_wp2_with fail
                go_quiet (fail)
                go_wp2_with fail
                go_roundg (2 - (k + 1))
                case measure => have := HK.out; have := HK2.out; omega
                case rel => exact ⟨k + 1, by go_num, ⟨by have := HK2.out; omega⟩, ⟨below_drewN' HBx.out _⟩⟩
          · have e0 : (er == 0) = false := by simpa using he
            clear he HONE
            go_wp2_with (first
              | (refine wpList_ok rfl (exec_alloc rfl (alloc_pk _)) ?_)
              | (refine wpList_store_row rfl 85 (.tmp 13) (.tmp 51) rfl wA.heap.size (pkC q) rfl rfl 85 (pkC Pk.zero) (heap_new _ _) (ParcelM.pk_i _) rfl (pk_one _) ?_; generalize hwn : (wA.alloc (.cells (pkC Pk.zero) 85)).setRow wA.heap.size (pkC q) = wN at HBN HRN ⊢; clear hwn)
              | (go_at_call 56; fail))
            have HBb : Fact (Below w7.heap.size w7 wN) := ⟨HBa.out.trans (HBN.out.mono HBa.out.size)⟩
            have HSb : Fact (Sl rU8 wN (fun k => k < wN.heap.size) Av nv cv v) := ⟨(HSa.out.move (Same.of_below HBN.out (fun _ h => h))).mono (fun k hk => Nat.lt_of_lt_of_le hk HBN.out.size)⟩
            clear HBa HSa HBN HRN e0
            refine (ReadAck_calls _ _ Av nv cv v HSb.out (fun _ h => h) (by have := HNV.out; omega)).mono ?_
            rintro e wC ⟨rfl, hb⟩
            have HBc : Fact (Below w7.heap.size w7 wC) := ⟨HBb.out.trans (hb.mono HBb.out.size)⟩
            have HSc : Fact (Sl rU8 wC (fun k => k < wC.heap.size) Av nv cv v) := ⟨(HSb.out.move (Same.of_below hb (fun _ h => h))).mono (fun k hk => Nat.lt_of_lt_of_le hk hb.size)⟩
            have hone2 : (readAck v).2.2 = 0 → (readAck v).2.1 ≤ 2147483648 ∧ ((readAck v).1 = true ↔ (readAck v).2.1 = 0) ∧ ackL (readAck v).1 (readAck v).2.1 = v := one_ack
            obtain ⟨y, kk, er2, hq⟩ : ∃ y kk er2, readAck v = (y, kk, er2) := ⟨_, _, _, rfl⟩
            rw [hq] at hone2 ⊢
            simp only at hone2 ⊢
            have HONE2 := Fact.mk hone2
            have HBN2 := Fact.mk (below_new wC (ackC false 0) (ackC y kk) 87)
            have HRN2 : Fact (((wC.alloc (.cells (ackC false 0) 87)).setRow wC.heap.size (ackC y kk)).heap[wC.heap.size]? = some (.cells (ackC y kk) 87 (0, 0))) := ⟨row_new wC _ _ _⟩
            clear hb hone2 hq HBb HSb
            by_cases he2 : er2 = 0
            · subst he2
              obtain ⟨hk31, hyk, hal⟩ := HONE2.out rfl
              have HK31 := Fact.mk hk31
              have HYK := fun (_ : Unit) => hyk
              have HAL := Fact.mk hal
              have HYF := Fact.mk hyk
              clear hk31 hyk hal HONE2 HYK
              have e20 : ((0 : Int) == 0) = true := rfl
              go_wp2_with (first
                | (refine wpList_ok rfl (exec_alloc rfl (alloc_ack _)) ?_)
                | (refine wpList_store_row rfl 87 (.tmp 17) (.tmp 72) rfl wC.heap.size (ackC y kk) rfl rfl 87 (ackC false 0) (heap_new _ _) (ack_i _ _) rfl (ackC_one _ _) ?_; generalize hwn : (wC.alloc (.cells (ackC false 0) 87)).setRow wC.heap.size (ackC y kk) = wN2 at HBN2 HRN2 ⊢; clear hwn)
                | (go_at_call 53; fail)
                | (refine wpList_load_row rfl 87 (.tmp 17) rfl wC.heap.size rfl 87 (ackC y kk) (0, 0) _ HRN2.out Try.underlying87 rfl (ack_i _ _) ?_))
              refine (Ack_calls _ y kk HK31.out HYF.out).mono ?_
              rintro e wD ⟨Ab, cb, rfl, ho, hb⟩
              have HLb := Fact.mk (Lv.out ho.out)
              rw [HAL.out] at HLb ⊢
              have HBd : Fact (Below w7.heap.size w7 wD) := ⟨(HBc.out.trans (HBN2.out.mono HBc.out.size)).trans (hb.mono (Nat.le_trans HBc.out.size HBN2.out.size))⟩
              have HSd : Fact (Sl rU8 wD (fun k => k < wD.heap.size) Av nv cv v) := ⟨(((HSc.out.move (Same.of_below HBN2.out (fun _ h => h))).mono (fun k hk => Nat.lt_of_lt_of_le hk HBN2.out.size)).move (Same.of_below hb (fun _ h => h))).mono (fun k hk => Nat.lt_of_lt_of_le hk hb.size)⟩
              have K1 := run_str (P := Try.prog) 22 5 9 Try.underlying22 Try.underlying5 Try.underlying9 HLb.out
              have K2 := run_str (P := Try.prog) 22 5 9 Try.underlying22 Try.underlying5 Try.underlying9 HSd.out
              have hvn : v.length = nv := HSd.out.len
              rw [hvn] at K1 ⊢
              clear ho hb HBc HSc HBN2 HRN2 HAL HK31 HYF hvn HLb
              go_wp2_with (go_at_call 57; fail)
              clear K1 K2
              refine (ReadHeader_calls _ _ Av nv cv v HSd.out (fun _ h => h) (by have := HNV.out; omega)).mono ?_
              rintro e wE ⟨⟨cs, rfl, hcs⟩, hb⟩
              have HBe : Fact (Below w7.heap.size w7 wE) := ⟨HBd.out.trans (hb.mono HBd.out.size)⟩
              have HSe : Fact (Sl rU8 wE (fun k => k < wE.heap.size) Av nv cv v) := ⟨(HSd.out.move (Same.of_below hb (fun _ h => h))).mono (fun k hk => Nat.lt_of_lt_of_le hk hb.size)⟩
              have hone3 : (readHd v).2 = 0 → (readHd v).1.ok ∧ hdL (readHd v).1 = v := one_hd
              have hokh := readHd_ok v
              obtain ⟨hh, er3, hq⟩ : ∃ hh er3, readHd v = (hh, er3) := ⟨_, _, rfl⟩
              rw [hq] at hone3 hcs hokh ⊢
              simp only at hone3 hcs hokh ⊢
              have HONE3 := Fact.mk hone3
              have HCS := Fact.mk hcs.out
              have HSZ : Fact (cs.size = 130) := ⟨by rw [← Array.length_toList, hcs.out]; exact hdC_len hokh⟩
              have HI := Fact.mk (hd_i HSZ.out)
              have HZZ : Fact (zHdA.size = cs.size) := ⟨by rw [HSZ.out]; rfl⟩
              have HBN3 := Fact.mk (below_new wE zHdA cs 91)
              have HRN3 : Fact (((wE.alloc (.cells zHdA 91)).setRow wE.heap.size cs).heap[wE.heap.size]? = some (.cells cs 91 (0, 0))) := ⟨row_new wE _ _ _⟩
              clear hb hone3 hcs hokh hq HBd HSd
              have ec : er3 = 0 ∨ (er3 == 0) = false := by by_cases h : er3 = 0; exact .inl h; exact .inr (by simpa using h)
              go_wp2_with (first
                | (refine wpList_ok rfl (exec_alloc rfl (alloc_hd _)) ?_)
                | (refine wpList_store_row rfl 91 (.tmp 21) (.tmp 93) rfl wE.heap.size cs rfl rfl 91 zHdA (heap_new _ _) HI.out HZZ.out (hd_one HCS.out) ?_; generalize hwn : (wE.alloc (.cells zHdA 91)).setRow wE.heap.size cs = wN3 at HBN3 HRN3 ⊢; clear hwn))
              have HBx : Fact (Below w7.heap.size w7 wN3) := ⟨HBe.out.trans (HBN3.out.mono HBe.out.size)⟩
              have HSx : Fact (Sl rU8 wN3 (fun k => k < wN3.heap.size) Av nv cv v) := ⟨(HSe.out.move (Same.of_below HBN3.out (fun _ h => h))).mono (fun k hk => Nat.lt_of_lt_of_le hk HBN3.out.size)⟩
              rcases ec with he3 | he3
              · subst he3
                obtain ⟨hok3, hhl⟩ := HONE3.out rfl
                have HOK3 := Fact.mk hok3
                have HHL := Fact.mk hhl
                have KR : Fact (∀ W, Below wN3.heap.size wN3 W → W.heap[wE.heap.size]? = some (.cells cs 91 (0, 0))) := ⟨fun W hW => row_move HRN3.out hW⟩
                have KZ : Fact (∀ W, Below wN3.heap.size wN3 W → (convert 22 9 (.slice Av nv cv)).run Try.prog W = .ok (.string ⟨v.toArray⟩) W) := ⟨fun W hW => run_str _ _ _ Try.underlying22 Try.underlying5 Try.underlying9 (HSx.out.move (Same.of_below hW (fun _ h => h)))⟩
                have HNVL : Fact (v.length = nv) := ⟨HSx.out.len⟩
                clear hok3 hhl HBe HSe HBN3 HRN3 HONE3 HSx
                refine wp_region_S (fun W => Below wN3.heap.size wN3 W) [(0, true), (1, true), (2, true), (3, true), (6, true), (7, true), (4, false), (5, false), (8, true), (9, true)] (by kernel_rfl) (by kernel_rfl) (by kernel_rfl) rfl rfl (by intro c a d v w h; cases d <;> exact h) (Below.refl _ _).drew ?_
                simp only [pick, List.filterMap_cons, List.filterMap_nil, Option.map_some, List.getElem?_toArray, List.getElem?_cons_zero, List.getElem?_cons_succ]
                have HS5 : Fact (Below wN3.heap.size wN3 wN3.drew) := ⟨(Below.refl _ _).drew⟩
                generalize wN3.drew = wd at HS5 ⊢
                iterate 3
                  (apply seq_tell rfl
                   · intro w2 hS
                     go_simp
                     first | done | rfl
                   simp only [Act.put, List.setIfInBounds_toArray, List.set_cons_succ, List.set_cons_zero])
                apply seq_tellG rfl
                · intro w2 hS
                  exact exec_loadR rfl rfl (KR.out w2 hS) Try.underlying91 rfl HI.out
                simp only [Act.put, List.setIfInBounds_toArray, List.set_cons_succ, List.set_cons_zero]
                iterate 2
                  (apply seq_tellG rfl
                   · intro w2 hS
                     have K2 := KZ.out w2 hS
                     go_simp
                     first | done | rfl
                   simp only [Act.put, List.setIfInBounds_toArray, List.set_cons_succ, List.set_cons_zero])
                refine seq_callG (f := 54) (args := #[.agg cs]) rfl rfl Try.func54 (by kernel_rfl) rfl (by simp only [List.map_toArray, List.map_cons, List.map_nil]; rfl) ?_
                refine (Header_calls wd hh HOK3.out cs HCS.out).mono ?_
                rintro e wF ⟨Af, cf, rfl, ho, hb⟩
                have HSF : Fact (Below wN3.heap.size wN3 wF) := ⟨HS5.out.trans (hb.mono HS5.out.size)⟩
                have HLf := Fact.mk (Lv.out ho.out)
                rw [HHL.out] at HLf ⊢
                have KF : Fact (∀ W, W = wF → (convert 22 9 (.slice Af v.length cf)).run Try.prog W = .ok (.string ⟨v.toArray⟩) W) := ⟨fun W hW => by subst hW; exact run_str _ _ _ Try.underlying22 Try.underlying5 Try.underlying9 HLf.out⟩
                clear ho hb
                refine ⟨_, rfl, HSF.out, ?_⟩
                simp only [Act.put, List.setIfInBounds_toArray, List.set_cons_succ, List.set_cons_zero]
                apply seq_doG rfl
                · have K1 := KF.out wF rfl
                  go_simp
                  exact ⟨rfl, rfl⟩
                · exact HSF.out
                simp only [Act.put, List.setIfInBounds_toArray, List.set_cons_succ, List.set_cons_zero]
                apply seq_tellG rfl
                · intro w2 hS
                  go_simp
                  first | done | rfl
                simp only [Act.put, List.setIfInBounds_toArray, List.set_cons_succ, List.set_cons_zero]
                apply seq_tell rfl
                · intro w2 hS
                  go_simp
                  first | done | rfl
                simp only [Act.put, List.setIfInBounds_toArray, List.set_cons_succ, List.set_cons_zero]
                unfold wpSeqS
                go_wp2_with fail
                go_roundg (2 - (k + 1))
                case measure => have := HK.out; have := HK2.out; omega
                case rel => exact ⟨k + 1, by go_num, ⟨by have := HK2.out; omega⟩, ⟨HBx.out.trans (HSF.out.mono HBx.out.size)⟩⟩
              · clear HONE3 HBe HSe HBN3 HRN3
                go_wp2_with fail
                go_quiet (fail)
                go_wp2_with fail
                go_roundg (2 - (k + 1))
                case measure => have := HK.out; have := HK2.out; omega
                case rel => exact ⟨k + 1, by go_num, ⟨by have := HK2.out; omega⟩, ⟨below_drewN' HBx.out _⟩⟩
            · have e20 : (er2 == 0) = false := by simpa using he2
              clear he2 HONE2
              go_wp2_with (first
                | (refine wpList_ok rfl (exec_alloc rfl (alloc_ack _)) ?_)
                | (refine wpList_store_row rfl 87 (.tmp 17) (.tmp 72) rfl wC.heap.size (ackC y kk) rfl rfl 87 (ackC false 0) (heap_new _ _) (ack_i _ _) rfl (ackC_one _ _) ?_; generalize hwn : (wC.alloc (.cells (ackC false 0) 87)).setRow wC.heap.size (ackC y kk) = wN2 at HBN2 HRN2 ⊢; clear hwn)
                | (go_at_call 57; fail))
              have HBd : Fact (Below w7.heap.size w7 wN2) := ⟨HBc.out.trans (HBN2.out.mono HBc.out.size)⟩
              have HSd : Fact (Sl rU8 wN2 (fun k => k < wN2.heap.size) Av nv cv v) := ⟨(HSc.out.move (Same.of_below HBN2.out (fun _ h => h))).mono (fun k hk => Nat.lt_of_lt_of_le hk HBN2.out.size)⟩
              clear HBc HSc HBN2 HRN2 e20
              refine (ReadHeader_calls _ _ Av nv cv v HSd.out (fun _ h => h) (by have := HNV.out; omega)).mono ?_
              rintro e wE ⟨⟨cs, rfl, hcs⟩, hb⟩
              have HBe : Fact (Below w7.heap.size w7 wE) := ⟨HBd.out.trans (hb.mono HBd.out.size)⟩
              have HSe : Fact (Sl rU8 wE (fun k => k < wE.heap.size) Av nv cv v) := ⟨(HSd.out.move (Same.of_below hb (fun _ h => h))).mono (fun k hk => Nat.lt_of_lt_of_le hk hb.size)⟩
              have hone3 : (readHd v).2 = 0 → (readHd v).1.ok ∧ hdL (readHd v).1 = v := one_hd
              have hokh := readHd_ok v
              obtain ⟨hh, er3, hq⟩ : ∃ hh er3, readHd v = (hh, er3) := ⟨_, _, rfl⟩
              rw [hq] at hone3 hcs hokh ⊢
              simp only at hone3 hcs hokh ⊢
              have HONE3 := Fact.mk hone3
              have HCS := Fact.mk hcs.out
              have HSZ : Fact (cs.size = 130) := ⟨by rw [← Array.length_toList, hcs.out]; exact hdC_len hokh⟩
              have HI := Fact.mk (hd_i HSZ.out)
              have HZZ : Fact (zHdA.size = cs.size) := ⟨by rw [HSZ.out]; rfl⟩
              have HBN3 := Fact.mk (below_new wE zHdA cs 91)
              have HRN3 : Fact (((wE.alloc (.cells zHdA 91)).setRow wE.heap.size cs).heap[wE.heap.size]? = some (.cells cs 91 (0, 0))) := ⟨row_new wE _ _ _⟩
              clear hb hone3 hcs hokh hq HBd HSd
              have ec : er3 = 0 ∨ (er3 == 0) = false := by by_cases h : er3 = 0; exact .inl h; exact .inr (by simpa using h)
              go_wp2_with (first
                | (refine wpList_ok rfl (exec_alloc rfl (alloc_hd _)) ?_)
                | (refine wpList_store_row rfl 91 (.tmp 21) (.tmp 93) rfl wE.heap.size cs rfl rfl 91 zHdA (heap_new _ _) HI.out HZZ.out (hd_one HCS.out) ?_; generalize hwn : (wE.alloc (.cells zHdA 91)).setRow wE.heap.size cs = wN3 at HBN3 HRN3 ⊢; clear hwn))
              have HBx : Fact (Below w7.heap.size w7 wN3) := ⟨HBe.out.trans (HBN3.out.mono HBe.out.size)⟩
              have HSx : Fact (Sl rU8 wN3 (fun k => k < wN3.heap.size) Av nv cv v) := ⟨(HSe.out.move (Same.of_below HBN3.out (fun _ h => h))).mono (fun k hk => Nat.lt_of_lt_of_le hk HBN3.out.size)⟩
              rcases ec with he3 | he3
              · subst he3
                obtain ⟨hok3, hhl⟩ := HONE3.out rfl
                have HOK3 := Fact.mk hok3
                have HHL := Fact.mk hhl
                have KR : Fact (∀ W, Below wN3.heap.size wN3 W → W.heap[wE.heap.size]? = some (.cells cs 91 (0, 0))) := ⟨fun W hW => row_move HRN3.out hW⟩
                have KZ : Fact (∀ W, Below wN3.heap.size wN3 W → (convert 22 9 (.slice Av nv cv)).run Try.prog W = .ok (.string ⟨v.toArray⟩) W) := ⟨fun W hW => run_str _ _ _ Try.underlying22 Try.underlying5 Try.underlying9 (HSx.out.move (Same.of_below hW (fun _ h => h)))⟩
                have HNVL : Fact (v.length = nv) := ⟨HSx.out.len⟩
                clear hok3 hhl HBe HSe HBN3 HRN3 HONE3 HSx
                refine wp_region_S (fun W => Below wN3.heap.size wN3 W) [(0, true), (1, true), (2, true), (3, true), (6, true), (7, true), (4, false), (5, false), (8, true), (9, true)] (by kernel_rfl) (by kernel_rfl) (by kernel_rfl) rfl rfl (by intro c a d v w h; cases d <;> exact h) (Below.refl _ _).drew ?_
                simp only [pick, List.filterMap_cons, List.filterMap_nil, Option.map_some, List.getElem?_toArray, List.getElem?_cons_zero, List.getElem?_cons_succ]
                have HS5 : Fact (Below wN3.heap.size wN3 wN3.drew) := ⟨(Below.refl _ _).drew⟩
                generalize wN3.drew = wd at HS5 ⊢
                iterate 3
                  (apply seq_tell rfl
                   · intro w2 hS
                     go_simp
                     first | done | rfl
                   simp only [Act.put, List.setIfInBounds_toArray, List.set_cons_succ, List.set_cons_zero])
                apply seq_tellG rfl
                · intro w2 hS
                  exact exec_loadR rfl rfl (KR.out w2 hS) Try.underlying91 rfl HI.out
                simp only [Act.put, List.setIfInBounds_toArray, List.set_cons_succ, List.set_cons_zero]
                iterate 2
                  (apply seq_tellG rfl
                   · intro w2 hS
                     have K2 := KZ.out w2 hS
                     go_simp
                     first | done | rfl
                   simp only [Act.put, List.setIfInBounds_toArray, List.set_cons_succ, List.set_cons_zero])
                refine seq_callG (f := 54) (args := #[.agg cs]) rfl rfl Try.func54 (by kernel_rfl) rfl (by simp only [List.map_toArray, List.map_cons, List.map_nil]; rfl) ?_
                refine (Header_calls wd hh HOK3.out cs HCS.out).mono ?_
                rintro e wF ⟨Af, cf, rfl, ho, hb⟩
                have HSF : Fact (Below wN3.heap.size wN3 wF) := ⟨HS5.out.trans (hb.mono HS5.out.size)⟩
                have HLf := Fact.mk (Lv.out ho.out)
                rw [HHL.out] at HLf ⊢
                have KF : Fact (∀ W, W = wF → (convert 22 9 (.slice Af v.length cf)).run Try.prog W = .ok (.string ⟨v.toArray⟩) W) := ⟨fun W hW => by subst hW; exact run_str _ _ _ Try.underlying22 Try.underlying5 Try.underlying9 HLf.out⟩
                clear ho hb
                refine ⟨_, rfl, HSF.out, ?_⟩
                simp only [Act.put, List.setIfInBounds_toArray, List.set_cons_succ, List.set_cons_zero]
                apply seq_doG rfl
                · have K1 := KF.out wF rfl
                  go_simp
                  exact ⟨rfl, rfl⟩
                · exact HSF.out
                simp only [Act.put, List.setIfInBounds_toArray, List.set_cons_succ, List.set_cons_zero]
                apply seq_tellG rfl
                · intro w2 hS
                  go_simp
                  first | done | rfl
                simp only [Act.put, List.setIfInBounds_toArray, List.set_cons_succ, List.set_cons_zero]
                apply seq_tell rfl
                · intro w2 hS
                  go_simp
                  first | done | rfl
                simp only [Act.put, List.setIfInBounds_toArray, List.set_cons_succ, List.set_cons_zero]
                unfold wpSeqS
                go_wp2_with fail
                go_roundg (2 - (k + 1))
                case measure => have := HK.out; have := HK2.out; omega
                case rel => exact ⟨k + 1, by go_num, ⟨by have := HK2.out; omega⟩, ⟨HBx.out.trans (HSF.out.mono HBx.out.size)⟩⟩
              · clear HONE3 HBe HSe HBN3 HRN3
                go_wp2_with fail
                go_quiet (fail)
                go_wp2_with fail
                go_roundg (2 - (k + 1))
                case measure => have := HK.out; have := HK2.out; omega
                case rel => exact ⟨k + 1, by go_num, ⟨by have := HK2.out; omega⟩, ⟨below_drewN' HBx.out _⟩⟩
        · have hk2' : k = 2 := by have := HK.out; omega
          subst hk2'
          go_wp2_with fail
          go_ret
          exact ⟨rfl, HB7.out.trans (HB.out.mono HB7.out.size)⟩
  · have d1 : decide (1000 < n) = true := by simp; omega
    have d1' : decide ((1000 : Int) < n) = true := by simp; omega
    clear hn
    go_enter Try.func18, Try.ntmps18
    go_wp2_with (go_at_call 50; fail)
    refine (Awake_calls _).mono ?_
    rintro e w3 ⟨rfl, hb⟩
    have HB3 : Fact (Below w.heap.size w w3) := ⟨((Below.refl _ _).alloc (Nat.le_refl _) (.cells (pkA ch p) 85)).trans (hb.mono (by simp))⟩
    clear hb
    go_wp2_with fail
    go_ret
    exact ⟨rfl, HB3.out⟩
end Go.Proofs.Ytjjcjdefenbnjaa.LawPOne
