/- ferrymanref01.Sum: a contract over any world. -/
import Derived.Test.YtkmcjokoinoahaaDoorShaD3
set_option linter.unusedVariables false
set_option linter.unusedSimpArgs false
namespace Go.Proofs.YtkmcjokoinoahaaDoor.ShaDS
open Go.RowKit Go.Proofs.YtkmcjokoinoahaaDoor.Lib Go.Proofs.YtkmcjokoinoahaaDoor.Reg Go.Proofs.YtkmcjokoinoahaaDoor.PlainS Go.Proofs.YtkmcjokoinoahaaDoor.ShaA Go.Proofs.YtkmcjokoinoahaaDoor.ShaB Go.Proofs.YtkmcjokoinoahaaDoor.ShaC Go.Proofs.YtkmcjokoinoahaaDoor.ShaD
set_option maxHeartbeats 8000000 in
set_option maxRecDepth 100000 in
theorem RSum_calls (w : World) (F : Nat → Prop) (A : Option Addr) (n c : Nat) (L : List UInt8) (h : Sl rU8 w F A n c L) (hF : ∀ k, F k → k < w.heap.size) (hl : L.length ≤ 1000000) (hg : LaidR w) (h1 : 1 < w.heap.size) :
    Calls Tryd.prog 67 #[.slice A n c] w fun e w' => (∃ cs : Array Value, e = .returned (.agg cs) ∧ Fact (cs.toList = (shaL L).map vu8)) ∧ Below w.heap.size w w' := by
  have H := Fact.mk h
  have HF := Fact.mk hF
  have HG := Fact.mk hg
  have H1 := Fact.mk h1
  have HQ : Fact (L.length = n) := ⟨h.len⟩
  have hn1 : (n : Int) ≤ 1000000 := by have := h.len; omega
  have HN1 := Fact.mk hn1
  have x1 : IntKind.u64.wrap (n : Int) = (n : Int) := by rw [IntKind.wrap_u64]; omega
  have x2 : IntKind.u64.wrap ((n : Int) * 8) = ((8 * n : Nat) : Int) := by rw [IntKind.wrap_u64]; omega
  obtain ⟨q8, hq8⟩ : ∃ q8, 8 * n = q8 := ⟨_, rfl⟩
  rw [hq8] at x2
  have HQ8 := Fact.mk hq8
  clear hq8 h hF hl hg h1
  go_enter Tryd.func67, Tryd.ntmps67
  go_wp2_with (first
    | (refine wpList_ok rfl (exec_alloc rfl (alloc_b _)) ?_)
    | (at_builtin
       generalize hwa : w.alloc (.cells (bArr []) 52) = wa
       have HWA : Fact (Below w.heap.size w wa) := ⟨by rw [← hwa]; exact (Below.refl _ _).alloc (Nat.le_refl _) _⟩
       have HSA : Fact (wa.heap.size = w.heap.size + 1) := ⟨by rw [← hwa]; simp⟩
       have HRA : Fact (wa.heap[w.heap.size]? = some (.cells (bArr []) 52 (0, 0))) := ⟨by rw [← hwa]; exact heap_alloc_new _ _⟩
       clear hwa
       have HOa : Fact (Ow rU8 5 (wa.alloc (.cells #[] 5)) (w.heap.size + 1) (fun _ => False) (.slice (some ⟨w.heap.size + 1, 0, none⟩) 0 0) []) := ⟨by
         have h1 := Ow.litB (xs := []) (cells := #[]) (n := 0) wa (w.heap.size + 1) 5 (by rw [HSA.out]; exact Nat.le_refl _) rfl rfl (by decide)
         rw [HSA.out] at h1
         exact h1⟩
       refine wpList_app rU8 (w0 := wa) (w.heap.size + 1) rfl (.tmp 29) (.tmp 30) 129 5 (.int .u8 0) 1 rfl Tryd.underlying129 info_u8 rfl (by decide) (by decide) (fun _ => False) F _ [] L _ _ _ rfl rfl HOa.out ((H.out.move (Same.of_below HWA.out HF.out)).move (Same.of_below ((Below.refl _ _).alloc (Nat.le_refl _) _) (fun k hk => Nat.lt_of_lt_of_le (HF.out k hk) HWA.out.size))) ((Below.refl _ _).alloc (by rw [HSA.out]; exact Nat.le_refl _) _) (by have := HSA.out; simp; omega) (by have := HN1.out; simp; omega) (fun _ h => h.elim) (fun _ _ h => h) ?_
       intro v1 w1 ho1 hb1 hg1 hat1
       have HO1 := Fact.mk ho1
       have HB1 := Fact.mk hb1
       clear ho1 hb1 hg1 hat1 HOa)
    | (at_builtin
       refine wpList_app rU8 (w0 := wa) (w.heap.size + 1) rfl (.tmp 32) (.tmp 33) 129 5 (.int .u8 0) 1 rfl Tryd.underlying129 info_u8 rfl (by decide) (by decide) (fun _ => False) (fun k => k = w1.heap.size) v1 L [0x80] _ 1 1 rfl rfl
                     (HO1.out.below ((Below.refl _ _).alloc (Nat.le_refl _) _) (fun _ h => h.elim)) (Sl.boxB w1 _ rfl rfl (by decide)) (HB1.out.alloc (by have := HB1.out.size; have := HSA.out; omega) _) (by have := HB1.out.size; have := HSA.out; simp; omega) (by have := HQ.out; have := HN1.out; simp; omega) (fun _ h => h.elim) (fun _ _ h => h) ?_
       intro v2 w2 ho2 hb2 hg2 hat2
       have HO2 := Fact.mk ho2
       have HB2 := Fact.mk hb2
       clear ho2 hb2 hg2 hat2))
  go_loopg [3] (padN n) (fun kq b wx => ∃ (z : Nat), Fact (z + kq = padN n) ∧ Fact (Ow rU8 5 wx (w.heap.size + 1) (fun _ => False) b (L ++ [0x80] ++ List.replicate z 0)) ∧ Fact (Below (w.heap.size + 1) wa wx))
  case atStart => exact ⟨0, ⟨Nat.zero_add _⟩, ⟨by simpa using HO2.out⟩, HB2⟩
  case round =>
    obtain ⟨z, HZ, HO3, HB3⟩ := hrel
    clear HO1 HO2 HB1 HB2
    obtain ⟨A3, c3, hv3, hs3⟩ := HO3.out.sl
    subst hv3
    obtain ⟨m, hm⟩ : ∃ m, n + 1 + z = m := ⟨_, rfl⟩
    have hlen : (L ++ [0x80] ++ List.replicate z 0).length = m := by have := HQ.out; simp; omega
    rw [hlen] at HO3 ⊢
    have HM := Fact.mk hm
    have hm1 : (m : Int) ≤ 2000000 := by have := HN1.out; have := HZ.out; have := padN_lt n; omega
    clear hs3 hlen hm
    by_cases hlt : z < padN n
    · have HLT := Fact.mk hlt
      have hmod : m % 64 ≠ 56 := by rw [← HM.out]; exact pad_go hlt
      have t1 : ((m : Int) % 64 == 56) = false := by simp; omega
      have t2 : ((m : Int) % 64 != 56) = true := by simp; omega
      clear hmod hlt
      go_wp2_with (at_builtin
                   refine wpList_app rU8 (w0 := wa) (w.heap.size + 1) rfl (.tmp 39) (.tmp 40) 129 5 (.int .u8 0) 1 rfl Tryd.underlying129 info_u8 rfl (by decide) (by decide) (fun _ => False) (fun k => k = wr.heap.size) (.slice A3 m c3) (L ++ [128] ++ List.replicate z 0) [0] _ 1 1 rfl rfl
                     (HO3.out.below ((Below.refl _ _).alloc (Nat.le_refl _) _) (fun _ h => h.elim)) (Sl.boxB wr _ rfl rfl (by decide)) (HB3.out.alloc (by have := HB3.out.size; have := HSA.out; omega) _) (by have := HB3.out.size; have := HSA.out; simp; omega) (by have := HQ.out; have := HN1.out; have := HM.out; simp; omega) (fun _ h => h.elim) (fun _ _ h => h) ?_
                   intro v4 w4 ho4 hb4 hg4 hat4
                   have HO4 := Fact.mk ho4
                   have HB4 := Fact.mk hb4
                   clear ho4 hb4 hg4 hat4)
      go_roundg (padN n - (z + 1))
      case measure => have := HZ.out; have := HLT.out; omega
      case rel => exact ⟨z + 1, ⟨by have := HLT.out; omega⟩, ⟨by have h1 := HO4.out; rw [List.append_assoc, ← List.replicate_succ'] at h1; exact h1⟩, HB4⟩
    · have hze : z = padN n := by have := HZ.out; omega
      have hmod : m % 64 = 56 := by rw [← HM.out, hze]; exact pad_end
      have t1 : ((m : Int) % 64 == 56) = true := by simp; omega
      have t2 : ((m : Int) % 64 != 56) = false := by simp; omega
      obtain ⟨ms, hms⟩ : ∃ ms, L ++ [128] ++ List.replicate z 0 = ms := ⟨_, rfl⟩
      have HMS : Fact (msgL L = ms ++ eightL q8) := ⟨by rw [← hms, hze, ← HQ8.out, ← HQ.out]; rfl⟩
      have HML : Fact (ms.length = m) := ⟨by rw [← hms, ← HM.out, ← HQ.out]; simp; omega⟩
      rw [hms] at HO3
      clear hmod hlt hze hms
      go_wp2_with fail
      clear t1 t2
      go_loopg [3, 5] 8 (fun kq b i wx => ∃ k : Nat, i = .int .i64 (k : Int) ∧ Fact (k + kq = 8) ∧ Fact (Ow rU8 5 wx (w.heap.size + 1) (fun _ => False) b (ms ++ (eightL q8).take k)) ∧ Fact (Below (w.heap.size + 1) wa wx))
      case atStart => exact ⟨0, rfl, ⟨rfl⟩, ⟨by simpa using HO3.out⟩, HB3⟩
      case round =>
        obtain ⟨k, rfl, HK, HO5, HB5⟩ := hrel
        clear HO3 HB3
        obtain ⟨A5, c5, hv5, hs5⟩ := HO5.out.sl
        subst hv5
        obtain ⟨m5, hm5⟩ : ∃ m5, m + k = m5 := ⟨_, rfl⟩
        have hlen : (ms ++ (eightL q8).take k).length = m5 := by have := HML.out; have := HK.out; simp [eight_len]; omega
        rw [hlen] at HO5 ⊢
        have hm5l : (m5 : Int) ≤ 3000000 := by have := HK.out; omega
        have HM5 := Fact.mk hm5
        clear hs5 hlen hm5
        by_cases hlt : k < 8
        · have HLT := Fact.mk hlt
          have HD : Fact ((eightL q8).take (k + 1) = (eightL q8).take k ++ [dig q8 (7 - k)]) := ⟨eight_take q8 k hlt⟩
          obtain ⟨s, hs⟩ : ∃ s, 56 - 8 * k = s := ⟨_, rfl⟩
          have HS : Fact (56 - 8 * k = s) := ⟨hs⟩
          have hsi : 56 - 8 * (k : Int) = (s : Int) := by omega
          have hs0 : (0 : Int) ≤ s := by omega
          have hs1 : (s : Int) < 64 := by omega
          have hsm : min s 64 = s := by omega
          clear hs hlt
          go_wp2_with (at_builtin
                       refine wpList_app rU8 (w0 := wa) (w.heap.size + 1) rfl (.tmp 50) (.tmp 57) 129 5 (.int .u8 0) 1 rfl Tryd.underlying129 info_u8 rfl (by decide) (by decide) (fun _ => False) (fun k => k = wr.heap.size) (.slice A5 m5 c5) (ms ++ (eightL q8).take k) [dig q8 (7 - k)] _ 1 1 rfl rfl
                         (HO5.out.below ((Below.refl _ _).alloc (Nat.le_refl _) _) (fun _ h => h.elim)) (Sl.boxB wr _ (by rw [← HS.out, dig_int' q8 k HLT.out]; rfl) rfl (by decide)) (HB5.out.alloc (by have := HB5.out.size; have := HSA.out; omega) _) (by have := HB5.out.size; have := HSA.out; simp; omega) (by have := HML.out; have := HM5.out; simp [eight_len]; omega) (fun _ h => h.elim) (fun _ _ h => h) ?_
                       intro v6 w6 ho6 hb6 hg6 hat6
                       have HO6 := Fact.mk ho6
                       have HB6 := Fact.mk hb6
                       clear ho6 hb6 hg6 hat6)
          go_roundg (8 - (k + 1))
          case measure => have := HK.out; have := HLT.out; omega
          case rel => exact ⟨k + 1, by go_num, ⟨by have := HK.out; have := HLT.out; omega⟩, ⟨by have h1 := HO6.out; rw [List.append_assoc, ← HD.out] at h1; exact h1⟩, HB6⟩
        · have hk8 : k = 8 := by have := HK.out; omega
          subst hk8
          have HMG : Fact (ms ++ (eightL q8).take 8 = msgL L) := ⟨by rw [HMS.out]; congr 1⟩
          obtain ⟨t, ht, ht0⟩ := msg_len L
          have HT := Fact.mk ht
          have HT0 := Fact.mk ht0
          have hmt : m5 = 64 * t := by rw [← ht, HMS.out, ← HM5.out, ← HML.out]; simp [eight_len]
          rw [HMG.out] at HO5
          obtain ⟨A6, c6, hv6, hs6⟩ := HO5.out.sl
          have HSL : Fact (Sl rU8 wr (fun k => w.heap.size + 1 ≤ k ∧ k < wr.heap.size) A5 m5 c5 (msgL L)) := ⟨by
            rw [ht, ← hmt] at hv6 hs6
            injection hv6 with e1 e2 e3
            subst e1 e3
            exact hs6.mono (fun k hk => hk.elim False.elim (fun h => HO5.out.lt k h))⟩
          have HM6 := Fact.mk hmt
          obtain ⟨ad, rfl, had⟩ := HSL.out.some_ (by omega)
          have hmi : (m5 : Int) = 64 * (t : Int) := by omega
          have HMI := Fact.mk hmi
          clear ht ht0 HMG hv6 hs6 HMS HML HO5 hmt had hmi hlt
          go_wp2_with fail
          change Code.wp _ _ _ _ (wr.alloc (.cells (vArr iv) 161))
          generalize hwh : wr.alloc (.cells (vArr iv) 161) = wh
          have HRh : Fact (wh.heap[wr.heap.size]? = some (.cells (vArr iv) 161 (0, 0))) := ⟨by rw [← hwh]; exact heap_alloc_new _ _⟩
          have HBh : Fact (Below wr.heap.size wr wh) := ⟨by rw [← hwh]; exact (Below.refl _ _).alloc (Nat.le_refl _) _⟩
          have HGT : Fact (w.heap.size + 1 ≤ wr.heap.size) := ⟨by have := HB5.out.size; have := HSA.out; omega⟩
          clear hwh
          generalize hbe : wr.heap.size = hb at HRh HBh HGT HSL ⊢
          have HBE := Fact.mk hbe
          have HSh : Fact (Sl rU8 wh (fun k => w.heap.size + 1 ≤ k ∧ k < hb) (some ad) m5 c5 (msgL L)) := ⟨HSL.out.move (Same.of_below HBh.out (fun k hk => hk.2))⟩
          have HWh : Fact (Below w.heap.size w wh) := ⟨HWA.out.trans ((HB5.out.mono (Nat.le_succ _)).trans (HBh.out.mono (Nat.le_of_succ_le HGT.out)))⟩
          have HRO : Fact (wh.heap[w.heap.size]? = some (.cells (bArr []) 52 (0, 0))) := ⟨by
            rw [HBh.out.block _ (Nat.lt_of_succ_le HGT.out), HB5.out.block _ (Nat.lt_succ_self _)]; exact HRA.out⟩
          have HHB : Fact (hb < wh.heap.size) := ⟨Go.lt_of_block HRh.out⟩
          have HRG : Fact (LaidR wh) := ⟨laidR_move HG.out HWh.out H1.out⟩
          clear HSL hbe HBE HB5
          obtain ⟨fin, hfin⟩ : ∃ fin, shaF t iv (msgL L) = fin := ⟨_, rfl⟩
          have HFIN := Fact.mk hfin
          clear hfin
          refine ShaD3.loop3 wh (fun k => w.heap.size + 1 ≤ k ∧ k < hb) ad m5 c5 hb t L fin _ _ _ _ _ _ _ _ _ _ _ _ _ _ _ _ _ _ _ _ _ _ _ _ _ _ _ _ _ _ _ _ _ _ _ _ _ _ _ _ _ _ _ _ _ _ _ _ _ _ _ _ _ _ _ _ _ _ _ _ _ _ _ _ _ _ _ _ _ _ _ _ _ _ _ _ _ _ _ _ _ _ _ _ _ _ _ _ _ _ _ _ _ _ _ _ _ _ _ _ _ _ _ _ _ _ _ _ _ _ _ _ _ _ _ _ _ _ _ _ _ _ _ _ _ _ _ _ _ _ _ _ _ _ _ _ _ _ _ _ _ _ _ _ _ _ _ _ _ _ _ _ _ _ _ _ _ _ _ _ _ _ _ _ _ _ _ _ _ _ _ _ _ _ _ _ _ _ _ _ _ _ _ _ _ _ _ _ _ _ _ _ _ _ _ _ _ _ _ _ _ _ _ _ _ _ _ _ _ _ _ _ _ _ _ _ _ _ _ _ _ _ _ _ _ _ _ _ _ _ _ _ _ _ _ _ _ _ _ _ _ _ _ _ _ _ _ _ _ _ _ _ _ _ _ _ _ _ _ _ _ _ _ _ _ _ _ _ _ _ _ _ _ _ _ _ _ _ _ _ _ _ _ _ _ _ _ _ _ _ _ _ _ _ _ _ _ HSh.out (fun k hk => hk.2) HM6.out (by have := hm5l; omega) HFIN.out HRh.out HRG.out (Nat.lt_of_lt_of_le H1.out (Nat.le_of_succ_le HGT.out)) ?_
          intro q7 q8 q9 q10 q11 q12 q13 q14 q15 q16 q17 q18 q19 q20 q21 q22 q23 q24 q25 q26 q60 q61 q62 q63 q64 q65 q66 q67 q68 q69 q70 q71 q72 q73 q74 q75 q76 q77 q78 q79 q80 q81 q82 q83 q84 q85 q86 q87 q88 q89 q90 q91 q92 q93 q94 q95 q96 q97 q98 q99 q100 q101 q102 q103 q104 q105 q106 q107 q108 q109 q110 q111 q112 q113 q114 q115 q116 q117 q118 q119 q120 q121 q122 q123 q124 q125 q126 q127 q128 q129 q130 q131 q132 q133 q134 q135 q136 q137 q138 q139 q140 q141 q142 q143 q144 q145 q146 q147 q148 q149 q150 q151 q152 q153 q154 q155 q156 q157 q158 q159 q160 q161 q162 q163 q164 q165 q166 q167 q168 q169 q170 q171 q172 q173 q174 q175 q176 q177 q178 q179 q180 q181 q182 q183 q184 q185 q186 q187 q188 q189 q190 q191 q192 q193 q194 q195 q196 q197 q198 q199 q200 q201 q202 q203 q204 q205 q206 q207 q208 q209 q210 q211 q212 q213 q214 q215 q216 q217 q218 q219 q220 q221 q222 q223 q224 q225 q226 q227 q228 q229 q230 q231 q232 q233 q234 q235 q236 q237 q238 q239 q240 q241 q242 q243 q244 q245 q246 q247 q248 q249 q250 q251 q252 q253 q254 q255 q256 q257 q258 q259 q260 q261 q262 q263 q264 q265 q266 q267 q268 q269 q270 q271 q272 q273 q274 q275 q276 q277 q278 q279 q280 q281 w9 HR' HB'
          clear HRh HSh
          go_wp2_with (refine wpList_ok rfl (exec_alloc rfl (alloc_b _)) ?_)
          generalize hwo : w9.alloc (.cells (bArr []) 52) = wo
          generalize hob : w9.heap.size = ob
          have HOB : Fact (hb < ob) := ⟨by rw [← hob]; exact Go.lt_of_block HR'.out⟩
          have HRw : Fact (wo.heap[ob]? = some (.cells (bArr []) 52 (0, 0))) := ⟨by rw [← hwo, ← hob]; exact heap_alloc_new _ _⟩
          have HBw : Fact (Below w.heap.size w wo) := ⟨HWh.out.trans ((HB'.out.mono (Nat.le_of_lt (Nat.lt_of_succ_le HGT.out))).trans (by rw [← hwo]; exact (Below.refl _ _).alloc (by rw [hob]; exact Nat.le_of_lt (Nat.lt_trans (Nat.lt_of_succ_le HGT.out) HOB.out)) _))⟩
          have HRv : Fact (wo.heap[hb]? = some (.cells (vArr fin) 161 (0, 0))) := ⟨by rw [← hwo, Below.heap_alloc _ _ _ (by rw [hob]; exact HOB.out)]; exact HR'.out⟩
          have HRr : Fact (wo.heap[w.heap.size]? = some (.cells (bArr []) 52 (0, 0))) := ⟨by rw [← hwo, Below.heap_alloc _ _ _ (by rw [hob]; exact Nat.lt_trans (Nat.lt_of_succ_le HGT.out) HOB.out), HB'.out.block _ (Nat.lt_of_succ_le HGT.out)]; exact HRO.out⟩
          clear hwo hob HR' HB' HRO
          have r8 := r_low
          go_loopg [28] 32 (fun kq i wx => ∃ (k : Nat), i = .int .i64 (k : Int) ∧ Fact (k + kq = 32) ∧ Fact (wx.heap[ob]? = some (.cells (bArr ((outL fin).take k)) 52 (0, 0))) ∧ Fact (Below ob wo wx))
          case atStart => exact ⟨0, rfl, ⟨rfl⟩, HRw, ⟨Below.refl _ _⟩⟩
          case round =>
            clear HRw
            obtain ⟨k, rfl, HK, HR, HB⟩ := hrel
            by_cases hlt : k < 32
            · have HLT := Fact.mk hlt
              have hk32 : (k : Int) < 32 := by omega
              obtain ⟨k4, hk4⟩ : ∃ k4, k / 4 = k4 := ⟨_, rfl⟩
              obtain ⟨sh, hsh⟩ : ∃ sh, 24 - k % 4 * 8 = sh := ⟨_, rfl⟩
              have hq4 : (k : Int) / 4 = (k4 : Int) := by omega
              have hk4l : (k4 : Int) < 8 := by omega
              have hr4 : 24 - 8 * ((k : Int) % 4) = (sh : Int) := by omega
              have hsh0 : (0 : Int) ≤ sh := by omega
              have hsh1 : (sh : Int) < 32 := by omega
              have hshm : min sh 32 = sh := by omega
              obtain ⟨x, hx⟩ : ∃ x, fin.l.getD k4 0 = x := ⟨_, rfl⟩
              have hc : wr.cell? ⟨hb, k4, none⟩ = some (.int .u32 (U x)) := by rw [← hx]; exact (HB.out.cell (p := ⟨hb, k4, none⟩) HOB.out).trans (row_cell HRv.out (v_get (by omega)))
              obtain ⟨y, hy⟩ : ∃ y, x >>> UInt32.ofNat sh = y := ⟨_, rfl⟩
              have hdv : U x / 2 ^ sh = U y := by rw [← hy]; exact r_shr (by omega)
              have HOX : Fact (outB fin k = y.toUInt8) := ⟨by unfold outB; rw [hk4, hsh, hx, hy]⟩
              have hz := row_cell HR.out (bArr_zero (l := (outL fin).take k) (k := k) (by rw [List.length_take, outL_len]; omega) hlt)
              have hf := row_free (i := k) HR.out
              clear hlt hk4 hsh hx hy
              go_wp2_with fail
              go_roundg (32 - (k + 1))
              case measure => have := HK.out; have := HLT.out; omega
              case rel =>
                refine ⟨k + 1, by go_num, ⟨by have := HLT.out; omega⟩, ⟨?_⟩, ⟨HB.out.setCell (p := ⟨ob, k, none⟩) (Nat.le_refl _) _⟩⟩
                refine (row_set (w := wr) _ HR.out).trans ?_
                rw [low', ← HOX.out, bArr_set _ (by rw [List.length_take, outL_len]; have := HLT.out; omega) HLT.out, out_take fin HLT.out]
            · have hk32 : k = 32 := by have := HK.out; omega
              subst hk32
              have hto : (outL fin).take 32 = outL fin := List.take_of_length_le (by rw [outL_len]; exact Nat.le_refl _)
              rw [hto] at HR
              have HBI : Fact ((Tryd.prog.info? 52).map (·.size) = some (bArr (outL fin)).size) := ⟨b_i (by rw [outL_len]; exact Nat.le_refl _)⟩
              have HRR : Fact (wr.heap[w.heap.size]? = some (.cells (bArr []) 52 (0, 0))) := ⟨by rw [HB.out.block _ (Nat.lt_trans (Nat.lt_of_succ_le HGT.out) HOB.out)]; exact HRr.out⟩
              have HSZ : Fact ((bArr []).size = (bArr (outL fin)).size) := ⟨by rw [bArr_size (by decide), bArr_size (by rw [outL_len]; exact Nat.le_refl _)]⟩
              clear hto hlt
              go_wp2_with (first
                | (refine wpList_load_row rfl 52 (.tmp 27) rfl ob rfl 52 (bArr (outL fin)) (0, 0) _ HR.out hash_ua rfl HBI.out ?_)
                | (refine wpList_store_row rfl 52 (.tmp 2) (.tmp 299) rfl w.heap.size (bArr (outL fin)) rfl rfl 52 (bArr []) HRR.out HBI.out HSZ.out (bArr_one _) ?_))
              refine bodyPost_ret (results_cell_row (fn := Tryd.f67) rfl _ _ w.heap.size 52 (bArr (outL fin)) (0, 0) _ rfl (setRow_heap _ _ _ _ _ _ HRR.out) hash_ua rfl HBI.out) rfl ?_
              refine ⟨⟨bArr (outL fin), rfl, ⟨?_⟩⟩, below_setRow (HBw.out.trans (HB.out.mono (Nat.le_of_lt (Nat.lt_trans (Nat.lt_of_succ_le HGT.out) HOB.out)))) (Nat.le_refl _) _⟩
              rw [bArr_list (outL_len _)]
              have h1 : (msgL L).length / 64 = t := by rw [HT.out]; omega
              unfold shaL
              rw [h1, HFIN.out]
end Go.Proofs.YtkmcjokoinoahaaDoor.ShaDS
