/- ferrymanref01.Sum: its third loop: the blocks. -/
import Derived.Test.YtkmcjokoinoahaaDoorShaD4
import Derived.Test.YtkmcjokoinoahaaDoorShaD5
import Derived.Test.YtkmcjokoinoahaaDoorShaD6
import Derived.Test.YtkmcjokoinoahaaDoorShaD7
set_option linter.unusedVariables false
set_option linter.unusedSimpArgs false
namespace Go.Proofs.YtkmcjokoinoahaaDoor.ShaD3
open Go.RowKit Go.Proofs.YtkmcjokoinoahaaDoor.Lib Go.Proofs.YtkmcjokoinoahaaDoor.Reg Go.Proofs.YtkmcjokoinoahaaDoor.PlainS Go.Proofs.YtkmcjokoinoahaaDoor.ShaA Go.Proofs.YtkmcjokoinoahaaDoor.ShaB Go.Proofs.YtkmcjokoinoahaaDoor.ShaC Go.Proofs.YtkmcjokoinoahaaDoor.ShaD
theorem sched_len (l : List UInt8) : (schedF 48 (words16 l)).length = 64 := by
  have h : ∀ k w, (schedF k w).length = w.length + k := by
    intro k
    induction k with
    | zero => intro w; rfl
    | succ k ih => intro w; show (schedF k (w ++ [nextW w])).length = _; rw [ih]; simp; omega
  rw [h]; simp [words16]
set_option maxHeartbeats 8000000 in
set_option maxRecDepth 100000 in
theorem loop3 {Q0 : Exit → Act → World → Prop} (wh : World) (F : Nat → Prop) (ad : Addr) (m5 c5 hb t : Nat) (L : List UInt8) (fin : V8)
    (z0 z1 z2 z4 z5 z8 z9 z10 z11 z12 z13 z14 z15 z16 z17 z18 z19 z20 z21 z22 z23 z24 z25 z26 z27 z28 z29 z30 z31 z32 z33 z34 z35 z36 z37 z38 z39 z40 z41 z42 z43 z44 z45 z46 z47 z48 z49 z50 z51 z52 z53 z54 z55 z56 z57 z58 z59 z60 z61 z62 z63 z64 z65 z66 z67 z68 z69 z70 z71 z72 z73 z74 z75 z76 z77 z78 z79 z80 z81 z82 z83 z84 z85 z86 z87 z88 z89 z90 z91 z92 z93 z94 z95 z96 z97 z98 z99 z100 z101 z102 z103 z104 z105 z106 z107 z108 z109 z110 z111 z112 z113 z114 z115 z116 z117 z118 z119 z120 z121 z122 z123 z124 z125 z126 z127 z128 z129 z130 z131 z132 z133 z134 z135 z136 z137 z138 z139 z140 z141 z142 z143 z144 z145 z146 z147 z148 z149 z150 z151 z152 z153 z154 z155 z156 z157 z158 z159 z160 z161 z162 z163 z164 z165 z166 z167 z168 z169 z170 z171 z172 z173 z174 z175 z176 z177 z178 z179 z180 z181 z182 z183 z184 z185 z186 z187 z188 z189 z190 z191 z192 z193 z194 z195 z196 z197 z198 z199 z200 z201 z202 z203 z204 z205 z206 z207 z208 z209 z210 z211 z212 z213 z214 z215 z216 z217 z218 z219 z220 z221 z222 z223 z224 z225 z226 z227 z228 z229 z230 z231 z232 z233 z234 z235 z236 z237 z238 z239 z240 z241 z242 z243 z244 z245 z246 z247 z248 z249 z250 z251 z252 z253 z254 z255 z256 z257 z258 z259 z260 z261 z262 z263 z264 z265 z266 z267 z268 z269 z270 z271 z272 z273 z274 z275 z276 z277 z278 z279 z280 z281 z282 z283 z284 z285 z286 z287 z288 z289 z290 z291 z292 z293 z294 z295 z296 z297 z298 z299 : Value)
    (hs : Sl rU8 wh F (some ad) m5 c5 (msgL L)) (hF : ∀ k, F k → k < hb) (hm : m5 = 64 * t) (hm5 : m5 ≤ 3000000) (hfin : shaF t iv (msgL L) = fin) (hr : wh.heap[hb]? = some (.cells (vArr iv) 161 (0, 0))) (hg : LaidR wh) (h0 : 1 < hb)
    (hexit : ∀ (u7 u8 u9 u10 u11 u12 u13 u14 u15 u16 u17 u18 u19 u20 u21 u22 u23 u24 u25 u26 u60 u61 u62 u63 u64 u65 u66 u67 u68 u69 u70 u71 u72 u73 u74 u75 u76 u77 u78 u79 u80 u81 u82 u83 u84 u85 u86 u87 u88 u89 u90 u91 u92 u93 u94 u95 u96 u97 u98 u99 u100 u101 u102 u103 u104 u105 u106 u107 u108 u109 u110 u111 u112 u113 u114 u115 u116 u117 u118 u119 u120 u121 u122 u123 u124 u125 u126 u127 u128 u129 u130 u131 u132 u133 u134 u135 u136 u137 u138 u139 u140 u141 u142 u143 u144 u145 u146 u147 u148 u149 u150 u151 u152 u153 u154 u155 u156 u157 u158 u159 u160 u161 u162 u163 u164 u165 u166 u167 u168 u169 u170 u171 u172 u173 u174 u175 u176 u177 u178 u179 u180 u181 u182 u183 u184 u185 u186 u187 u188 u189 u190 u191 u192 u193 u194 u195 u196 u197 u198 u199 u200 u201 u202 u203 u204 u205 u206 u207 u208 u209 u210 u211 u212 u213 u214 u215 u216 u217 u218 u219 u220 u221 u222 u223 u224 u225 u226 u227 u228 u229 u230 u231 u232 u233 u234 u235 u236 u237 u238 u239 u240 u241 u242 u243 u244 u245 u246 u247 u248 u249 u250 u251 u252 u253 u254 u255 u256 u257 u258 u259 u260 u261 u262 u263 u264 u265 u266 u267 u268 u269 u270 u271 u272 u273 u274 u275 u276 u277 u278 u279 u280 u281 : Value) w', Fact (w'.heap[hb]? = some (.cells (vArr fin) 161 (0, 0))) → Fact (Below hb wh w') → Q0 (.exit 4) ⟨(List.toArray (z0 :: z1 :: z2 :: .slice (some ad) m5 c5 :: z4 :: z5 :: .slice (some ⟨hb, 0, none⟩) 8 8 :: u7 :: u8 :: u9 :: u10 :: u11 :: u12 :: u13 :: u14 :: u15 :: u16 :: u17 :: u18 :: u19 :: u20 :: u21 :: u22 :: u23 :: u24 :: u25 :: u26 :: z27 :: z28 :: z29 :: z30 :: z31 :: z32 :: z33 :: z34 :: z35 :: z36 :: z37 :: z38 :: z39 :: z40 :: z41 :: z42 :: z43 :: z44 :: z45 :: z46 :: z47 :: z48 :: z49 :: z50 :: z51 :: z52 :: z53 :: z54 :: z55 :: z56 :: z57 :: z58 :: z59 :: u60 :: u61 :: u62 :: u63 :: u64 :: u65 :: u66 :: u67 :: u68 :: u69 :: u70 :: u71 :: u72 :: u73 :: u74 :: u75 :: u76 :: u77 :: u78 :: u79 :: u80 :: u81 :: u82 :: u83 :: u84 :: u85 :: u86 :: u87 :: u88 :: u89 :: u90 :: u91 :: u92 :: u93 :: u94 :: u95 :: u96 :: u97 :: u98 :: u99 :: u100 :: u101 :: u102 :: u103 :: u104 :: u105 :: u106 :: u107 :: u108 :: u109 :: u110 :: u111 :: u112 :: u113 :: u114 :: u115 :: u116 :: u117 :: u118 :: u119 :: u120 :: u121 :: u122 :: u123 :: u124 :: u125 :: u126 :: u127 :: u128 :: u129 :: u130 :: u131 :: u132 :: u133 :: u134 :: u135 :: u136 :: u137 :: u138 :: u139 :: u140 :: u141 :: u142 :: u143 :: u144 :: u145 :: u146 :: u147 :: u148 :: u149 :: u150 :: u151 :: u152 :: u153 :: u154 :: u155 :: u156 :: u157 :: u158 :: u159 :: u160 :: u161 :: u162 :: u163 :: u164 :: u165 :: u166 :: u167 :: u168 :: u169 :: u170 :: u171 :: u172 :: u173 :: u174 :: u175 :: u176 :: u177 :: u178 :: u179 :: u180 :: u181 :: u182 :: u183 :: u184 :: u185 :: u186 :: u187 :: u188 :: u189 :: u190 :: u191 :: u192 :: u193 :: u194 :: u195 :: u196 :: u197 :: u198 :: u199 :: u200 :: u201 :: u202 :: u203 :: u204 :: u205 :: u206 :: u207 :: u208 :: u209 :: u210 :: u211 :: u212 :: u213 :: u214 :: u215 :: u216 :: u217 :: u218 :: u219 :: u220 :: u221 :: u222 :: u223 :: u224 :: u225 :: u226 :: u227 :: u228 :: u229 :: u230 :: u231 :: u232 :: u233 :: u234 :: u235 :: u236 :: u237 :: u238 :: u239 :: u240 :: u241 :: u242 :: u243 :: u244 :: u245 :: u246 :: u247 :: u248 :: u249 :: u250 :: u251 :: u252 :: u253 :: u254 :: u255 :: u256 :: u257 :: u258 :: u259 :: u260 :: u261 :: u262 :: u263 :: u264 :: u265 :: u266 :: u267 :: u268 :: u269 :: u270 :: u271 :: u272 :: u273 :: u274 :: u275 :: u276 :: u277 :: u278 :: u279 :: u280 :: u281 :: z282 :: z283 :: z284 :: z285 :: z286 :: z287 :: z288 :: z289 :: z290 :: z291 :: z292 :: z293 :: z294 :: z295 :: z296 :: z297 :: z298 :: z299 :: [])), []⟩ w') :
    Code.wp Tryd.prog (Code.loop (bodyN 2)) Q0 ⟨(List.toArray (z0 :: z1 :: z2 :: .slice (some ad) m5 c5 :: z4 :: z5 :: .slice (some ⟨hb, 0, none⟩) 8 8 :: .int .i64 0 :: z8 :: z9 :: z10 :: z11 :: z12 :: z13 :: z14 :: z15 :: z16 :: z17 :: z18 :: z19 :: z20 :: z21 :: z22 :: z23 :: z24 :: z25 :: z26 :: z27 :: z28 :: z29 :: z30 :: z31 :: z32 :: z33 :: z34 :: z35 :: z36 :: z37 :: z38 :: z39 :: z40 :: z41 :: z42 :: z43 :: z44 :: z45 :: z46 :: z47 :: z48 :: z49 :: z50 :: z51 :: z52 :: z53 :: z54 :: z55 :: z56 :: z57 :: z58 :: z59 :: z60 :: z61 :: z62 :: z63 :: z64 :: z65 :: z66 :: z67 :: z68 :: z69 :: z70 :: z71 :: z72 :: z73 :: z74 :: z75 :: z76 :: z77 :: z78 :: z79 :: z80 :: z81 :: z82 :: z83 :: z84 :: z85 :: z86 :: z87 :: z88 :: z89 :: z90 :: z91 :: z92 :: z93 :: z94 :: z95 :: z96 :: z97 :: z98 :: z99 :: z100 :: z101 :: z102 :: z103 :: z104 :: z105 :: z106 :: z107 :: z108 :: z109 :: z110 :: z111 :: z112 :: z113 :: z114 :: z115 :: z116 :: z117 :: z118 :: z119 :: z120 :: z121 :: z122 :: z123 :: z124 :: z125 :: z126 :: z127 :: z128 :: z129 :: z130 :: z131 :: z132 :: z133 :: z134 :: z135 :: z136 :: z137 :: z138 :: z139 :: z140 :: z141 :: z142 :: z143 :: z144 :: z145 :: z146 :: z147 :: z148 :: z149 :: z150 :: z151 :: z152 :: z153 :: z154 :: z155 :: z156 :: z157 :: z158 :: z159 :: z160 :: z161 :: z162 :: z163 :: z164 :: z165 :: z166 :: z167 :: z168 :: z169 :: z170 :: z171 :: z172 :: z173 :: z174 :: z175 :: z176 :: z177 :: z178 :: z179 :: z180 :: z181 :: z182 :: z183 :: z184 :: z185 :: z186 :: z187 :: z188 :: z189 :: z190 :: z191 :: z192 :: z193 :: z194 :: z195 :: z196 :: z197 :: z198 :: z199 :: z200 :: z201 :: z202 :: z203 :: z204 :: z205 :: z206 :: z207 :: z208 :: z209 :: z210 :: z211 :: z212 :: z213 :: z214 :: z215 :: z216 :: z217 :: z218 :: z219 :: z220 :: z221 :: z222 :: z223 :: z224 :: z225 :: z226 :: z227 :: z228 :: z229 :: z230 :: z231 :: z232 :: z233 :: z234 :: z235 :: z236 :: z237 :: z238 :: z239 :: z240 :: z241 :: z242 :: z243 :: z244 :: z245 :: z246 :: z247 :: z248 :: z249 :: z250 :: z251 :: z252 :: z253 :: z254 :: z255 :: z256 :: z257 :: z258 :: z259 :: z260 :: z261 :: z262 :: z263 :: z264 :: z265 :: z266 :: z267 :: z268 :: z269 :: z270 :: z271 :: z272 :: z273 :: z274 :: z275 :: z276 :: z277 :: z278 :: z279 :: z280 :: z281 :: z282 :: z283 :: z284 :: z285 :: z286 :: z287 :: z288 :: z289 :: z290 :: z291 :: z292 :: z293 :: z294 :: z295 :: z296 :: z297 :: z298 :: z299 :: [])), []⟩ wh := by
  conv => arg 2; arg 1; whnf
  have HSh := Fact.mk hs
  have HF := Fact.mk hF
  have HM6 := Fact.mk hm
  have HFIN := Fact.mk hfin
  have HRh := Fact.mk hr
  have HRG := Fact.mk hg
  have H0 := Fact.mk h0
  have hm5l : (m5 : Int) ≤ 3000000 := by omega
  clear hs hF hm hfin hr hg h0 hm5
  go_loopg [7] t (fun kq i wx => ∃ (j p : Nat) (v' : V8), i = .int .i64 (p : Int) ∧ Fact (p = 64 * j) ∧ Fact (j + kq = t) ∧ Fact (shaF kq v' ((msgL L).drop (64 * j)) = fin) ∧ Fact (wx.heap[hb]? = some (.cells (vArr v') 161 (0, 0))) ∧ Fact (Below hb wh wx))
  case atStart => exact ⟨0, 0, iv, rfl, ⟨rfl⟩, ⟨Nat.zero_add _⟩, HFIN, HRh, ⟨Below.refl _ _⟩⟩
  case round =>
    obtain ⟨j, p, v', rfl, HP, HJ, HF', HR', HB'⟩ := hrel
    clear HRh
    by_cases hlt : p < m5
    · have HLT := Fact.mk hlt
      have hpm : (p : Int) < (m5 : Int) := by omega
      have HP64 : Fact (p + 64 ≤ m5) := ⟨by have := HP.out; have := HM6.out; omega⟩
      have hdlt : decide (p < m5) = true := by simpa using hlt
      have mkw := make_w
      clear hlt
      go_wp2_with fail
      clear mkw
      generalize hw0 : wr.alloc (.cells (wArr []) 161) = w0
      generalize hwb : wr.heap.size = wb
      have HRw0 : Fact (w0.heap[wb]? = some (.cells (wArr []) 161 (0, 0))) := ⟨by rw [← hw0, ← hwb]; exact heap_alloc_new _ _⟩
      have HHW : Fact (hb < wb) := ⟨by rw [← hwb]; exact Go.lt_of_block HR'.out⟩
      have HRh0 : Fact (w0.heap[hb]? = some (.cells (vArr v') 161 (0, 0))) := ⟨by rw [← hw0, Below.heap_alloc _ _ _ (by rw [hwb]; exact HHW.out)]; exact HR'.out⟩
      have HB0 : Fact (Below hb wh w0) := ⟨by rw [← hw0]; exact HB'.out.alloc (by rw [hwb]; exact Nat.le_of_lt HHW.out) _⟩
      obtain ⟨l, hl⟩ : ∃ l, (msgL L).drop (64 * j) = l := ⟨_, rfl⟩
      have HLD : Fact ((msgL L).drop p = l) := ⟨by rw [HP.out]; exact hl⟩
      rw [hl] at HF'
      have HFj : Fact (shaF (t - j) v' l = fin) := ⟨by have h := HF'.out; rwa [show gk = t - j by have := HJ.out; omega] at h⟩
      clear hw0 hwb hl HR' HB' HF'
      have HF' := HFj
      clear HFj
      refine ShaD4.loop4 w0 F ad m5 c5 p wb (msgL L) l _ _ _ _ _ _ _ _ _ _ _ _ _ _ _ _ _ _ _ _ _ _ _ _ _ _ _ _ _ _ _ _ _ _ _ _ _ _ _ _ _ _ _ _ _ _ _ _ _ _ _ _ _ _ _ _ _ _ _ _ _ _ _ _ _ _ _ _ _ _ _ _ _ _ _ _ _ _ _ _ _ _ _ _ _ _ _ _ _ _ _ _ _ _ _ _ _ _ _ _ _ _ _ _ _ _ _ _ _ _ _ _ _ _ _ _ _ _ _ _ _ _ _ _ _ _ _ _ _ _ _ _ _ _ _ _ _ _ _ _ _ _ _ _ _ _ _ _ _ _ _ _ _ _ _ _ _ _ _ _ _ _ _ _ _ _ _ _ _ _ _ _ _ _ _ _ _ _ _ _ _ _ _ _ _ _ _ _ _ _ _ _ _ _ _ _ _ _ _ _ _ _ _ _ _ _ _ _ _ _ _ _ _ _ _ _ _ _ _ _ _ _ _ _ _ _ _ _ _ _ _ _ _ _ _ _ _ _ _ _ _ _ _ _ _ _ _ _ _ _ _ _ _ _ _ _ _ _ _ _ _ _ _ _ _ _ _ _ _ _ _ _ _ _ _ _ _ _ _ _ _ _ _ _ _ _ _ _ _ _ _ _ _ _ _ _ (HSh.out.move (Same.of_below HB0.out HF.out)) (fun k hk => Nat.lt_trans (HF.out k hk) HHW.out) HP64.out (by have := hm5l; omega) HLD.out HRw0.out ?_
      intro q9 q10 q67 q68 q69 q70 q71 q72 q73 q74 q75 q76 q77 q78 q79 q80 q81 q82 q83 q84 q85 q86 q87 q88 q89 q90 q91 q92 q93 q94 q95 q96 q97 q98 q99 q100 q101 q102 q103 q104 q105 q106 w4 HW4 HB4
      clear HRw0
      go_wp2_with fail
      refine ShaD5.loop5 w4 wb l _ _ _ _ _ _ _ _ _ _ _ _ _ _ _ _ _ _ _ _ _ _ _ _ _ _ _ _ _ _ _ _ _ _ _ _ _ _ _ _ _ _ _ _ _ _ _ _ _ _ _ _ _ _ _ _ _ _ _ _ _ _ _ _ _ _ _ _ _ _ _ _ _ _ _ _ _ _ _ _ _ _ _ _ _ _ _ _ _ _ _ _ _ _ _ _ _ _ _ _ _ _ _ _ _ _ _ _ _ _ _ _ _ _ _ _ _ _ _ _ _ _ _ _ _ _ _ _ _ _ _ _ _ _ _ _ _ _ _ _ _ _ _ _ _ _ _ _ _ _ _ _ _ _ _ _ _ _ _ _ _ _ _ _ _ _ _ _ _ _ _ _ _ _ _ _ _ _ _ _ _ _ _ _ _ _ _ _ _ _ _ _ _ _ _ _ _ _ _ _ _ _ _ _ _ _ _ _ _ _ _ _ _ _ _ _ _ _ _ _ _ _ _ _ _ _ _ _ _ _ _ _ _ _ _ _ _ _ _ _ _ _ _ _ _ _ _ _ _ _ _ _ _ _ _ _ _ _ _ _ _ _ _ _ _ _ _ _ _ _ _ _ _ _ _ _ _ _ _ _ _ _ _ _ _ _ _ _ _ _ _ _ _ _ _ _ _ _ HW4.out ?_
      intro q11 q12 q13 q107 q108 q109 q110 q111 q112 q113 q114 q115 q116 q117 q118 q119 q120 q121 q122 q123 q124 q125 q126 q127 q128 q129 q130 q131 q132 q133 q134 q135 q136 q137 q138 q139 q140 q141 q142 q143 q144 q145 q146 q147 q148 q149 q150 q151 q152 q153 q154 q155 q156 q157 q158 q159 q160 q161 q162 q163 q164 q165 q166 q167 q168 w5 HW5 HB5
      have HB05 : Fact (Below wb w0 w5) := ⟨HB4.out.trans HB5.out⟩
      have HRq : Fact (w5.heap[hb]? = some (.cells (vArr v') 161 (0, 0))) := ⟨by rw [HB05.out.block _ HHW.out]; exact HRh0.out⟩
      obtain ⟨wty, fr, hgr⟩ := laidR_move HRG.out (HB0.out.trans (HB05.out.mono (Nat.le_of_lt HHW.out))) H0.out
      have HGR := Fact.mk hgr
      clear hgr HW4 HB4 HB5
      obtain ⟨ws, hws⟩ : ∃ ws, schedF 48 (words16 l) = ws := ⟨_, rfl⟩
      rw [hws] at HW5
      have HSF : Fact (ws = schedF 48 (words16 l)) := ⟨hws.symm⟩
      clear hws
      obtain ⟨ha, hb_, hc, hd, he, hf, hg, hh⟩ := v'
      have p0 := row_cell (i := 0) (v := .int .u32 (U ha)) HRq.out rfl
      have p1 := row_cell (i := 1) (v := .int .u32 (U hb_)) HRq.out rfl
      have p2 := row_cell (i := 2) (v := .int .u32 (U hc)) HRq.out rfl
      have p3 := row_cell (i := 3) (v := .int .u32 (U hd)) HRq.out rfl
      have p4 := row_cell (i := 4) (v := .int .u32 (U he)) HRq.out rfl
      have p5 := row_cell (i := 5) (v := .int .u32 (U hf)) HRq.out rfl
      have p6 := row_cell (i := 6) (v := .int .u32 (U hg)) HRq.out rfl
      have p7 := row_cell (i := 7) (v := .int .u32 (U hh)) HRq.out rfl
      go_wp2_with fail
      go_quiet (fail)
      go_wp2_with fail
      generalize hz : w5.drewN nq = w6
      have HW6 : Fact (w6.heap[wb]? = some (.cells (wArr ws) 161 (0, 0))) := ⟨by rw [← hz]; exact HW5.out⟩
      have HR6 : Fact (w6.heap[hb]? = some (.cells (vArr ⟨ha, hb_, hc, hd, he, hf, hg, hh⟩) 161 (0, 0))) := ⟨by rw [← hz]; exact HRq.out⟩
      have HG6 : Fact (w6.heap[1]? = some (.cells (wArr kL) wty fr)) := ⟨by rw [← hz]; exact HGR.out⟩
      have HB6 : Fact (Below wb w0 w6) := ⟨by rw [← hz]; exact below_drewN' HB05.out nq⟩
      clear hz p0 p1 p2 p3 p4 p5 p6 p7 HRq HGR HW5 HB05
      have HWL : Fact (ws.length = 64) := ⟨by rw [HSF.out]; exact sched_len l⟩
      obtain ⟨vs, hvs⟩ : ∃ vs, V8.run kL ws ⟨ha, hb_, hc, hd, he, hf, hg, hh⟩ = vs := ⟨_, rfl⟩
      have HVS := Fact.mk hvs
      clear hvs
      refine ShaD6.loop6 w6 wb ws ha hb_ hc hd he hf hg hh vs wty fr _ _ _ _ _ _ _ _ _ _ _ _ _ _ _ _ _ _ _ _ _ _ _ _ _ _ _ _ _ _ _ _ _ _ _ _ _ _ _ _ _ _ _ _ _ _ _ _ _ _ _ _ _ _ _ _ _ _ _ _ _ _ _ _ _ _ _ _ _ _ _ _ _ _ _ _ _ _ _ _ _ _ _ _ _ _ _ _ _ _ _ _ _ _ _ _ _ _ _ _ _ _ _ _ _ _ _ _ _ _ _ _ _ _ _ _ _ _ _ _ _ _ _ _ _ _ _ _ _ _ _ _ _ _ _ _ _ _ _ _ _ _ _ _ _ _ _ _ _ _ _ _ _ _ _ _ _ _ _ _ _ _ _ _ _ _ _ _ _ _ _ _ _ _ _ _ _ _ _ _ _ _ _ _ _ _ _ _ _ _ _ _ _ _ _ _ _ _ _ _ _ _ _ _ _ _ _ _ _ _ _ _ _ _ _ _ _ _ _ _ _ _ _ _ _ _ _ _ _ _ _ _ _ _ _ _ _ _ _ _ _ _ _ _ _ _ _ _ _ _ _ _ _ _ _ _ _ _ _ _ _ _ _ _ _ _ _ _ _ _ _ _ _ _ _ _ _ _ _ _ _ _ _ _ _ _ _ _ _ _ HVS.out HWL.out HW6.out HG6.out ?_
      intro q22 q23 q24 q193 q194 q195 q196 q197 q198 q199 q200 q201 q202 q203 q204 q205 q206 q207 q208 q209 q210 q211 q212 q213 q214 q215 q216 q217 q218 q219 q220 q221 q222 q223 q224 q225 q226 q227 q228 q229 q230 q231 q232 q233 q234 q235 q236 q237 q238 q239 q240 q241 q242 q243 q244 q245 q246 q247 q248 q249 q250 q251 q252 q253 q254 q255 q256 w7 HDR
      have HR7 : Fact (w7.heap[hb]? = some (.cells (lArr (mixL ⟨ha, hb_, hc, hd, he, hf, hg, hh⟩ vs 0)) 161 (0, 0))) := ⟨by obtain ⟨n, hn⟩ := HDR.out; rw [hn]; exact HR6.out⟩
      have HB7 : Fact (Below hb wh w7) := ⟨by obtain ⟨n, hn⟩ := HDR.out; rw [hn]; exact below_drewN' (HB0.out.trans (HB6.out.mono (Nat.le_of_lt HHW.out))) n⟩
      clear HB6 HR6 HG6 HW6 HDR
      go_wp2_with fail
      change Code.wp _ _ _ _ (w7.alloc (.cells (vArr vs) 161))
      generalize hwl : w7.alloc (.cells (vArr vs) 161) = wl
      generalize hlb : w7.heap.size = lb
      have HRl : Fact (wl.heap[lb]? = some (.cells (vArr vs) 161 (0, 0))) := ⟨by rw [← hwl, ← hlb]; exact heap_alloc_new _ _⟩
      have HHL : Fact (hb < lb) := ⟨by rw [← hlb]; exact Go.lt_of_block HR7.out⟩
      have HRl0 : Fact (wl.heap[hb]? = some (.cells (lArr (mixL ⟨ha, hb_, hc, hd, he, hf, hg, hh⟩ vs 0)) 161 (0, 0))) := ⟨by rw [← hwl, Below.heap_alloc _ _ _ (by rw [hlb]; exact HHL.out)]; exact HR7.out⟩
      have HBl : Fact (Below hb wh wl) := ⟨by rw [← hwl]; exact HB7.out.alloc (by rw [hlb]; exact Nat.le_of_lt HHL.out) _⟩
      clear hwl hlb HR7 HB7
      generalize hv8 : (⟨ha, hb_, hc, hd, he, hf, hg, hh⟩ : V8) = v8 at HRl0 HVS HF' 
      refine ShaD7.loop7 wl hb lb v8 vs _ _ _ _ _ _ _ _ _ _ _ _ _ _ _ _ _ _ _ _ _ _ _ _ _ _ _ _ _ _ _ _ _ _ _ _ _ _ _ _ _ _ _ _ _ _ _ _ _ _ _ _ _ _ _ _ _ _ _ _ _ _ _ _ _ _ _ _ _ _ _ _ _ _ _ _ _ _ _ _ _ _ _ _ _ _ _ _ _ _ _ _ _ _ _ _ _ _ _ _ _ _ _ _ _ _ _ _ _ _ _ _ _ _ _ _ _ _ _ _ _ _ _ _ _ _ _ _ _ _ _ _ _ _ _ _ _ _ _ _ _ _ _ _ _ _ _ _ _ _ _ _ _ _ _ _ _ _ _ _ _ _ _ _ _ _ _ _ _ _ _ _ _ _ _ _ _ _ _ _ _ _ _ _ _ _ _ _ _ _ _ _ _ _ _ _ _ _ _ _ _ _ _ _ _ _ _ _ _ _ _ _ _ _ _ _ _ _ _ _ _ _ _ _ _ _ _ _ _ _ _ _ _ _ _ _ _ _ _ _ _ _ _ _ _ _ _ _ _ _ _ _ _ _ _ _ _ _ _ _ _ _ _ _ _ _ _ _ _ _ _ _ _ _ _ _ _ _ _ _ _ _ _ _ _ _ _ _ _ _ _ _ _ _ _ _ _ HHL.out HRl0.out HRl.out ?_
      intro q26 q266 q267 q268 q269 q270 q271 q272 q273 q274 q275 q276 q277 q278 q279 q280 q281 w8 HQ HB8
      have HB : Fact (Below hb wh w8) := ⟨HBl.out.trans HB8.out⟩
      clear HRl HRl0 HBl HB8
      go_wp2_with fail
      go_roundg (t - (j + 1))
      case measure => have := HJ.out; have := HP64.out; have := HP.out; have := HM6.out; omega
      case rel =>
        have hj1 : j + 1 ≤ t := by have := HP64.out; have := HP.out; have := HM6.out; omega
        obtain ⟨g1, hg1⟩ : ∃ g1, t - (j + 1) = g1 := ⟨_, rfl⟩
        refine ⟨j + 1, p + 64, blk v8 l, by go_num, ⟨by have := HP.out; omega⟩, ⟨by omega⟩, ⟨?_⟩, ⟨?_⟩, HB⟩
        · have h1 := HF'.out
          have h2 : (msgL L).drop (64 * (j + 1)) = l.drop 64 := by rw [← HLD.out, List.drop_drop]; congr 1; have := HP.out; omega
          rw [h2, hg1]
          rw [show t - j = g1 + 1 by omega] at h1
          exact h1
        · refine HQ.out.trans ?_
          unfold blk
          rw [← HSF.out, HVS.out]
          rfl
    · have hjt : j = t := by have := HP.out; have := HM6.out; have := HJ.out; omega
      have hdlt : decide (p < m5) = false := by simpa using hlt
      have hvf : v' = fin := by
        have h := HF'.out
        rw [show gk = 0 by have := HJ.out; omega] at h
        exact h
      subst hvf
      have HX := hexit
      clear HF' hjt hlt HJ hexit
      go_wp2_with fail
      exact HX _ _ _ _ _ _ _ _ _ _ _ _ _ _ _ _ _ _ _ _ _ _ _ _ _ _ _ _ _ _ _ _ _ _ _ _ _ _ _ _ _ _ _ _ _ _ _ _ _ _ _ _ _ _ _ _ _ _ _ _ _ _ _ _ _ _ _ _ _ _ _ _ _ _ _ _ _ _ _ _ _ _ _ _ _ _ _ _ _ _ _ _ _ _ _ _ _ _ _ _ _ _ _ _ _ _ _ _ _ _ _ _ _ _ _ _ _ _ _ _ _ _ _ _ _ _ _ _ _ _ _ _ _ _ _ _ _ _ _ _ _ _ _ _ _ _ _ _ _ _ _ _ _ _ _ _ _ _ _ _ _ _ _ _ _ _ _ _ _ _ _ _ _ _ _ _ _ _ _ _ _ _ _ _ _ _ _ _ _ _ _ _ _ _ _ _ _ _ _ _ _ _ _ _ _ _ _ _ _ _ _ _ _ _ _ _ _ _ _ _ _ _ _ _ _ _ _ _ _ _ _ _ _ _ _ _ _ _ _ _ _ _ _ HR' HB'
end Go.Proofs.YtkmcjokoinoahaaDoor.ShaD3
