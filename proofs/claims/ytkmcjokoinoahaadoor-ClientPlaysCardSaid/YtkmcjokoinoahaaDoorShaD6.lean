/- ferrymanref01.Sum: its sixth loop: sixty-four rounds. -/
import Derived.Test.YtkmcjokoinoahaaDoorShaD
set_option linter.unusedVariables false
set_option linter.unusedSimpArgs false
namespace Go.Proofs.YtkmcjokoinoahaaDoor.ShaD6
open Go.RowKit Go.Proofs.YtkmcjokoinoahaaDoor.Lib Go.Proofs.YtkmcjokoinoahaaDoor.Reg Go.Proofs.YtkmcjokoinoahaaDoor.PlainS Go.Proofs.YtkmcjokoinoahaaDoor.ShaA Go.Proofs.YtkmcjokoinoahaaDoor.ShaB Go.Proofs.YtkmcjokoinoahaaDoor.ShaC Go.Proofs.YtkmcjokoinoahaaDoor.ShaD
set_option maxHeartbeats 8000000 in
set_option maxRecDepth 100000 in
theorem loop6 {Q0 : Exit → Act → World → Prop} (w : World) (wb : Nat) (ws : List UInt32) (ha hb_ hc hd he hf hg hh : UInt32) (vs : V8) (wty : TypeId) (fr : Nat × Nat)
    (z0 z1 z2 z3 z4 z5 z6 z7 z9 z10 z11 z12 z13 z23 z24 z25 z26 z27 z28 z29 z30 z31 z32 z33 z34 z35 z36 z37 z38 z39 z40 z41 z42 z43 z44 z45 z46 z47 z48 z49 z50 z51 z52 z53 z54 z55 z56 z57 z58 z59 z60 z61 z62 z63 z64 z65 z66 z67 z68 z69 z70 z71 z72 z73 z74 z75 z76 z77 z78 z79 z80 z81 z82 z83 z84 z85 z86 z87 z88 z89 z90 z91 z92 z93 z94 z95 z96 z97 z98 z99 z100 z101 z102 z103 z104 z105 z106 z107 z108 z109 z110 z111 z112 z113 z114 z115 z116 z117 z118 z119 z120 z121 z122 z123 z124 z125 z126 z127 z128 z129 z130 z131 z132 z133 z134 z135 z136 z137 z138 z139 z140 z141 z142 z143 z144 z145 z146 z147 z148 z149 z150 z151 z152 z153 z154 z155 z156 z157 z158 z159 z160 z161 z162 z163 z164 z165 z166 z167 z168 z169 z170 z171 z172 z173 z174 z175 z176 z177 z178 z179 z180 z181 z182 z183 z184 z185 z186 z187 z188 z189 z190 z191 z192 z193 z194 z195 z196 z197 z198 z199 z200 z201 z202 z203 z204 z205 z206 z207 z208 z209 z210 z211 z212 z213 z214 z215 z216 z217 z218 z219 z220 z221 z222 z223 z224 z225 z226 z227 z228 z229 z230 z231 z232 z233 z234 z235 z236 z237 z238 z239 z240 z241 z242 z243 z244 z245 z246 z247 z248 z249 z250 z251 z252 z253 z254 z255 z256 z257 z258 z259 z260 z261 z262 z263 z264 z265 z266 z267 z268 z269 z270 z271 z272 z273 z274 z275 z276 z277 z278 z279 z280 z281 z282 z283 z284 z285 z286 z287 z288 z289 z290 z291 z292 z293 z294 z295 z296 z297 z298 z299 : Value)
    (hv : V8.run kL ws ⟨ha, hb_, hc, hd, he, hf, hg, hh⟩ = vs) (hl : ws.length = 64) (hw : w.heap[wb]? = some (.cells (wArr ws) 161 (0, 0))) (hg0 : w.heap[1]? = some (.cells (wArr kL) wty fr))
    (hexit : ∀ (u22 u23 u24 u193 u194 u195 u196 u197 u198 u199 u200 u201 u202 u203 u204 u205 u206 u207 u208 u209 u210 u211 u212 u213 u214 u215 u216 u217 u218 u219 u220 u221 u222 u223 u224 u225 u226 u227 u228 u229 u230 u231 u232 u233 u234 u235 u236 u237 u238 u239 u240 u241 u242 u243 u244 u245 u246 u247 u248 u249 u250 u251 u252 u253 u254 u255 u256 : Value) w', Fact (∃ n, w' = w.drewN n) → Q0 (.exit 10) ⟨(List.toArray (z0 :: z1 :: z2 :: z3 :: z4 :: z5 :: z6 :: z7 :: .slice (some ⟨wb, 0, none⟩) 64 64 :: z9 :: z10 :: z11 :: z12 :: z13 :: .int .u32 (U vs.a) :: .int .u32 (U vs.b) :: .int .u32 (U vs.c) :: .int .u32 (U vs.d) :: .int .u32 (U vs.e) :: .int .u32 (U vs.f) :: .int .u32 (U vs.g) :: .int .u32 (U vs.h) :: u22 :: u23 :: u24 :: z25 :: z26 :: z27 :: z28 :: z29 :: z30 :: z31 :: z32 :: z33 :: z34 :: z35 :: z36 :: z37 :: z38 :: z39 :: z40 :: z41 :: z42 :: z43 :: z44 :: z45 :: z46 :: z47 :: z48 :: z49 :: z50 :: z51 :: z52 :: z53 :: z54 :: z55 :: z56 :: z57 :: z58 :: z59 :: z60 :: z61 :: z62 :: z63 :: z64 :: z65 :: z66 :: z67 :: z68 :: z69 :: z70 :: z71 :: z72 :: z73 :: z74 :: z75 :: z76 :: z77 :: z78 :: z79 :: z80 :: z81 :: z82 :: z83 :: z84 :: z85 :: z86 :: z87 :: z88 :: z89 :: z90 :: z91 :: z92 :: z93 :: z94 :: z95 :: z96 :: z97 :: z98 :: z99 :: z100 :: z101 :: z102 :: z103 :: z104 :: z105 :: z106 :: z107 :: z108 :: z109 :: z110 :: z111 :: z112 :: z113 :: z114 :: z115 :: z116 :: z117 :: z118 :: z119 :: z120 :: z121 :: z122 :: z123 :: z124 :: z125 :: z126 :: z127 :: z128 :: z129 :: z130 :: z131 :: z132 :: z133 :: z134 :: z135 :: z136 :: z137 :: z138 :: z139 :: z140 :: z141 :: z142 :: z143 :: z144 :: z145 :: z146 :: z147 :: z148 :: z149 :: z150 :: z151 :: z152 :: z153 :: z154 :: z155 :: z156 :: z157 :: z158 :: z159 :: z160 :: z161 :: z162 :: z163 :: z164 :: z165 :: z166 :: z167 :: z168 :: z169 :: z170 :: z171 :: z172 :: z173 :: z174 :: z175 :: z176 :: z177 :: z178 :: z179 :: z180 :: z181 :: z182 :: z183 :: z184 :: z185 :: z186 :: z187 :: z188 :: z189 :: z190 :: z191 :: z192 :: u193 :: u194 :: u195 :: u196 :: u197 :: u198 :: u199 :: u200 :: u201 :: u202 :: u203 :: u204 :: u205 :: u206 :: u207 :: u208 :: u209 :: u210 :: u211 :: u212 :: u213 :: u214 :: u215 :: u216 :: u217 :: u218 :: u219 :: u220 :: u221 :: u222 :: u223 :: u224 :: u225 :: u226 :: u227 :: u228 :: u229 :: u230 :: u231 :: u232 :: u233 :: u234 :: u235 :: u236 :: u237 :: u238 :: u239 :: u240 :: u241 :: u242 :: u243 :: u244 :: u245 :: u246 :: u247 :: u248 :: u249 :: u250 :: u251 :: u252 :: u253 :: u254 :: u255 :: u256 :: z257 :: z258 :: z259 :: z260 :: z261 :: z262 :: z263 :: z264 :: z265 :: z266 :: z267 :: z268 :: z269 :: z270 :: z271 :: z272 :: z273 :: z274 :: z275 :: z276 :: z277 :: z278 :: z279 :: z280 :: z281 :: z282 :: z283 :: z284 :: z285 :: z286 :: z287 :: z288 :: z289 :: z290 :: z291 :: z292 :: z293 :: z294 :: z295 :: z296 :: z297 :: z298 :: z299 :: [])), []⟩ w') :
    Code.wp Tryd.prog (Code.loop (bodyN 5)) Q0 ⟨(List.toArray (z0 :: z1 :: z2 :: z3 :: z4 :: z5 :: z6 :: z7 :: .slice (some ⟨wb, 0, none⟩) 64 64 :: z9 :: z10 :: z11 :: z12 :: z13 :: .int .u32 (U ha) :: .int .u32 (U hb_) :: .int .u32 (U hc) :: .int .u32 (U hd) :: .int .u32 (U he) :: .int .u32 (U hf) :: .int .u32 (U hg) :: .int .u32 (U hh) :: .int .i64 0 :: z23 :: z24 :: z25 :: z26 :: z27 :: z28 :: z29 :: z30 :: z31 :: z32 :: z33 :: z34 :: z35 :: z36 :: z37 :: z38 :: z39 :: z40 :: z41 :: z42 :: z43 :: z44 :: z45 :: z46 :: z47 :: z48 :: z49 :: z50 :: z51 :: z52 :: z53 :: z54 :: z55 :: z56 :: z57 :: z58 :: z59 :: z60 :: z61 :: z62 :: z63 :: z64 :: z65 :: z66 :: z67 :: z68 :: z69 :: z70 :: z71 :: z72 :: z73 :: z74 :: z75 :: z76 :: z77 :: z78 :: z79 :: z80 :: z81 :: z82 :: z83 :: z84 :: z85 :: z86 :: z87 :: z88 :: z89 :: z90 :: z91 :: z92 :: z93 :: z94 :: z95 :: z96 :: z97 :: z98 :: z99 :: z100 :: z101 :: z102 :: z103 :: z104 :: z105 :: z106 :: z107 :: z108 :: z109 :: z110 :: z111 :: z112 :: z113 :: z114 :: z115 :: z116 :: z117 :: z118 :: z119 :: z120 :: z121 :: z122 :: z123 :: z124 :: z125 :: z126 :: z127 :: z128 :: z129 :: z130 :: z131 :: z132 :: z133 :: z134 :: z135 :: z136 :: z137 :: z138 :: z139 :: z140 :: z141 :: z142 :: z143 :: z144 :: z145 :: z146 :: z147 :: z148 :: z149 :: z150 :: z151 :: z152 :: z153 :: z154 :: z155 :: z156 :: z157 :: z158 :: z159 :: z160 :: z161 :: z162 :: z163 :: z164 :: z165 :: z166 :: z167 :: z168 :: z169 :: z170 :: z171 :: z172 :: z173 :: z174 :: z175 :: z176 :: z177 :: z178 :: z179 :: z180 :: z181 :: z182 :: z183 :: z184 :: z185 :: z186 :: z187 :: z188 :: z189 :: z190 :: z191 :: z192 :: z193 :: z194 :: z195 :: z196 :: z197 :: z198 :: z199 :: z200 :: z201 :: z202 :: z203 :: z204 :: z205 :: z206 :: z207 :: z208 :: z209 :: z210 :: z211 :: z212 :: z213 :: z214 :: z215 :: z216 :: z217 :: z218 :: z219 :: z220 :: z221 :: z222 :: z223 :: z224 :: z225 :: z226 :: z227 :: z228 :: z229 :: z230 :: z231 :: z232 :: z233 :: z234 :: z235 :: z236 :: z237 :: z238 :: z239 :: z240 :: z241 :: z242 :: z243 :: z244 :: z245 :: z246 :: z247 :: z248 :: z249 :: z250 :: z251 :: z252 :: z253 :: z254 :: z255 :: z256 :: z257 :: z258 :: z259 :: z260 :: z261 :: z262 :: z263 :: z264 :: z265 :: z266 :: z267 :: z268 :: z269 :: z270 :: z271 :: z272 :: z273 :: z274 :: z275 :: z276 :: z277 :: z278 :: z279 :: z280 :: z281 :: z282 :: z283 :: z284 :: z285 :: z286 :: z287 :: z288 :: z289 :: z290 :: z291 :: z292 :: z293 :: z294 :: z295 :: z296 :: z297 :: z298 :: z299 :: [])), []⟩ w := by
  conv => arg 2; arg 1; whnf
  have HV := Fact.mk hv
  have HL := Fact.mk hl
  have HW6 := Fact.mk hw
  have HG6 := Fact.mk hg0
  clear hv hl hw hg0
  have s24 : ∀ x, IntKind.u32.wrap (U x * (16777216 : Int)) = U (x <<< 24) := fun x => r_shl (k := 24) (by omega)
  have s16 : ∀ x, IntKind.u32.wrap (U x * (65536 : Int)) = U (x <<< 16) := fun x => r_shl (k := 16) (by omega)
  have s8 : ∀ x, IntKind.u32.wrap (U x * (256 : Int)) = U (x <<< 8) := fun x => r_shl (k := 8) (by omega)
  have ror := r_or
  have rxo := r_xor
  have ran := r_and
  have rad := r_add
  have rno := r_not
  have hsg : IntKind.u32.signed = false := rfl
  have d3 : ∀ x, U x / (8 : Int) = U (x >>> 3) := fun x => r_shr (k := 3) (by omega)
  have d10 : ∀ x, U x / (1024 : Int) = U (x >>> 10) := fun x => r_shr (k := 10) (by omega)
  have rby := r_byte
  go_loopg [14, 15, 16, 17, 18, 19, 20, 21, 22] 64 (fun kq a b c d e f g h i wq => ∃ (k : Nat) (vs : V8), a = .int .u32 (U vs.a) ∧ b = .int .u32 (U vs.b) ∧ c = .int .u32 (U vs.c) ∧ d = .int .u32 (U vs.d) ∧ e = .int .u32 (U vs.e) ∧ f = .int .u32 (U vs.f) ∧ g = .int .u32 (U vs.g) ∧ h = .int .u32 (U vs.h) ∧ i = .int .i64 (k : Int) ∧ Fact (k + kq = 64) ∧ Fact (V8.run (kL.drop k) (ws.drop k) vs = V8.run kL ws ⟨ha, hb_, hc, hd, he, hf, hg, hh⟩) ∧ Fact (∃ n, wq = w.drewN n))
  case atStart => exact ⟨0, ⟨ha, hb_, hc, hd, he, hf, hg, hh⟩, rfl, rfl, rfl, rfl, rfl, rfl, rfl, rfl, rfl, ⟨rfl⟩, ⟨rfl⟩, ⟨0, rfl⟩⟩
  case round =>
    obtain ⟨k, ⟨a, b, c', d, e, f, g, h⟩, rfl, rfl, rfl, rfl, rfl, rfl, rfl, rfl, rfl, HK, HRN, HDR⟩ := hrel
    have HW7 : Fact (wr.heap[wb]? = some (.cells (wArr ws) 161 (0, 0))) := ⟨by obtain ⟨n, hn⟩ := HDR.out; rw [hn]; exact HW6.out⟩
    by_cases hlt : k < 64
    · have HLT := Fact.mk hlt
      have b64 : (k : Int) < 64 := by omega
      have HG7 : Fact (wr.heap[1]? = some (.cells (wArr kL) wty fr)) := ⟨by obtain ⟨n, hn⟩ := HDR.out; rw [hn]; exact HG6.out⟩
      have hcr := row_cell HG7.out (wArr_at (ws := kL) (i := k) (by exact hlt))
      have hcw := row_cell HW7.out (wArr_at (i := k) (by rw [HL.out]; exact hlt))
      generalize hkw : kL.getD k 0 = kw at hcr
      obtain ⟨ww, hww⟩ : ∃ ww, ws.getD k 0 = ww := ⟨_, rfl⟩
      rw [hww] at hcw
      have HKW := Fact.mk hkw
      have HWW := Fact.mk hww
      clear hkw hww hlt
      try simp only
      go_wp2_with fail
      go_quiet (first | (go_at_call 79; refine Calls.quiet_of (Turn_calls _ _ 6 _ (by decide) (by decide) rfl)) | (go_at_call 79; refine Calls.quiet_of (Turn_calls _ _ 11 _ (by decide) (by decide) rfl)) | (go_at_call 79; refine Calls.quiet_of (Turn_calls _ _ 25 _ (by decide) (by decide) rfl)))
      obtain ⟨wy, hz⟩ : ∃ wy, wr.drewN nq = wy := ⟨_, rfl⟩
      have HDY : Fact (∃ n, wy = w.drewN n) := ⟨by obtain ⟨n, hn⟩ := HDR.out; exact ⟨n + nq, by rw [← hz, hn, World.drewN_drewN]⟩⟩
      rw [hz]
      clear hz hcr hcw HDR HW7 HG7
      go_wp2_with (go_at_call 79; fail)
      refine (Turn_calls _ _ 2 _ (by decide) (by decide) rfl).mono ?_
      rintro e1 w1' ⟨rfl, m1, rfl⟩
      go_wp2_with (go_at_call 79; fail)
      refine (Turn_calls _ _ 13 _ (by decide) (by decide) rfl).mono ?_
      rintro e2 w2' ⟨rfl, m2, rfl⟩
      go_wp2_with (go_at_call 79; fail)
      refine (Turn_calls _ _ 22 _ (by decide) (by decide) rfl).mono ?_
      rintro e3 w3' ⟨rfl, m3, rfl⟩
      go_wp2_with fail
      go_roundg (64 - (k + 1))
      case measure => have := HK.out; have := HLT.out; omega
      case rel =>
        refine ⟨k + 1, V8.step ⟨a, b, c', d, e, f, g, h⟩ kw ww, ?_, rfl, rfl, rfl, ?_, rfl, rfl, rfl, by go_num, ⟨by have := HLT.out; omega⟩, ⟨?_⟩, ⟨?_⟩⟩
        · simp only [V8.step, V8.x, V8.y, ← chs_or', ← mjs_or']; rfl
        · simp only [V8.step, V8.x, V8.y, ← chs_or', ← mjs_or']; rfl
        · have hr := HRN.out
          rw [drop_get (l := kL) (by exact HLT.out) HKW.out, drop_get (l := ws) (by rw [HL.out]; exact HLT.out) HWW.out] at hr
          exact hr
        · obtain ⟨n, hn⟩ := HDY.out
          exact ⟨n + (m1 + m2 + m3), by rw [hn]; simp only [World.drewN_drewN, Nat.add_assoc]⟩
    · have hk64 : k = 64 := by have := HK.out; omega
      subst hk64
      have hvs : (⟨a, b, c', d, e, f, g, h⟩ : V8) = vs := by have h1 := HRN.out; rw [show kL.drop 64 = [] from by decide, HV.out] at h1; simpa [V8.run] using h1
      subst hvs
      have HX := hexit
      clear hlt HK HRN hexit
      go_wp2_with fail
      exact HDR
end Go.Proofs.YtkmcjokoinoahaaDoor.ShaD6
