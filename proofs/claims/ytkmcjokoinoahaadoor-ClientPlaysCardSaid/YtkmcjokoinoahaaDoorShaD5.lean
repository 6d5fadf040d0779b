/- ferrymanref01.Sum: its fifth loop: the other words. -/
import Derived.Test.YtkmcjokoinoahaaDoorShaD
set_option linter.unusedVariables false
set_option linter.unusedSimpArgs false
namespace Go.Proofs.YtkmcjokoinoahaaDoor.ShaD5
open Go.RowKit Go.Proofs.YtkmcjokoinoahaaDoor.Lib Go.Proofs.YtkmcjokoinoahaaDoor.Reg Go.Proofs.YtkmcjokoinoahaaDoor.PlainS Go.Proofs.YtkmcjokoinoahaaDoor.ShaA Go.Proofs.YtkmcjokoinoahaaDoor.ShaB Go.Proofs.YtkmcjokoinoahaaDoor.ShaC Go.Proofs.YtkmcjokoinoahaaDoor.ShaD
set_option maxHeartbeats 8000000 in
set_option maxRecDepth 100000 in
theorem loop5 {Q0 : Exit → Act → World → Prop} (w : World) (wb : Nat) (l : List UInt8)
    (z0 z1 z2 z3 z4 z5 z6 z7 z9 z10 z12 z13 z14 z15 z16 z17 z18 z19 z20 z21 z22 z23 z24 z25 z26 z27 z28 z29 z30 z31 z32 z33 z34 z35 z36 z37 z38 z39 z40 z41 z42 z43 z44 z45 z46 z47 z48 z49 z50 z51 z52 z53 z54 z55 z56 z57 z58 z59 z60 z61 z62 z63 z64 z65 z66 z67 z68 z69 z70 z71 z72 z73 z74 z75 z76 z77 z78 z79 z80 z81 z82 z83 z84 z85 z86 z87 z88 z89 z90 z91 z92 z93 z94 z95 z96 z97 z98 z99 z100 z101 z102 z103 z104 z105 z106 z107 z108 z109 z110 z111 z112 z113 z114 z115 z116 z117 z118 z119 z120 z121 z122 z123 z124 z125 z126 z127 z128 z129 z130 z131 z132 z133 z134 z135 z136 z137 z138 z139 z140 z141 z142 z143 z144 z145 z146 z147 z148 z149 z150 z151 z152 z153 z154 z155 z156 z157 z158 z159 z160 z161 z162 z163 z164 z165 z166 z167 z168 z169 z170 z171 z172 z173 z174 z175 z176 z177 z178 z179 z180 z181 z182 z183 z184 z185 z186 z187 z188 z189 z190 z191 z192 z193 z194 z195 z196 z197 z198 z199 z200 z201 z202 z203 z204 z205 z206 z207 z208 z209 z210 z211 z212 z213 z214 z215 z216 z217 z218 z219 z220 z221 z222 z223 z224 z225 z226 z227 z228 z229 z230 z231 z232 z233 z234 z235 z236 z237 z238 z239 z240 z241 z242 z243 z244 z245 z246 z247 z248 z249 z250 z251 z252 z253 z254 z255 z256 z257 z258 z259 z260 z261 z262 z263 z264 z265 z266 z267 z268 z269 z270 z271 z272 z273 z274 z275 z276 z277 z278 z279 z280 z281 z282 z283 z284 z285 z286 z287 z288 z289 z290 z291 z292 z293 z294 z295 z296 z297 z298 z299 : Value)
    (hw : w.heap[wb]? = some (.cells (wArr (words16 l)) 161 (0, 0)))
    (hexit : ∀ (u11 u12 u13 u107 u108 u109 u110 u111 u112 u113 u114 u115 u116 u117 u118 u119 u120 u121 u122 u123 u124 u125 u126 u127 u128 u129 u130 u131 u132 u133 u134 u135 u136 u137 u138 u139 u140 u141 u142 u143 u144 u145 u146 u147 u148 u149 u150 u151 u152 u153 u154 u155 u156 u157 u158 u159 u160 u161 u162 u163 u164 u165 u166 u167 u168 : Value) w', Fact (w'.heap[wb]? = some (.cells (wArr (schedF 48 (words16 l))) 161 (0, 0))) → Fact (Below wb w w') → Q0 (.exit 8) ⟨(List.toArray (z0 :: z1 :: z2 :: z3 :: z4 :: z5 :: z6 :: z7 :: .slice (some ⟨wb, 0, none⟩) 64 64 :: z9 :: z10 :: u11 :: u12 :: u13 :: z14 :: z15 :: z16 :: z17 :: z18 :: z19 :: z20 :: z21 :: z22 :: z23 :: z24 :: z25 :: z26 :: z27 :: z28 :: z29 :: z30 :: z31 :: z32 :: z33 :: z34 :: z35 :: z36 :: z37 :: z38 :: z39 :: z40 :: z41 :: z42 :: z43 :: z44 :: z45 :: z46 :: z47 :: z48 :: z49 :: z50 :: z51 :: z52 :: z53 :: z54 :: z55 :: z56 :: z57 :: z58 :: z59 :: z60 :: z61 :: z62 :: z63 :: z64 :: z65 :: z66 :: z67 :: z68 :: z69 :: z70 :: z71 :: z72 :: z73 :: z74 :: z75 :: z76 :: z77 :: z78 :: z79 :: z80 :: z81 :: z82 :: z83 :: z84 :: z85 :: z86 :: z87 :: z88 :: z89 :: z90 :: z91 :: z92 :: z93 :: z94 :: z95 :: z96 :: z97 :: z98 :: z99 :: z100 :: z101 :: z102 :: z103 :: z104 :: z105 :: z106 :: u107 :: u108 :: u109 :: u110 :: u111 :: u112 :: u113 :: u114 :: u115 :: u116 :: u117 :: u118 :: u119 :: u120 :: u121 :: u122 :: u123 :: u124 :: u125 :: u126 :: u127 :: u128 :: u129 :: u130 :: u131 :: u132 :: u133 :: u134 :: u135 :: u136 :: u137 :: u138 :: u139 :: u140 :: u141 :: u142 :: u143 :: u144 :: u145 :: u146 :: u147 :: u148 :: u149 :: u150 :: u151 :: u152 :: u153 :: u154 :: u155 :: u156 :: u157 :: u158 :: u159 :: u160 :: u161 :: u162 :: u163 :: u164 :: u165 :: u166 :: u167 :: u168 :: z169 :: z170 :: z171 :: z172 :: z173 :: z174 :: z175 :: z176 :: z177 :: z178 :: z179 :: z180 :: z181 :: z182 :: z183 :: z184 :: z185 :: z186 :: z187 :: z188 :: z189 :: z190 :: z191 :: z192 :: z193 :: z194 :: z195 :: z196 :: z197 :: z198 :: z199 :: z200 :: z201 :: z202 :: z203 :: z204 :: z205 :: z206 :: z207 :: z208 :: z209 :: z210 :: z211 :: z212 :: z213 :: z214 :: z215 :: z216 :: z217 :: z218 :: z219 :: z220 :: z221 :: z222 :: z223 :: z224 :: z225 :: z226 :: z227 :: z228 :: z229 :: z230 :: z231 :: z232 :: z233 :: z234 :: z235 :: z236 :: z237 :: z238 :: z239 :: z240 :: z241 :: z242 :: z243 :: z244 :: z245 :: z246 :: z247 :: z248 :: z249 :: z250 :: z251 :: z252 :: z253 :: z254 :: z255 :: z256 :: z257 :: z258 :: z259 :: z260 :: z261 :: z262 :: z263 :: z264 :: z265 :: z266 :: z267 :: z268 :: z269 :: z270 :: z271 :: z272 :: z273 :: z274 :: z275 :: z276 :: z277 :: z278 :: z279 :: z280 :: z281 :: z282 :: z283 :: z284 :: z285 :: z286 :: z287 :: z288 :: z289 :: z290 :: z291 :: z292 :: z293 :: z294 :: z295 :: z296 :: z297 :: z298 :: z299 :: [])), []⟩ w') :
    Code.wp Tryd.prog (Code.loop (bodyN 4)) Q0 ⟨(List.toArray (z0 :: z1 :: z2 :: z3 :: z4 :: z5 :: z6 :: z7 :: .slice (some ⟨wb, 0, none⟩) 64 64 :: z9 :: z10 :: .int .i64 16 :: z12 :: z13 :: z14 :: z15 :: z16 :: z17 :: z18 :: z19 :: z20 :: z21 :: z22 :: z23 :: z24 :: z25 :: z26 :: z27 :: z28 :: z29 :: z30 :: z31 :: z32 :: z33 :: z34 :: z35 :: z36 :: z37 :: z38 :: z39 :: z40 :: z41 :: z42 :: z43 :: z44 :: z45 :: z46 :: z47 :: z48 :: z49 :: z50 :: z51 :: z52 :: z53 :: z54 :: z55 :: z56 :: z57 :: z58 :: z59 :: z60 :: z61 :: z62 :: z63 :: z64 :: z65 :: z66 :: z67 :: z68 :: z69 :: z70 :: z71 :: z72 :: z73 :: z74 :: z75 :: z76 :: z77 :: z78 :: z79 :: z80 :: z81 :: z82 :: z83 :: z84 :: z85 :: z86 :: z87 :: z88 :: z89 :: z90 :: z91 :: z92 :: z93 :: z94 :: z95 :: z96 :: z97 :: z98 :: z99 :: z100 :: z101 :: z102 :: z103 :: z104 :: z105 :: z106 :: z107 :: z108 :: z109 :: z110 :: z111 :: z112 :: z113 :: z114 :: z115 :: z116 :: z117 :: z118 :: z119 :: z120 :: z121 :: z122 :: z123 :: z124 :: z125 :: z126 :: z127 :: z128 :: z129 :: z130 :: z131 :: z132 :: z133 :: z134 :: z135 :: z136 :: z137 :: z138 :: z139 :: z140 :: z141 :: z142 :: z143 :: z144 :: z145 :: z146 :: z147 :: z148 :: z149 :: z150 :: z151 :: z152 :: z153 :: z154 :: z155 :: z156 :: z157 :: z158 :: z159 :: z160 :: z161 :: z162 :: z163 :: z164 :: z165 :: z166 :: z167 :: z168 :: z169 :: z170 :: z171 :: z172 :: z173 :: z174 :: z175 :: z176 :: z177 :: z178 :: z179 :: z180 :: z181 :: z182 :: z183 :: z184 :: z185 :: z186 :: z187 :: z188 :: z189 :: z190 :: z191 :: z192 :: z193 :: z194 :: z195 :: z196 :: z197 :: z198 :: z199 :: z200 :: z201 :: z202 :: z203 :: z204 :: z205 :: z206 :: z207 :: z208 :: z209 :: z210 :: z211 :: z212 :: z213 :: z214 :: z215 :: z216 :: z217 :: z218 :: z219 :: z220 :: z221 :: z222 :: z223 :: z224 :: z225 :: z226 :: z227 :: z228 :: z229 :: z230 :: z231 :: z232 :: z233 :: z234 :: z235 :: z236 :: z237 :: z238 :: z239 :: z240 :: z241 :: z242 :: z243 :: z244 :: z245 :: z246 :: z247 :: z248 :: z249 :: z250 :: z251 :: z252 :: z253 :: z254 :: z255 :: z256 :: z257 :: z258 :: z259 :: z260 :: z261 :: z262 :: z263 :: z264 :: z265 :: z266 :: z267 :: z268 :: z269 :: z270 :: z271 :: z272 :: z273 :: z274 :: z275 :: z276 :: z277 :: z278 :: z279 :: z280 :: z281 :: z282 :: z283 :: z284 :: z285 :: z286 :: z287 :: z288 :: z289 :: z290 :: z291 :: z292 :: z293 :: z294 :: z295 :: z296 :: z297 :: z298 :: z299 :: [])), []⟩ w := by
  conv => arg 2; arg 1; whnf
  have HW := Fact.mk hw
  clear hw
  have s24 : ∀ x, IntKind.u32.wrap (U x * (16777216 : Int)) = U (x <<< 24) := fun x => r_shl (k := 24) (by omega)
  have s16 : ∀ x, IntKind.u32.wrap (U x * (65536 : Int)) = U (x <<< 16) := fun x => r_shl (k := 16) (by omega)
  have s8 : ∀ x, IntKind.u32.wrap (U x * (256 : Int)) = U (x <<< 8) := fun x => r_shl (k := 8) (by omega)
  have ror := r_or
  have rxo := r_xor
  have ran := r_and
  have rad := r_add
  have rno := r_not
  have hsg : IntKind.u32.signed = false := rfl
  have d3 : ∀ x, U x / (8 : Int) = U (x >>> 3) := fun x => r_shr (k := 3) (by omega)
  have d10 : ∀ x, U x / (1024 : Int) = U (x >>> 10) := fun x => r_shr (k := 10) (by omega)
  have rby := r_byte
  go_loopg [11] 48 (fun kq i wq => ∃ (k : Nat) (ws : List UInt32), i = .int .i64 (k : Int) ∧ Fact (k + kq = 64) ∧ Fact (ws.length = k) ∧ Fact (16 ≤ k) ∧ Fact (schedF kq ws = schedF 48 (words16 l)) ∧ Fact (wq.heap[wb]? = some (.cells (wArr ws) 161 (0, 0))) ∧ Fact (Below wb w wq))
  case atStart => exact ⟨16, (List.range 16).map (wordAt l), rfl, ⟨rfl⟩, ⟨by simp⟩, ⟨Nat.le_refl _⟩, ⟨rfl⟩, HW, ⟨Below.refl _ _⟩⟩
  case round =>
    obtain ⟨k, ws, rfl, HK, HL, H16, HSC, HW2, HB⟩ := hrel
    by_cases hlt : k < 64
    · have h16 := H16.out
      obtain ⟨j15, hj15⟩ : ∃ j, k - 15 = j := ⟨_, rfl⟩
      obtain ⟨j2, hj2⟩ : ∃ j, k - 2 = j := ⟨_, rfl⟩
      obtain ⟨j16, hj16⟩ : ∃ j, k - 16 = j := ⟨_, rfl⟩
      obtain ⟨j7, hj7⟩ : ∃ j, k - 7 = j := ⟨_, rfl⟩
      have x15 : IntKind.i64.wrap ((k : Int) - 15) = (j15 : Int) := by rw [IntKind.wrap_i64]; omega
      have x2 : IntKind.i64.wrap ((k : Int) - 2) = (j2 : Int) := by rw [IntKind.wrap_i64]; omega
      have x16 : IntKind.i64.wrap ((k : Int) - 16) = (j16 : Int) := by rw [IntKind.wrap_i64]; omega
      have x7 : IntKind.i64.wrap ((k : Int) - 7) = (j7 : Int) := by rw [IntKind.wrap_i64]; omega
      have b15 : (j15 : Int) < 64 := by omega
      have b2 : (j2 : Int) < 64 := by omega
      have b16 : (j16 : Int) < 64 := by omega
      have b7 : (j7 : Int) < 64 := by omega
      have b64 : (k : Int) < 64 := by omega
      have c15 := row_cell HW2.out (wArr_at (i := j15) (by have := HL.out; omega))
      have HJ : Fact (j16 = k - 16 ∧ j7 = k - 7 ∧ 16 ≤ k) := ⟨by omega⟩
      have HJ2 : Fact (j2 < ws.length) := ⟨by have := HL.out; omega⟩
      have HNX : Fact (nextW ws = ws.getD j16 0 + sg0 (ws.getD j15 0) + ws.getD j7 0 + sg1 (ws.getD j2 0)) := ⟨by unfold nextW; rw [HL.out, hj15, hj2, hj16, hj7]⟩
      generalize ws.getD j15 0 = y15 at c15 HNX
      have HLT := Fact.mk hlt
      clear hj15 hj2 hj16 hj7 h16
      go_wp2_with fail
      go_quiet (first | (go_at_call 79; refine Calls.quiet_of (Turn_calls _ _ 7 _ (by decide) (by decide) rfl)) | (go_at_call 79; refine Calls.quiet_of (Turn_calls _ _ 18 _ (by decide) (by decide) rfl)))
      obtain ⟨wz, hz⟩ : ∃ wz, wr.drewN nq = wz := ⟨_, rfl⟩
      have HWz : Fact (wz.heap[wb]? = some (.cells (wArr ws) 161 (0, 0))) := ⟨by rw [← hz]; exact HW2.out⟩
      have HBz : Fact (Below wb w wz) := ⟨by rw [← hz]; exact ⟨HB.out.os, HB.out.tape, HB.out.output, HB.out.size, HB.out.block⟩⟩
      rw [hz]
      clear hz c15 HW2 HB
      have c2 := row_cell HWz.out (wArr_at (i := j2) HJ2.out)
      generalize ws.getD j2 0 = y2 at c2 HNX
      go_wp2_with fail
      go_quiet (first | (go_at_call 79; refine Calls.quiet_of (Turn_calls _ _ 17 _ (by decide) (by decide) rfl)) | (go_at_call 79; refine Calls.quiet_of (Turn_calls _ _ 19 _ (by decide) (by decide) rfl)))
      obtain ⟨wy, hz⟩ : ∃ wy, wz.drewN nq = wy := ⟨_, rfl⟩
      have HWy : Fact (wy.heap[wb]? = some (.cells (wArr ws) 161 (0, 0))) := ⟨by rw [← hz]; exact HWz.out⟩
      have HBy : Fact (Below wb w wy) := ⟨by rw [← hz]; exact ⟨HBz.out.os, HBz.out.tape, HBz.out.output, HBz.out.size, HBz.out.block⟩⟩
      rw [hz]
      clear hz c2 HWz HBz
      have c16 := row_cell HWy.out (wArr_at (i := j16) (by have := HL.out; have := HJ.out; omega))
      have c7 := row_cell HWy.out (wArr_at (i := j7) (by have := HL.out; have := HJ.out; omega))
      have hcell := row_cell HWy.out (wArr_zero HL.out HLT.out)
      have hfree := row_free (i := k) HWy.out
      generalize ws.getD j16 0 = y16 at c16 HNX
      generalize ws.getD j7 0 = y7 at c7 HNX
      go_wp2_with fail
      go_still_tail 18, (by kernel_rfl)
      change wpList _ _ _ _ _ wy.drew
      go_wp2_with fail
      go_roundg (64 - (k + 1))
      case measure => have := HK.out; have := HLT.out; omega
      case rel =>
        refine ⟨k + 1, ws ++ [nextW ws], by go_num, ⟨by have := HLT.out; omega⟩, ⟨by simp [HL.out]⟩, ⟨by have := HJ.out; omega⟩, ⟨?_⟩, ⟨?_⟩, ⟨(HBy.out.setCell (p := ⟨wb, k, none⟩) (Nat.le_refl _) _).drew⟩⟩
        · have h := HSC.out
          rw [show gk = 64 - (k + 1) + 1 by have := HK.out; have := HLT.out; omega] at h
          exact h
        · refine (row_set (w := wy) _ HWy.out).trans ?_
          rw [wArr_put _ HL.out HLT.out, HNX.out]
          rfl
    · have hk64 : k = 64 := by have := HK.out; have := HL.out; omega
      have hkq : gk = 0 := by have := HK.out; omega
      have HSF : Fact (ws = schedF 48 (words16 l)) := ⟨by have := HSC.out; rw [hkq] at this; exact this⟩
      rw [HSF.out] at HW2
      subst hk64
      have HX := hexit
      clear hlt HK H16 HSC hkq HW hexit
      go_wp2_with fail
      exact HX _ _ _ _ _ _ _ _ _ _ _ _ _ _ _ _ _ _ _ _ _ _ _ _ _ _ _ _ _ _ _ _ _ _ _ _ _ _ _ _ _ _ _ _ _ _ _ _ _ _ _ _ _ _ _ _ _ _ _ _ _ _ _ _ _ _ HW2 HB
end Go.Proofs.YtkmcjokoinoahaaDoor.ShaD5
