/- ferrymanref01.Sum: its seventh loop: the sums of a block. -/
import Derived.Test.YtkmcjokoinoahaaDoorShaD
set_option linter.unusedVariables false
set_option linter.unusedSimpArgs false
namespace Go.Proofs.YtkmcjokoinoahaaDoor.ShaD7
open Go.RowKit Go.Proofs.YtkmcjokoinoahaaDoor.Lib Go.Proofs.YtkmcjokoinoahaaDoor.Reg Go.Proofs.YtkmcjokoinoahaaDoor.PlainS Go.Proofs.YtkmcjokoinoahaaDoor.ShaA Go.Proofs.YtkmcjokoinoahaaDoor.ShaB Go.Proofs.YtkmcjokoinoahaaDoor.ShaC Go.Proofs.YtkmcjokoinoahaaDoor.ShaD
set_option maxHeartbeats 8000000 in
set_option maxRecDepth 100000 in
theorem loop7 {Q0 : Exit → Act → World → Prop} (w : World) (hb lb : Nat) (v8 vs : V8)
    (z0 z1 z2 z3 z4 z5 z7 z8 z9 z10 z11 z12 z13 z14 z15 z16 z17 z18 z19 z20 z21 z22 z23 z24 z27 z28 z29 z30 z31 z32 z33 z34 z35 z36 z37 z38 z39 z40 z41 z42 z43 z44 z45 z46 z47 z48 z49 z50 z51 z52 z53 z54 z55 z56 z57 z58 z59 z60 z61 z62 z63 z64 z65 z66 z67 z68 z69 z70 z71 z72 z73 z74 z75 z76 z77 z78 z79 z80 z81 z82 z83 z84 z85 z86 z87 z88 z89 z90 z91 z92 z93 z94 z95 z96 z97 z98 z99 z100 z101 z102 z103 z104 z105 z106 z107 z108 z109 z110 z111 z112 z113 z114 z115 z116 z117 z118 z119 z120 z121 z122 z123 z124 z125 z126 z127 z128 z129 z130 z131 z132 z133 z134 z135 z136 z137 z138 z139 z140 z141 z142 z143 z144 z145 z146 z147 z148 z149 z150 z151 z152 z153 z154 z155 z156 z157 z158 z159 z160 z161 z162 z163 z164 z165 z166 z167 z168 z169 z170 z171 z172 z173 z174 z175 z176 z177 z178 z179 z180 z181 z182 z183 z184 z185 z186 z187 z188 z189 z190 z191 z192 z193 z194 z195 z196 z197 z198 z199 z200 z201 z202 z203 z204 z205 z206 z207 z208 z209 z210 z211 z212 z213 z214 z215 z216 z217 z218 z219 z220 z221 z222 z223 z224 z225 z226 z227 z228 z229 z230 z231 z232 z233 z234 z235 z236 z237 z238 z239 z240 z241 z242 z243 z244 z245 z246 z247 z248 z249 z250 z251 z252 z253 z254 z255 z256 z257 z258 z259 z260 z261 z262 z263 z264 z265 z266 z267 z268 z269 z270 z271 z272 z273 z274 z275 z276 z277 z278 z279 z280 z281 z282 z283 z284 z285 z286 z287 z288 z289 z290 z291 z292 z293 z294 z295 z296 z297 z298 z299 : Value)
    (hlt : hb < lb) (hr : w.heap[hb]? = some (.cells (lArr (mixL v8 vs 0)) 161 (0, 0))) (hl : w.heap[lb]? = some (.cells (vArr vs) 161 (0, 0)))
    (hexit : ∀ (u26 u266 u267 u268 u269 u270 u271 u272 u273 u274 u275 u276 u277 u278 u279 u280 u281 : Value) w', Fact (w'.heap[hb]? = some (.cells (lArr (mixL v8 vs 8)) 161 (0, 0))) → Fact (Below hb w w') → Q0 (.exit 12) ⟨(List.toArray (z0 :: z1 :: z2 :: z3 :: z4 :: z5 :: .slice (some ⟨hb, 0, none⟩) 8 8 :: z7 :: z8 :: z9 :: z10 :: z11 :: z12 :: z13 :: z14 :: z15 :: z16 :: z17 :: z18 :: z19 :: z20 :: z21 :: z22 :: z23 :: z24 :: .slice (some ⟨lb, 0, none⟩) 8 8 :: u26 :: z27 :: z28 :: z29 :: z30 :: z31 :: z32 :: z33 :: z34 :: z35 :: z36 :: z37 :: z38 :: z39 :: z40 :: z41 :: z42 :: z43 :: z44 :: z45 :: z46 :: z47 :: z48 :: z49 :: z50 :: z51 :: z52 :: z53 :: z54 :: z55 :: z56 :: z57 :: z58 :: z59 :: z60 :: z61 :: z62 :: z63 :: z64 :: z65 :: z66 :: z67 :: z68 :: z69 :: z70 :: z71 :: z72 :: z73 :: z74 :: z75 :: z76 :: z77 :: z78 :: z79 :: z80 :: z81 :: z82 :: z83 :: z84 :: z85 :: z86 :: z87 :: z88 :: z89 :: z90 :: z91 :: z92 :: z93 :: z94 :: z95 :: z96 :: z97 :: z98 :: z99 :: z100 :: z101 :: z102 :: z103 :: z104 :: z105 :: z106 :: z107 :: z108 :: z109 :: z110 :: z111 :: z112 :: z113 :: z114 :: z115 :: z116 :: z117 :: z118 :: z119 :: z120 :: z121 :: z122 :: z123 :: z124 :: z125 :: z126 :: z127 :: z128 :: z129 :: z130 :: z131 :: z132 :: z133 :: z134 :: z135 :: z136 :: z137 :: z138 :: z139 :: z140 :: z141 :: z142 :: z143 :: z144 :: z145 :: z146 :: z147 :: z148 :: z149 :: z150 :: z151 :: z152 :: z153 :: z154 :: z155 :: z156 :: z157 :: z158 :: z159 :: z160 :: z161 :: z162 :: z163 :: z164 :: z165 :: z166 :: z167 :: z168 :: z169 :: z170 :: z171 :: z172 :: z173 :: z174 :: z175 :: z176 :: z177 :: z178 :: z179 :: z180 :: z181 :: z182 :: z183 :: z184 :: z185 :: z186 :: z187 :: z188 :: z189 :: z190 :: z191 :: z192 :: z193 :: z194 :: z195 :: z196 :: z197 :: z198 :: z199 :: z200 :: z201 :: z202 :: z203 :: z204 :: z205 :: z206 :: z207 :: z208 :: z209 :: z210 :: z211 :: z212 :: z213 :: z214 :: z215 :: z216 :: z217 :: z218 :: z219 :: z220 :: z221 :: z222 :: z223 :: z224 :: z225 :: z226 :: z227 :: z228 :: z229 :: z230 :: z231 :: z232 :: z233 :: z234 :: z235 :: z236 :: z237 :: z238 :: z239 :: z240 :: z241 :: z242 :: z243 :: z244 :: z245 :: z246 :: z247 :: z248 :: z249 :: z250 :: z251 :: z252 :: z253 :: z254 :: z255 :: z256 :: z257 :: z258 :: z259 :: z260 :: z261 :: z262 :: z263 :: z264 :: z265 :: u266 :: u267 :: u268 :: u269 :: u270 :: u271 :: u272 :: u273 :: u274 :: u275 :: u276 :: u277 :: u278 :: u279 :: u280 :: u281 :: z282 :: z283 :: z284 :: z285 :: z286 :: z287 :: z288 :: z289 :: z290 :: z291 :: z292 :: z293 :: z294 :: z295 :: z296 :: z297 :: z298 :: z299 :: [])), []⟩ w') :
    Code.wp Tryd.prog (Code.loop (bodyN 6)) Q0 ⟨(List.toArray (z0 :: z1 :: z2 :: z3 :: z4 :: z5 :: .slice (some ⟨hb, 0, none⟩) 8 8 :: z7 :: z8 :: z9 :: z10 :: z11 :: z12 :: z13 :: z14 :: z15 :: z16 :: z17 :: z18 :: z19 :: z20 :: z21 :: z22 :: z23 :: z24 :: .slice (some ⟨lb, 0, none⟩) 8 8 :: .int .i64 0 :: z27 :: z28 :: z29 :: z30 :: z31 :: z32 :: z33 :: z34 :: z35 :: z36 :: z37 :: z38 :: z39 :: z40 :: z41 :: z42 :: z43 :: z44 :: z45 :: z46 :: z47 :: z48 :: z49 :: z50 :: z51 :: z52 :: z53 :: z54 :: z55 :: z56 :: z57 :: z58 :: z59 :: z60 :: z61 :: z62 :: z63 :: z64 :: z65 :: z66 :: z67 :: z68 :: z69 :: z70 :: z71 :: z72 :: z73 :: z74 :: z75 :: z76 :: z77 :: z78 :: z79 :: z80 :: z81 :: z82 :: z83 :: z84 :: z85 :: z86 :: z87 :: z88 :: z89 :: z90 :: z91 :: z92 :: z93 :: z94 :: z95 :: z96 :: z97 :: z98 :: z99 :: z100 :: z101 :: z102 :: z103 :: z104 :: z105 :: z106 :: z107 :: z108 :: z109 :: z110 :: z111 :: z112 :: z113 :: z114 :: z115 :: z116 :: z117 :: z118 :: z119 :: z120 :: z121 :: z122 :: z123 :: z124 :: z125 :: z126 :: z127 :: z128 :: z129 :: z130 :: z131 :: z132 :: z133 :: z134 :: z135 :: z136 :: z137 :: z138 :: z139 :: z140 :: z141 :: z142 :: z143 :: z144 :: z145 :: z146 :: z147 :: z148 :: z149 :: z150 :: z151 :: z152 :: z153 :: z154 :: z155 :: z156 :: z157 :: z158 :: z159 :: z160 :: z161 :: z162 :: z163 :: z164 :: z165 :: z166 :: z167 :: z168 :: z169 :: z170 :: z171 :: z172 :: z173 :: z174 :: z175 :: z176 :: z177 :: z178 :: z179 :: z180 :: z181 :: z182 :: z183 :: z184 :: z185 :: z186 :: z187 :: z188 :: z189 :: z190 :: z191 :: z192 :: z193 :: z194 :: z195 :: z196 :: z197 :: z198 :: z199 :: z200 :: z201 :: z202 :: z203 :: z204 :: z205 :: z206 :: z207 :: z208 :: z209 :: z210 :: z211 :: z212 :: z213 :: z214 :: z215 :: z216 :: z217 :: z218 :: z219 :: z220 :: z221 :: z222 :: z223 :: z224 :: z225 :: z226 :: z227 :: z228 :: z229 :: z230 :: z231 :: z232 :: z233 :: z234 :: z235 :: z236 :: z237 :: z238 :: z239 :: z240 :: z241 :: z242 :: z243 :: z244 :: z245 :: z246 :: z247 :: z248 :: z249 :: z250 :: z251 :: z252 :: z253 :: z254 :: z255 :: z256 :: z257 :: z258 :: z259 :: z260 :: z261 :: z262 :: z263 :: z264 :: z265 :: z266 :: z267 :: z268 :: z269 :: z270 :: z271 :: z272 :: z273 :: z274 :: z275 :: z276 :: z277 :: z278 :: z279 :: z280 :: z281 :: z282 :: z283 :: z284 :: z285 :: z286 :: z287 :: z288 :: z289 :: z290 :: z291 :: z292 :: z293 :: z294 :: z295 :: z296 :: z297 :: z298 :: z299 :: [])), []⟩ w := by
  conv => arg 2; arg 1; whnf
  have HHL := Fact.mk hlt
  have HRl0 := Fact.mk hr
  have HRl := Fact.mk hl
  have HBl : Fact (Below hb w w) := ⟨Below.refl _ _⟩
  clear hlt hr hl
  have s24 : ∀ x, IntKind.u32.wrap (U x * (16777216 : Int)) = U (x <<< 24) := fun x => r_shl (k := 24) (by omega)
  have s16 : ∀ x, IntKind.u32.wrap (U x * (65536 : Int)) = U (x <<< 16) := fun x => r_shl (k := 16) (by omega)
  have s8 : ∀ x, IntKind.u32.wrap (U x * (256 : Int)) = U (x <<< 8) := fun x => r_shl (k := 8) (by omega)
  have ror := r_or
  have rxo := r_xor
  have ran := r_and
  have rad := r_add
  have rno := r_not
  have hsg : IntKind.u32.signed = false := rfl
  have d3 : ∀ x, U x / (8 : Int) = U (x >>> 3) := fun x => r_shr (k := 3) (by omega)
  have d10 : ∀ x, U x / (1024 : Int) = U (x >>> 10) := fun x => r_shr (k := 10) (by omega)
  have rby := r_byte
  go_loopg [26] 8 (fun kq i wq => ∃ (k : Nat), i = .int .i64 (k : Int) ∧ Fact (k + kq = 8) ∧ Fact (wq.heap[hb]? = some (.cells (lArr (mixL v8 vs k)) 161 (0, 0))) ∧ Fact (wq.heap[lb]? = some (.cells (vArr vs) 161 (0, 0))) ∧ Fact (Below hb w wq))
  case atStart => exact ⟨0, rfl, ⟨rfl⟩, HRl0, HRl, HBl⟩
  case round =>
    clear HRl HRl0 HBl
    obtain ⟨k, rfl, HK, HQ, HV, HB⟩ := hrel
    by_cases hlt : k < 8
    · have HLT := Fact.mk hlt
      have b8 : (k : Int) < 8 := by omega
      have p0 := row_cell HQ.out (mix_get hlt)
      have p1 := row_cell HV.out (v_get hlt)
      have f0 := row_free (i := k) HQ.out
      generalize hx : v8.l.getD k 0 = x at p0
      generalize hy : vs.l.getD k 0 = y at p1
      have HX := Fact.mk hx
      have HY := Fact.mk hy
      clear hx hy
      go_wp2_with fail
      go_still_tail 12, (by kernel_rfl)
      change wpList _ _ _ _ _ wr.drew
      go_wp2_with fail
      go_roundg (8 - (k + 1))
      case measure => have := HK.out; have := HLT.out; omega
      case rel =>
        refine ⟨k + 1, by go_num, ⟨by have := HLT.out; omega⟩, ⟨?_⟩, ⟨?_⟩, ⟨(HB.out.setCell (p := ⟨hb, k, none⟩) (Nat.le_refl _) _).drew⟩⟩
        · refine (row_set (w := wr) _ HQ.out).trans ?_
          rw [← HX.out, ← HY.out, mix_set HLT.out]
        · exact (Below.heap_setCell _ _ _ _ (Nat.ne_of_gt HHL.out)).trans HV.out
    · have hk8 : k = 8 := by have := HK.out; omega
      subst hk8
      have HX := hexit
      clear hlt HK hexit
      go_wp2_with fail
      exact HX _ _ _ _ _ _ _ _ _ _ _ _ _ _ _ _ _ _ HQ HB
end Go.Proofs.YtkmcjokoinoahaaDoor.ShaD7
