/- ferrymanref01.Sum: its fourth loop: the first sixteen words. -/
import Derived.Test.YtkmcjokoinoahaaDoorShaD
set_option linter.unusedVariables false
set_option linter.unusedSimpArgs false
namespace Go.Proofs.YtkmcjokoinoahaaDoor.ShaD4
open Go.RowKit Go.Proofs.YtkmcjokoinoahaaDoor.Lib Go.Proofs.YtkmcjokoinoahaaDoor.Reg Go.Proofs.YtkmcjokoinoahaaDoor.PlainS Go.Proofs.YtkmcjokoinoahaaDoor.ShaA Go.Proofs.YtkmcjokoinoahaaDoor.ShaB Go.Proofs.YtkmcjokoinoahaaDoor.ShaC Go.Proofs.YtkmcjokoinoahaaDoor.ShaD
set_option maxHeartbeats 8000000 in
set_option maxRecDepth 100000 in
theorem loop4 {Q0 : Exit → Act → World → Prop} (w : World) (F : Nat → Prop) (ad : Addr) (m5 c5 p wb : Nat) (M l : List UInt8)
    (z0 z1 z2 z4 z5 z6 z10 z11 z12 z13 z14 z15 z16 z17 z18 z19 z20 z21 z22 z23 z24 z25 z26 z27 z28 z29 z30 z31 z32 z33 z34 z35 z36 z37 z38 z39 z40 z41 z42 z43 z44 z45 z46 z47 z48 z49 z50 z51 z52 z53 z54 z55 z56 z57 z58 z59 z60 z61 z62 z63 z64 z65 z66 z67 z68 z69 z70 z71 z72 z73 z74 z75 z76 z77 z78 z79 z80 z81 z82 z83 z84 z85 z86 z87 z88 z89 z90 z91 z92 z93 z94 z95 z96 z97 z98 z99 z100 z101 z102 z103 z104 z105 z106 z107 z108 z109 z110 z111 z112 z113 z114 z115 z116 z117 z118 z119 z120 z121 z122 z123 z124 z125 z126 z127 z128 z129 z130 z131 z132 z133 z134 z135 z136 z137 z138 z139 z140 z141 z142 z143 z144 z145 z146 z147 z148 z149 z150 z151 z152 z153 z154 z155 z156 z157 z158 z159 z160 z161 z162 z163 z164 z165 z166 z167 z168 z169 z170 z171 z172 z173 z174 z175 z176 z177 z178 z179 z180 z181 z182 z183 z184 z185 z186 z187 z188 z189 z190 z191 z192 z193 z194 z195 z196 z197 z198 z199 z200 z201 z202 z203 z204 z205 z206 z207 z208 z209 z210 z211 z212 z213 z214 z215 z216 z217 z218 z219 z220 z221 z222 z223 z224 z225 z226 z227 z228 z229 z230 z231 z232 z233 z234 z235 z236 z237 z238 z239 z240 z241 z242 z243 z244 z245 z246 z247 z248 z249 z250 z251 z252 z253 z254 z255 z256 z257 z258 z259 z260 z261 z262 z263 z264 z265 z266 z267 z268 z269 z270 z271 z272 z273 z274 z275 z276 z277 z278 z279 z280 z281 z282 z283 z284 z285 z286 z287 z288 z289 z290 z291 z292 z293 z294 z295 z296 z297 z298 z299 : Value)
    (hs : Sl rU8 w F (some ad) m5 c5 M) (hF : ∀ k, F k → k < wb) (hp : p + 64 ≤ m5) (hm : m5 ≤ 3000000) (hld : M.drop p = l) (hw : w.heap[wb]? = some (.cells (wArr []) 161 (0, 0)))
    (hexit : ∀ (u9 u10 u67 u68 u69 u70 u71 u72 u73 u74 u75 u76 u77 u78 u79 u80 u81 u82 u83 u84 u85 u86 u87 u88 u89 u90 u91 u92 u93 u94 u95 u96 u97 u98 u99 u100 u101 u102 u103 u104 u105 u106 : Value) w', Fact (w'.heap[wb]? = some (.cells (wArr (words16 l)) 161 (0, 0))) → Fact (Below wb w w') → Q0 (.exit 6) ⟨(List.toArray (z0 :: z1 :: z2 :: .slice (some ad) m5 c5 :: z4 :: z5 :: z6 :: .int .i64 (p : Int) :: .slice (some ⟨wb, 0, none⟩) 64 64 :: u9 :: u10 :: z11 :: z12 :: z13 :: z14 :: z15 :: z16 :: z17 :: z18 :: z19 :: z20 :: z21 :: z22 :: z23 :: z24 :: z25 :: z26 :: z27 :: z28 :: z29 :: z30 :: z31 :: z32 :: z33 :: z34 :: z35 :: z36 :: z37 :: z38 :: z39 :: z40 :: z41 :: z42 :: z43 :: z44 :: z45 :: z46 :: z47 :: z48 :: z49 :: z50 :: z51 :: z52 :: z53 :: z54 :: z55 :: z56 :: z57 :: z58 :: z59 :: z60 :: z61 :: z62 :: z63 :: z64 :: z65 :: z66 :: u67 :: u68 :: u69 :: u70 :: u71 :: u72 :: u73 :: u74 :: u75 :: u76 :: u77 :: u78 :: u79 :: u80 :: u81 :: u82 :: u83 :: u84 :: u85 :: u86 :: u87 :: u88 :: u89 :: u90 :: u91 :: u92 :: u93 :: u94 :: u95 :: u96 :: u97 :: u98 :: u99 :: u100 :: u101 :: u102 :: u103 :: u104 :: u105 :: u106 :: z107 :: z108 :: z109 :: z110 :: z111 :: z112 :: z113 :: z114 :: z115 :: z116 :: z117 :: z118 :: z119 :: z120 :: z121 :: z122 :: z123 :: z124 :: z125 :: z126 :: z127 :: z128 :: z129 :: z130 :: z131 :: z132 :: z133 :: z134 :: z135 :: z136 :: z137 :: z138 :: z139 :: z140 :: z141 :: z142 :: z143 :: z144 :: z145 :: z146 :: z147 :: z148 :: z149 :: z150 :: z151 :: z152 :: z153 :: z154 :: z155 :: z156 :: z157 :: z158 :: z159 :: z160 :: z161 :: z162 :: z163 :: z164 :: z165 :: z166 :: z167 :: z168 :: z169 :: z170 :: z171 :: z172 :: z173 :: z174 :: z175 :: z176 :: z177 :: z178 :: z179 :: z180 :: z181 :: z182 :: z183 :: z184 :: z185 :: z186 :: z187 :: z188 :: z189 :: z190 :: z191 :: z192 :: z193 :: z194 :: z195 :: z196 :: z197 :: z198 :: z199 :: z200 :: z201 :: z202 :: z203 :: z204 :: z205 :: z206 :: z207 :: z208 :: z209 :: z210 :: z211 :: z212 :: z213 :: z214 :: z215 :: z216 :: z217 :: z218 :: z219 :: z220 :: z221 :: z222 :: z223 :: z224 :: z225 :: z226 :: z227 :: z228 :: z229 :: z230 :: z231 :: z232 :: z233 :: z234 :: z235 :: z236 :: z237 :: z238 :: z239 :: z240 :: z241 :: z242 :: z243 :: z244 :: z245 :: z246 :: z247 :: z248 :: z249 :: z250 :: z251 :: z252 :: z253 :: z254 :: z255 :: z256 :: z257 :: z258 :: z259 :: z260 :: z261 :: z262 :: z263 :: z264 :: z265 :: z266 :: z267 :: z268 :: z269 :: z270 :: z271 :: z272 :: z273 :: z274 :: z275 :: z276 :: z277 :: z278 :: z279 :: z280 :: z281 :: z282 :: z283 :: z284 :: z285 :: z286 :: z287 :: z288 :: z289 :: z290 :: z291 :: z292 :: z293 :: z294 :: z295 :: z296 :: z297 :: z298 :: z299 :: [])), []⟩ w') :
    Code.wp Tryd.prog (Code.loop (bodyN 3)) Q0 ⟨(List.toArray (z0 :: z1 :: z2 :: .slice (some ad) m5 c5 :: z4 :: z5 :: z6 :: .int .i64 (p : Int) :: .slice (some ⟨wb, 0, none⟩) 64 64 :: .int .i64 0 :: z10 :: z11 :: z12 :: z13 :: z14 :: z15 :: z16 :: z17 :: z18 :: z19 :: z20 :: z21 :: z22 :: z23 :: z24 :: z25 :: z26 :: z27 :: z28 :: z29 :: z30 :: z31 :: z32 :: z33 :: z34 :: z35 :: z36 :: z37 :: z38 :: z39 :: z40 :: z41 :: z42 :: z43 :: z44 :: z45 :: z46 :: z47 :: z48 :: z49 :: z50 :: z51 :: z52 :: z53 :: z54 :: z55 :: z56 :: z57 :: z58 :: z59 :: z60 :: z61 :: z62 :: z63 :: z64 :: z65 :: z66 :: z67 :: z68 :: z69 :: z70 :: z71 :: z72 :: z73 :: z74 :: z75 :: z76 :: z77 :: z78 :: z79 :: z80 :: z81 :: z82 :: z83 :: z84 :: z85 :: z86 :: z87 :: z88 :: z89 :: z90 :: z91 :: z92 :: z93 :: z94 :: z95 :: z96 :: z97 :: z98 :: z99 :: z100 :: z101 :: z102 :: z103 :: z104 :: z105 :: z106 :: z107 :: z108 :: z109 :: z110 :: z111 :: z112 :: z113 :: z114 :: z115 :: z116 :: z117 :: z118 :: z119 :: z120 :: z121 :: z122 :: z123 :: z124 :: z125 :: z126 :: z127 :: z128 :: z129 :: z130 :: z131 :: z132 :: z133 :: z134 :: z135 :: z136 :: z137 :: z138 :: z139 :: z140 :: z141 :: z142 :: z143 :: z144 :: z145 :: z146 :: z147 :: z148 :: z149 :: z150 :: z151 :: z152 :: z153 :: z154 :: z155 :: z156 :: z157 :: z158 :: z159 :: z160 :: z161 :: z162 :: z163 :: z164 :: z165 :: z166 :: z167 :: z168 :: z169 :: z170 :: z171 :: z172 :: z173 :: z174 :: z175 :: z176 :: z177 :: z178 :: z179 :: z180 :: z181 :: z182 :: z183 :: z184 :: z185 :: z186 :: z187 :: z188 :: z189 :: z190 :: z191 :: z192 :: z193 :: z194 :: z195 :: z196 :: z197 :: z198 :: z199 :: z200 :: z201 :: z202 :: z203 :: z204 :: z205 :: z206 :: z207 :: z208 :: z209 :: z210 :: z211 :: z212 :: z213 :: z214 :: z215 :: z216 :: z217 :: z218 :: z219 :: z220 :: z221 :: z222 :: z223 :: z224 :: z225 :: z226 :: z227 :: z228 :: z229 :: z230 :: z231 :: z232 :: z233 :: z234 :: z235 :: z236 :: z237 :: z238 :: z239 :: z240 :: z241 :: z242 :: z243 :: z244 :: z245 :: z246 :: z247 :: z248 :: z249 :: z250 :: z251 :: z252 :: z253 :: z254 :: z255 :: z256 :: z257 :: z258 :: z259 :: z260 :: z261 :: z262 :: z263 :: z264 :: z265 :: z266 :: z267 :: z268 :: z269 :: z270 :: z271 :: z272 :: z273 :: z274 :: z275 :: z276 :: z277 :: z278 :: z279 :: z280 :: z281 :: z282 :: z283 :: z284 :: z285 :: z286 :: z287 :: z288 :: z289 :: z290 :: z291 :: z292 :: z293 :: z294 :: z295 :: z296 :: z297 :: z298 :: z299 :: [])), []⟩ w := by
  conv => arg 2; arg 1; whnf
  have HSh := Fact.mk hs
  have HF := Fact.mk hF
  have HP64 := Fact.mk hp
  have HLD := Fact.mk hld
  have HRw0 := Fact.mk hw
  have hm5 : (m5 : Int) ≤ 3000000 := by omega
  clear hs hF hp hld hw hm
  have s24 : ∀ x, IntKind.u32.wrap (U x * (16777216 : Int)) = U (x <<< 24) := fun x => r_shl (k := 24) (by omega)
  have s16 : ∀ x, IntKind.u32.wrap (U x * (65536 : Int)) = U (x <<< 16) := fun x => r_shl (k := 16) (by omega)
  have s8 : ∀ x, IntKind.u32.wrap (U x * (256 : Int)) = U (x <<< 8) := fun x => r_shl (k := 8) (by omega)
  have ror := r_or
  have rxo := r_xor
  have ran := r_and
  have rad := r_add
  have rno := r_not
  have hsg : IntKind.u32.signed = false := rfl
  have d3 : ∀ x, U x / (8 : Int) = U (x >>> 3) := fun x => r_shr (k := 3) (by omega)
  have d10 : ∀ x, U x / (1024 : Int) = U (x >>> 10) := fun x => r_shr (k := 10) (by omega)
  have rby := r_byte
  go_loopg [9] 16 (fun kq i wx => ∃ (k : Nat), i = .int .i64 (k : Int) ∧ Fact (k + kq = 16) ∧ Fact (wx.heap[wb]? = some (.cells (wArr ((List.range k).map (wordAt l))) 161 (0, 0))) ∧ Fact (Below wb w wx))
  case atStart => exact ⟨0, rfl, ⟨rfl⟩, HRw0, ⟨Below.refl _ _⟩⟩
  case round =>
    obtain ⟨k, rfl, HK, HW, HB⟩ := hrel
    clear HRw0
    by_cases hlt : k < 16
    · have HLT := Fact.mk hlt
      have HSr : Fact (Sl rU8 wr F (some ad) m5 c5 M) := ⟨HSh.out.move (Same.of_below HB.out HF.out)⟩
      obtain ⟨m, hm⟩ : ∃ m, p + 4 * k = m := ⟨_, rfl⟩
      obtain ⟨m1, hm1⟩ : ∃ m1, m + 1 = m1 := ⟨_, rfl⟩
      obtain ⟨m2, hm2⟩ : ∃ m2, m + 2 = m2 := ⟨_, rfl⟩
      obtain ⟨m3, hm3⟩ : ∃ m3, m + 3 = m3 := ⟨_, rfl⟩
      have h64 := HP64.out
      have c0 := sl_byte HSr.out (i := m) (by omega)
      have c1 := sl_byte HSr.out (i := m1) (by omega)
      have c2 := sl_byte HSr.out (i := m2) (by omega)
      have c3 := sl_byte HSr.out (i := m3) (by omega)
      have b64 : (k : Int) < 64 := by omega
      obtain ⟨y0, hy0⟩ : ∃ y, M.getD m 0 = y := ⟨_, rfl⟩
      obtain ⟨y1, hy1⟩ : ∃ y, M.getD m1 0 = y := ⟨_, rfl⟩
      obtain ⟨y2, hy2⟩ : ∃ y, M.getD m2 0 = y := ⟨_, rfl⟩
      obtain ⟨y3, hy3⟩ : ∃ y, M.getD m3 0 = y := ⟨_, rfl⟩
      rw [hy0] at c0
      rw [hy1] at c1
      rw [hy2] at c2
      rw [hy3] at c3
      have HWD : Fact (wordAt l k = word y0 y1 y2 y3) := ⟨by
        have hd : ∀ j, l.getD j 0 = M.getD (p + j) 0 := fun j => by rw [← HLD.out, List.getD_eq_getElem?_getD, List.getD_eq_getElem?_getD, List.getElem?_drop]
        unfold wordAt
        rw [hd, hd, hd, hd, ← hy0, ← hy1, ← hy2, ← hy3, show m = p + 4 * k by omega, show m1 = p + (4 * k + 1) by omega, show m2 = p + (4 * k + 2) by omega, show m3 = p + (4 * k + 3) by omega]⟩
      have e0 : (p : Int) + 4 * (k : Int) = (m : Int) := by omega
      have x1 : IntKind.i64.wrap ((m : Int) + 1) = (m1 : Int) := by rw [IntKind.wrap_i64]; omega
      have x2 : IntKind.i64.wrap ((m : Int) + 2) = (m2 : Int) := by rw [IntKind.wrap_i64]; omega
      have x3 : IntKind.i64.wrap ((m : Int) + 3) = (m3 : Int) := by rw [IntKind.wrap_i64]; omega
      have b0 : (m : Int) < (m5 : Int) := by omega
      have b1 : (m1 : Int) < (m5 : Int) := by omega
      have b2 : (m2 : Int) < (m5 : Int) := by omega
      have b3 : (m3 : Int) < (m5 : Int) := by omega
      have hcell := row_cell (i := k) (v := .int .u32 (U 0)) HW.out (wArr_zero (by simp) (by omega))
      have hfree := row_free (i := k) HW.out
      clear hm hm1 hm2 hm3 hy0 hy1 hy2 hy3 h64
      go_wp2_with fail
      go_still_tail 32, (by kernel_rfl)
      change wpList _ _ _ _ _ wr.drew
      go_wp2_with fail
      go_roundg (16 - (k + 1))
      case measure => have := HK.out; omega
      case rel =>
        refine ⟨k + 1, by go_num, ⟨by omega⟩, ⟨?_⟩, ⟨(HB.out.setCell (p := ⟨wb, k, none⟩) (Nat.le_refl _) _).drew⟩⟩
        refine (row_set (w := wr) _ HW.out).trans ?_
        rw [wArr_put _ (by simp) (by omega), List.range_succ, List.map_append, List.map_cons, List.map_nil, HWD.out, ← word_add']
    · have hk16 : k = 16 := by have := HK.out; omega
      subst hk16
      have HX := hexit
      clear hlt HK hexit
      go_wp2_with fail
      exact HX _ _ _ _ _ _ _ _ _ _ _ _ _ _ _ _ _ _ _ _ _ _ _ _ _ _ _ _ _ _ _ _ _ _ _ _ _ _ _ _ _ _ _ HW HB
end Go.Proofs.YtkmcjokoinoahaaDoor.ShaD4
