/- sha.block: a state behind 64 bytes more: a contract over any world. -/
import Derived.Test.YtkmcjokoinoahaaDoorMBase
import Derived.StillTailTactics
import Derived.Laws.CopyOwn
set_option linter.unusedVariables false
set_option linter.unusedSimpArgs false
namespace Go.Proofs.YtkmcjokoinoahaaDoor.ShaB
open Go.RowKit Go.Proofs.YtkmcjokoinoahaaDoor.Lib Go.Proofs.YtkmcjokoinoahaaDoor.Reg Go.Proofs.YtkmcjokoinoahaaDoor.PlainS Go.Proofs.YtkmcjokoinoahaaDoor.ShaA
/-- Words in a row of 64. -/
def wArr (ws : List UInt32) : Array Value := ((ws ++ List.replicate (64 - ws.length) 0).map vu32).toArray
theorem wArr_size {ws : List UInt32} (h : ws.length ≤ 64) : (wArr ws).size = 64 := by simp [wArr]; omega
theorem wArr_set {ws : List UInt32} (x : UInt32) (h : ws.length < 64) : (wArr ws).setIfInBounds ws.length (vu32 x) = wArr (ws ++ [x]) := by
  unfold wArr
  rw [List.setIfInBounds_toArray]
  congr 1
  rw [List.map_append, List.map_append, List.map_append, List.set_append_right _ _ (by simp)]
  obtain ⟨m, hm⟩ : ∃ m, 64 - ws.length = m + 1 := ⟨63 - ws.length, by omega⟩
  have h2 : 64 - (ws ++ [x]).length = m := by simp; omega
  rw [hm, h2]
  simp [List.replicate_succ]
theorem wArr_get {ws : List UInt32} {i : Nat} {x : UInt32} (h : ws[i]? = some x) : (wArr ws)[i]? = some (.int .u32 (U x)) := by
  unfold wArr
  rw [List.getElem?_toArray, List.getElem?_map, List.getElem?_append_left (List.getElem?_eq_some_iff.1 h).1, h]
  rfl
theorem wArr_zero {ws : List UInt32} {k : Nat} (hk : ws.length = k) (h : k < 64) : (wArr ws)[k]? = some (.int .u32 (U 0)) := by
  subst hk
  unfold wArr
  rw [List.getElem?_toArray, List.getElem?_map, List.getElem?_append_right (Nat.le_refl _), Nat.sub_self, List.getElem?_replicate, if_pos (by omega)]
  rfl
theorem wArr_put {ws : List UInt32} {k : Nat} (x : UInt32) (hk : ws.length = k) (h : k < 64) : (wArr ws).setIfInBounds k (.int .u32 (U x)) = wArr (ws ++ [x]) := by
  subst hk
  exact wArr_set x h
theorem wArr_at {ws : List UInt32} {i : Nat} (h : i < ws.length) : (wArr ws)[i]? = some (.int .u32 (U (ws.getD i 0))) := by
  refine wArr_get ?_
  rw [List.getD_eq_getElem?_getD, List.getElem?_eq_getElem h]
  rfl
theorem row_set {w : World} {B i : Nat} {cs : Array Value} {t : TypeId} (v : Value) (h : w.heap[B]? = some (.cells cs t (0, 0))) : (w.setCell ⟨B, i, none⟩ v).heap[B]? = some (.cells (cs.setIfInBounds i v) t (0, 0)) := by
  have hlt := Go.lt_of_block h
  have h' : w.heap[B] = .cells cs t (0, 0) := by simpa [Array.getElem?_eq_getElem hlt] using h
  show (w.heap.modify B _)[B]? = _
  rw [Array.getElem?_eq_getElem (by simpa using hlt), Array.getElem_modify_self, h']
  rfl
theorem row_cell {w : World} {B i : Nat} {cs : Array Value} {t : TypeId} {fr : Nat × Nat} {v : Value} (h : w.heap[B]? = some (.cells cs t fr)) (hv : cs[i]? = some v) : w.cell? ⟨B, i, none⟩ = some v := by
  unfold World.cell?
  rw [h]
  exact hv
theorem row_free {w : World} {B i : Nat} {cs : Array Value} {t : TypeId} (h : w.heap[B]? = some (.cells cs t (0, 0))) : w.frozen? ⟨B, i, none⟩ = false := by
  unfold World.frozen?
  rw [h]
  simp
theorem exec_alloc {P : Program} {o : Oper} {a : Act} {w : World} {t : TypeId} {z : Array Value} (ho : o.op = .alloc t) (h : (Instr.alloc t true (.tuple #[])).run P w = .ok (.pointer (some ⟨w.heap.size, 0, none⟩)) (w.alloc (.cells z t))) : (execOp a.eval o).run P w = .ok (.value (.pointer (some ⟨w.heap.size, 0, none⟩))) (w.alloc (.cells z t)) := by
  unfold execOp
  rw [ho]
  show ((Instr.alloc t true (.tuple #[])) >>= _).run P w = _
  rw [Sem.run_bind, h]
  rfl
theorem alloc_w (W : World) : (Instr.alloc 164 true (.tuple #[])).run Tryd.prog W = .ok (.pointer (some ⟨W.heap.size, 0, none⟩)) (W.alloc (.cells (wArr []) 164)) := by kernel_rfl
theorem sl_byte {w : World} {F : Nat → Prop} {ad : Addr} {n c : Nat} {l : List UInt8} (h : Sl rU8 w F (some ad) n c l) {i : Nat} (hi : i < n) : w.cell? (ad.add i) = some (.int .u8 ((l.getD i 0).toNat : Int)) := by
  obtain ⟨ad', e, _, hc⟩ := h.byte (i := i) (b := l.getD i 0) (by rw [List.getD_eq_getElem?_getD, List.getElem?_eq_getElem (by rw [h.len]; exact hi)]; rfl)
  injection e with e
  subst e
  exact hc
def vArr (v : V8) : Array Value := (v.l.map vu32).toArray
def _root_.Go.Proofs.YtkmcjokoinoahaaDoor.PlainS.V8.zero : V8 := ⟨0, 0, 0, 0, 0, 0, 0, 0⟩
theorem alloc_v (W : World) : (Instr.alloc 174 true (.tuple #[])).run Tryd.prog W = .ok (.pointer (some ⟨W.heap.size, 0, none⟩)) (W.alloc (.cells (vArr V8.zero) 174)) := by kernel_rfl
theorem v_i (v : V8) : (Tryd.prog.info? 174).map (·.size) = some (vArr v).size := by rw [show (vArr v).size = 8 from rfl]; kernel_rfl
theorem w_i (ws : List UInt32) (h : ws.length ≤ 64) : (Tryd.prog.info? 164).map (·.size) = some (wArr ws).size := by rw [wArr_size h]; kernel_rfl
theorem v_one (v : V8) : (vArr v).all (·.oneCell') = true := by simp [vArr, V8.l, vu32, Value.oneCell']
theorem r_not (x : UInt32) : bits .xor .u32 IntKind.u32.max (U x) = U (~~~x) := by
  have h1 : IntKind.u32.max = U 0xFFFFFFFF := by decide
  rw [h1, r_xor]
  congr 1
theorem info_u32 : (Tryd.prog.info? 161).map (·.size) = some 1 := by kernel_rfl
theorem run_idx {ws : List UInt32} {k : Nat} (hk : k < ws.length) (h64 : ws.length ≤ 64) (W : World) : (Instr.index 164 (.agg (wArr ws)) (.int .i64 (k : Int))).run Tryd.prog W = .ok (.int .u32 (U (ws.getD k 0))) W := by
  have hc := wArr_at hk
  have hk2 : (k : Int) < 64 := by omega
  have hk3 : k < 64 := by omega
  have h0 : (0 : Int) ≤ (k : Int) := by omega
  cases hq : Tryd.prog.info? 161 with
  | none => have := info_u32; rw [hq] at this; cases this
  | some i =>
    have hs : i.size = 1 := by have := info_u32; rw [hq] at this; simpa using this
    simp [Instr.index, asIntOf, run_underlying Tryd.underlying164, hk2, hk3, part, isAgg, run_underlying Tryd.underlying161, sizeOf, typeInfo, hq, hs, hc]
theorem drop_get {α : Type} [Inhabited α] {l : List α} {k : Nat} {x y : α} (h : k < l.length) (hx : l.getD k y = x) : l.drop k = x :: l.drop (k + 1) := by
  rw [List.drop_eq_getElem_cons h]
  congr 1
  rw [← hx, List.getD_eq_getElem?_getD, List.getElem?_eq_getElem h]
  rfl
def mixL (v u : V8) (k : Nat) : List UInt32 := (v.add u).l.take k ++ v.l.drop k
theorem l_len (v : V8) : v.l.length = 8 := rfl
def lArr (l : List UInt32) : Array Value := (l.map vu32).toArray
theorem mix_get {v u : V8} {k : Nat} (h : k < 8) : (lArr (mixL v u k))[k]? = some (.int .u32 (U (v.l.getD k 0))) := by
  match k, h with
  | 0, _ | 1, _ | 2, _ | 3, _ | 4, _ | 5, _ | 6, _ | 7, _ => rfl
theorem v_get {v : V8} {k : Nat} (h : k < 8) : (vArr v)[k]? = some (.int .u32 (U (v.l.getD k 0))) := by
  match k, h with
  | 0, _ | 1, _ | 2, _ | 3, _ | 4, _ | 5, _ | 6, _ | 7, _ => rfl
theorem mix_set {v u : V8} {k : Nat} (h : k < 8) : (lArr (mixL v u k)).setIfInBounds k (.int .u32 (U (v.l.getD k 0 + u.l.getD k 0))) = lArr (mixL v u (k + 1)) := by
  match k, h with
  | 0, _ | 1, _ | 2, _ | 3, _ | 4, _ | 5, _ | 6, _ | 7, _ => rfl
theorem getD_take {l : List UInt8} {j : Nat} (h : j < 64) : (l.take 64).getD j 0 = l.getD j 0 := by
  rw [List.getD_eq_getElem?_getD, List.getD_eq_getElem?_getD, List.getElem?_take, if_pos h]
theorem words_take (l : List UInt8) : words16 (l.take 64) = words16 l := by
  unfold words16
  refine List.map_congr_left fun i hi => ?_
  have := List.mem_range.1 hi
  unfold wordAt
  rw [getD_take (by omega), getD_take (by omega), getD_take (by omega), getD_take (by omega)]
/-- sha.words is laid as the text has it. -/
def LaidW (w : World) : Prop := ∃ ty fr, w.heap[3]? = some (.cells (wArr kL) ty fr)
set_option maxHeartbeats 8000000 in
set_option maxRecDepth 100000 in
theorem Block_calls (w : World) (hb : Nat) (v : V8) (F : Nat → Prop) (A : Option Addr) (n c : Nat) (l : List UInt8) (hr : w.heap[hb]? = some (.cells (vArr v) 174 (0, 0))) (hs : Sl rU8 w F A n c l) (hF : ∀ k, F k → k < hb) (hn : 64 ≤ n) (hg : LaidW w) (h1 : 3 < hb) :
    Calls Tryd.prog 91 #[.pointer (some ⟨hb, 0, none⟩), .slice A n c] w fun e w' => e = .returned (.tuple #[]) ∧ Fact (w'.heap[hb]? = some (.cells (vArr (blk v (l.take 64))) 174 (0, 0))) ∧ Below hb w w' := by
  have HR := Fact.mk hr
  have HS := Fact.mk hs
  have HF := Fact.mk hF
  have HN := Fact.mk hn
  have HG := Fact.mk hg
  have H1 := Fact.mk h1
  obtain ⟨ad, rfl, hfa⟩ := hs.some_ (by omega)
  have HAD : Fact (ad.block < hb) := ⟨hF _ hfa⟩
  have HBL : Fact (hb < w.heap.size) := ⟨Go.lt_of_block hr⟩
  clear hr hs hF hn hfa hg h1
  have s24 : ∀ x, IntKind.u32.wrap (U x * (16777216 : Int)) = U (x <<< 24) := fun x => r_shl (k := 24) (by omega)
  have s16 : ∀ x, IntKind.u32.wrap (U x * (65536 : Int)) = U (x <<< 16) := fun x => r_shl (k := 16) (by omega)
  have s8 : ∀ x, IntKind.u32.wrap (U x * (256 : Int)) = U (x <<< 8) := fun x => r_shl (k := 8) (by omega)
  have ror := r_or
  have rxo := r_xor
  have ran := r_and
  have rad := r_add
  have rno := r_not
  have hsg : IntKind.u32.signed = false := rfl
  have d3 : ∀ x, U x / (8 : Int) = U (x >>> 3) := fun x => r_shr (k := 3) (by omega)
  have d10 : ∀ x, U x / (1024 : Int) = U (x >>> 10) := fun x => r_shr (k := 10) (by omega)
  have rby := r_byte
  go_enter Tryd.func91, Tryd.ntmps91
  go_wp2_with (refine wpList_ok rfl (exec_alloc rfl (alloc_w _)) ?_)
  go_loopg [19] 16 (fun kq i wr => ∃ (k : Nat), i = .int .i64 (k : Int) ∧ Fact (k + kq = 16) ∧ Fact (wr.heap[w.heap.size]? = some (.cells (wArr ((List.range k).map (wordAt l))) 164 (0, 0))) ∧ Fact (Below w.heap.size w wr))
  case atStart => exact ⟨0, rfl, ⟨rfl⟩, ⟨heap_alloc_new _ _⟩, ⟨(Below.refl _ _).alloc (Nat.le_refl _) _⟩⟩
  case round =>
    obtain ⟨k, rfl, HK, HW, HB⟩ := hrel
    by_cases hlt : k < 16
    · have HLT := Fact.mk hlt
      have HSr : Fact (Sl rU8 wr F (some ad) n c l) := ⟨HS.out.move (Same.of_below HB.out (fun k h => Nat.lt_trans (HF.out k h) HBL.out))⟩
      obtain ⟨m, hm⟩ : ∃ m, 4 * k = m := ⟨_, rfl⟩
      obtain ⟨m1, hm1⟩ : ∃ m1, m + 1 = m1 := ⟨_, rfl⟩
      obtain ⟨m2, hm2⟩ : ∃ m2, m + 2 = m2 := ⟨_, rfl⟩
      obtain ⟨m3, hm3⟩ : ∃ m3, m + 3 = m3 := ⟨_, rfl⟩
      have c0 := sl_byte HSr.out (i := m) (by have := HN.out; omega)
      have c1 := sl_byte HSr.out (i := m1) (by have := HN.out; omega)
      have c2 := sl_byte HSr.out (i := m2) (by have := HN.out; omega)
      have c3 := sl_byte HSr.out (i := m3) (by have := HN.out; omega)
      have b64 : (k : Int) < 64 := by omega
      obtain ⟨y0, hy0⟩ : ∃ y, l.getD m 0 = y := ⟨_, rfl⟩
      obtain ⟨y1, hy1⟩ : ∃ y, l.getD m1 0 = y := ⟨_, rfl⟩
      obtain ⟨y2, hy2⟩ : ∃ y, l.getD m2 0 = y := ⟨_, rfl⟩
      obtain ⟨y3, hy3⟩ : ∃ y, l.getD m3 0 = y := ⟨_, rfl⟩
      rw [hy0] at c0
      rw [hy1] at c1
      rw [hy2] at c2
      rw [hy3] at c3
      have HWD : Fact (wordAt l k = word y0 y1 y2 y3) := ⟨by unfold wordAt; rw [← hy0, ← hy1, ← hy2, ← hy3, show m = 4 * k by omega, show m1 = 4 * k + 1 by omega, show m2 = 4 * k + 2 by omega, show m3 = 4 * k + 3 by omega]⟩
      have x0 : IntKind.i64.wrap (4 * (k : Int)) = (m : Int) := by rw [IntKind.wrap_i64]; omega
      have x1 : IntKind.i64.wrap ((m : Int) + 1) = (m1 : Int) := by rw [IntKind.wrap_i64]; omega
      have x2 : IntKind.i64.wrap ((m : Int) + 2) = (m2 : Int) := by rw [IntKind.wrap_i64]; omega
      have x3 : IntKind.i64.wrap ((m : Int) + 3) = (m3 : Int) := by rw [IntKind.wrap_i64]; omega
      have b0 : (m : Int) < (n : Int) := by have := HN.out; omega
      have b1 : (m1 : Int) < (n : Int) := by have := HN.out; omega
      have b2 : (m2 : Int) < (n : Int) := by have := HN.out; omega
      have b3 : (m3 : Int) < (n : Int) := by have := HN.out; omega
      have HM : Fact (m = 4 * k ∧ m1 = m + 1 ∧ m2 = m + 2 ∧ m3 = m + 3) := ⟨by omega⟩
      have hcell := row_cell (i := k) (v := .int .u32 (U 0)) HW.out (wArr_zero (by simp) (by omega))
      have hfree := row_free (i := k) HW.out
      clear hm hm1 hm2 hm3 hy0 hy1 hy2 hy3
      go_wp2_with fail
      go_still_tail 35, (by kernel_rfl)
      change wpList _ _ _ _ _ wr.drew
      go_wp2_with fail
      go_roundg (16 - (k + 1))
      case measure => have := HK.out; omega
      case rel =>
        refine ⟨k + 1, by go_num, ⟨by omega⟩, ⟨?_⟩, ⟨(HB.out.setCell (p := ⟨w.heap.size, k, none⟩) (Nat.le_refl _) _).drew⟩⟩
        refine (row_set (w := wr) _ HW.out).trans ?_
        rw [wArr_put _ (by simp) (by omega), List.range_succ, List.map_append, List.map_cons, List.map_nil, HWD.out]
        rfl
    · have hk16 : k = 16 := by have := HK.out; omega
      subst hk16
      clear hlt HK
      have HB1 := HB
      clear HB
      go_wp2_with fail
      go_loopg [6] 48 (fun kq i wq => ∃ (k : Nat) (ws : List UInt32), i = .int .i64 (k : Int) ∧ Fact (k + kq = 64) ∧ Fact (ws.length = k) ∧ Fact (16 ≤ k) ∧ Fact (schedF kq ws = schedF 48 (words16 l)) ∧ Fact (wq.heap[w.heap.size]? = some (.cells (wArr ws) 164 (0, 0))) ∧ Fact (Below w.heap.size w wq))
      case atStart => exact ⟨16, (List.range 16).map (wordAt l), rfl, ⟨rfl⟩, ⟨by simp⟩, ⟨Nat.le_refl _⟩, ⟨rfl⟩, HW, HB1⟩
      case round =>
        obtain ⟨k, ws, rfl, HK, HL, H16, HSC, HW2, HB⟩ := hrel
        by_cases hlt : k < 64
        · have h16 := H16.out
          obtain ⟨j15, hj15⟩ : ∃ j, k - 15 = j := ⟨_, rfl⟩
          obtain ⟨j2, hj2⟩ : ∃ j, k - 2 = j := ⟨_, rfl⟩
          obtain ⟨j16, hj16⟩ : ∃ j, k - 16 = j := ⟨_, rfl⟩
          obtain ⟨j7, hj7⟩ : ∃ j, k - 7 = j := ⟨_, rfl⟩
          have x15 : IntKind.i64.wrap ((k : Int) - 15) = (j15 : Int) := by rw [IntKind.wrap_i64]; omega
          have x2 : IntKind.i64.wrap ((k : Int) - 2) = (j2 : Int) := by rw [IntKind.wrap_i64]; omega
          have x16 : IntKind.i64.wrap ((k : Int) - 16) = (j16 : Int) := by rw [IntKind.wrap_i64]; omega
          have x7 : IntKind.i64.wrap ((k : Int) - 7) = (j7 : Int) := by rw [IntKind.wrap_i64]; omega
          have b15 : (j15 : Int) < 64 := by omega
          have b2 : (j2 : Int) < 64 := by omega
          have b16 : (j16 : Int) < 64 := by omega
          have b7 : (j7 : Int) < 64 := by omega
          have b64 : (k : Int) < 64 := by omega
          have c15 := row_cell HW2.out (wArr_at (i := j15) (by have := HL.out; omega))
          have c2 := row_cell HW2.out (wArr_at (i := j2) (by have := HL.out; omega))
          have HJ : Fact (j16 = k - 16 ∧ j7 = k - 7 ∧ 16 ≤ k) := ⟨by omega⟩
          have HNX : Fact (nextW ws = ws.getD j16 0 + sg0 (ws.getD j15 0) + ws.getD j7 0 + sg1 (ws.getD j2 0)) := ⟨by unfold nextW; rw [HL.out, hj15, hj2, hj16, hj7]⟩
          generalize ws.getD j15 0 = y15 at c15 HNX
          generalize ws.getD j2 0 = y2 at c2 HNX
          have HLT := Fact.mk hlt
          clear hj15 hj2 hj16 hj7 h16
          go_wp2_with fail
          go_quiet (fail)
          go_wp2_with (go_at_call 97; fail)
          refine (Rot_calls _ _ 7 _ (by decide) (by decide) rfl).mono ?_
          rintro e w' ⟨rfl, rfl⟩
          go_wp2_with (go_at_call 97; fail)
          refine (Rot_calls _ _ 18 _ (by decide) (by decide) rfl).mono ?_
          rintro e w' ⟨rfl, rfl⟩
          go_wp2_with (go_at_call 97; fail)
          refine (Rot_calls _ _ 17 _ (by decide) (by decide) rfl).mono ?_
          rintro e w' ⟨rfl, rfl⟩
          go_wp2_with (go_at_call 97; fail)
          refine (Rot_calls _ _ 19 _ (by decide) (by decide) rfl).mono ?_
          rintro e w' ⟨rfl, rfl⟩
          go_wp2_with fail
          obtain ⟨wz, hz⟩ : ∃ wz, wr.drewN nq = wz := ⟨_, rfl⟩
          have HWz : Fact (wz.heap[w.heap.size]? = some (.cells (wArr ws) 164 (0, 0))) := ⟨by rw [← hz]; exact HW2.out⟩
          have HBz : Fact (Below w.heap.size w wz) := ⟨by rw [← hz]; exact ⟨HB.out.os, HB.out.tape, HB.out.output, HB.out.size, HB.out.block⟩⟩
          rw [hz]
          clear hz
          have c16 := row_cell HWz.out (wArr_at (i := j16) (by have := HL.out; have := HJ.out; omega))
          have c7 := row_cell HWz.out (wArr_at (i := j7) (by have := HL.out; have := HJ.out; omega))
          have hcell := row_cell HWz.out (wArr_zero HL.out HLT.out)
          have hfree := row_free (i := k) HWz.out
          go_still_tail 15, (by kernel_rfl)
          change wpList _ _ _ _ _ wz.drew
          go_wp2_with fail
          go_roundg (64 - (k + 1))
          case measure => have := HK.out; have := HLT.out; omega
          case rel =>
            refine ⟨k + 1, ws ++ [nextW ws], by go_num, ⟨by have := HLT.out; omega⟩, ⟨by simp [HL.out]⟩, ⟨by have := HJ.out; omega⟩, ⟨?_⟩, ⟨?_⟩, ⟨(HBz.out.setCell (p := ⟨w.heap.size, k, none⟩) (Nat.le_refl _) _).drew⟩⟩
            · have h := HSC.out
              rw [show gk = 64 - (k + 1) + 1 by have := HK.out; have := HLT.out; omega] at h
              exact h
            · refine (row_set (w := wz) _ HWz.out).trans ?_
              rw [wArr_put _ HL.out HLT.out, HNX.out]
              simp only [List.getD_eq_getElem?_getD]
              rfl
        · have hk64 : k = 64 := by have := HK.out; have := HL.out; omega
          have hkq : gk = 0 := by have := HK.out; omega
          have HSF : Fact (ws = schedF 48 (words16 l)) := ⟨by have := HSC.out; rw [hkq] at this; exact this⟩
          subst hk64
          clear hlt HK H16 HSC hkq HW HB1
          have HRh : Fact (wr.heap[hb]? = some (.cells (vArr v) 174 (0, 0))) := ⟨by rw [HB.out.block _ HBL.out]; exact HR.out⟩
          have HL1 : Fact (3 < w.heap.size) := ⟨Nat.lt_trans H1.out HBL.out⟩
          have HGr : Fact (∃ ty fr, wr.heap[3]? = some (.cells (wArr kL) ty fr)) := ⟨by obtain ⟨ty, fr, h⟩ := HG.out; exact ⟨ty, fr, by rw [HB.out.block _ HL1.out]; exact h⟩⟩
          obtain ⟨wty, fr, hgr⟩ := HGr.out
          have HW3 : Fact (((wr.alloc (.cells (vArr V8.zero) 174)).setRow wr.heap.size (vArr v)).heap[3]? = some (.cells (wArr kL) wty fr)) := ⟨by rw [(below_setRow ((Below.refl _ _).alloc (Nat.le_refl _) _) (Nat.le_refl _) _).block 3 (Nat.lt_of_lt_of_le HL1.out HB.out.size)]; exact hgr⟩
          have HVr : Fact (((wr.alloc (.cells (vArr V8.zero) 174)).setRow wr.heap.size (vArr v)).heap[wr.heap.size]? = some (.cells (vArr v) 174 (0, 0))) := ⟨setRow_heap _ _ _ _ _ _ (heap_alloc_new _ _)⟩
          have HBv : Fact (Below wr.heap.size wr ((wr.alloc (.cells (vArr V8.zero) 174)).setRow wr.heap.size (vArr v))) := ⟨below_setRow ((Below.refl _ _).alloc (Nat.le_refl _) _) (Nat.le_refl _) _⟩
          clear hgr HGr
          go_wp2_with (first
            | (refine wpList_ok rfl (exec_alloc rfl (alloc_v _)) ?_)
            | (refine wpList_load_row rfl 174 (.tmp 102) rfl hb rfl 174 (vArr v) (0, 0) _ ?_ Tryd.underlying174 rfl (v_i v) ?_; (with_reducible exact HRh.out))
            | (refine wpList_load_row rfl 164 (.global 3) rfl 3 rfl wty (wArr kL) fr _ ?_ Tryd.underlying164 rfl (w_i _ (by decide)) ?_; (with_reducible exact HW3.out))
            | (refine wpList_store_row rfl 174 (.tmp 11) (.tmp 103) rfl wr.heap.size (vArr v) rfl rfl 174 (vArr V8.zero) ?_ (v_i v) rfl (v_one v) ?_; exact (heap_alloc_new _ _)))
          have HLW : Fact (ws.length = 64) := HL
          have HWr := HW2
          have HBr := HB
          clear HW2 HB HL HW3
          obtain ⟨vb, hvb⟩ : ∃ vb, wr.heap.size = vb := ⟨_, rfl⟩
          have HVB : Fact (wr.heap.size = vb) := ⟨hvb⟩
          obtain ⟨wr_, hwr_⟩ : ∃ x, wr = x := ⟨_, rfl⟩
          generalize hw3 : (wr.alloc (.cells (vArr V8.zero) 174)).setRow wr.heap.size (vArr v) = w3 at HVr HBv ⊢
          clear hw3
          rw [hvb] at HVr HBv ⊢
          rw [hwr_] at HBv HVB HWr HBr HRh
          clear hwr_
          go_loopg [105] 64 (fun kq i wq => ∃ (k : Nat) (vs : V8), i = .int .i64 (k : Int) ∧ Fact (k + kq = 64) ∧ Fact (V8.run (kL.drop k) (ws.drop k) vs = V8.run kL ws v) ∧ Fact (wq.heap[vb]? = some (.cells (vArr vs) 174 (0, 0))) ∧ Fact (Below vb wr_ wq))
          case atStart => exact ⟨0, v, rfl, ⟨rfl⟩, ⟨rfl⟩, HVr, HBv⟩
          case round =>
            obtain ⟨k, ⟨a, b, c', d, e, f, g, h⟩, rfl, HK, HRN, HV, HB⟩ := hrel
            have HWq : Fact (wr.heap[w.heap.size]? = some (.cells (wArr ws) 164 (0, 0))) := ⟨by rw [HB.out.block _ (by rw [← HVB.out]; exact Go.lt_of_block HWr.out)]; exact HWr.out⟩
            by_cases hlt : k < 64
            · have HLT := Fact.mk hlt
              have b64 : (k : Int) < 64 := by omega
              have p0 := row_cell (i := 0) (v := .int .u32 (U a)) HV.out rfl
              have p1 := row_cell (i := 1) (v := .int .u32 (U b)) HV.out rfl
              have p2 := row_cell (i := 2) (v := .int .u32 (U c')) HV.out rfl
              have p3 := row_cell (i := 3) (v := .int .u32 (U d)) HV.out rfl
              have p4 := row_cell (i := 4) (v := .int .u32 (U e)) HV.out rfl
              have p5 := row_cell (i := 5) (v := .int .u32 (U f)) HV.out rfl
              have p6 := row_cell (i := 6) (v := .int .u32 (U g)) HV.out rfl
              have p7 := row_cell (i := 7) (v := .int .u32 (U h)) HV.out rfl
              have hix := run_idx (ws := kL) (k := k) (by exact hlt) (by decide)
              generalize hkw : kL.getD k 0 = kw at hix
              obtain ⟨ww, hww⟩ : ∃ ww, ws.getD k 0 = ww := ⟨_, rfl⟩
              have HKW := Fact.mk hkw
              have HWW := Fact.mk hww
              clear hkw hww
              go_wp2_with fail
              go_quiet (fail)
              generalize hz : wr.drewN nq = z1
              have HV1 : Fact (z1.heap[vb]? = some (.cells (vArr ⟨a, b, c', d, e, f, g, h⟩) 174 (0, 0))) := ⟨by rw [← hz]; exact HV.out⟩
              have HW1 : Fact (z1.heap[w.heap.size]? = some (.cells (wArr ws) 164 (0, 0))) := ⟨by rw [← hz]; exact HWq.out⟩
              have HB1 : Fact (Below vb wr_ z1) := ⟨by rw [← hz]; exact ⟨HB.out.os, HB.out.tape, HB.out.output, HB.out.size, HB.out.block⟩⟩
              clear hz nq p0 p1 p2 p3 p4 p5 p6 p7
              have p0 := row_cell (i := 0) (v := .int .u32 (U a)) HV1.out rfl
              have p1 := row_cell (i := 1) (v := .int .u32 (U b)) HV1.out rfl
              have p2 := row_cell (i := 2) (v := .int .u32 (U c')) HV1.out rfl
              have p3 := row_cell (i := 3) (v := .int .u32 (U d)) HV1.out rfl
              have p4 := row_cell (i := 4) (v := .int .u32 (U e)) HV1.out rfl
              have p5 := row_cell (i := 5) (v := .int .u32 (U f)) HV1.out rfl
              have p6 := row_cell (i := 6) (v := .int .u32 (U g)) HV1.out rfl
              have p7 := row_cell (i := 7) (v := .int .u32 (U h)) HV1.out rfl
              have hcw := row_cell HW1.out (wArr_at (i := k) (by rw [HLW.out]; exact HLT.out))
              rw [HWW.out] at hcw
              go_wp2_with fail
              go_quiet (first | (go_at_call 97; refine Calls.quiet_of_same (Rot_calls _ _ 6 _ (by decide) (by decide) rfl)) | (go_at_call 97; refine Calls.quiet_of_same (Rot_calls _ _ 11 _ (by decide) (by decide) rfl)) | (go_at_call 97; refine Calls.quiet_of_same (Rot_calls _ _ 25 _ (by decide) (by decide) rfl)))
              generalize hz : z1.drewN nq = z2
              have HV2 : Fact (z2.heap[vb]? = some (.cells (vArr ⟨a, b, c', d, e, f, g, h⟩) 174 (0, 0))) := ⟨by rw [← hz]; exact HV1.out⟩
              have HW2 : Fact (z2.heap[w.heap.size]? = some (.cells (wArr ws) 164 (0, 0))) := ⟨by rw [← hz]; exact HW1.out⟩
              have HB2 : Fact (Below vb wr_ z2) := ⟨by rw [← hz]; exact ⟨HB1.out.os, HB1.out.tape, HB1.out.output, HB1.out.size, HB1.out.block⟩⟩
              clear hz nq p0 p1 p2 p3 p4 p5 p6 p7
              have p0 := row_cell (i := 0) (v := .int .u32 (U a)) HV2.out rfl
              have p1 := row_cell (i := 1) (v := .int .u32 (U b)) HV2.out rfl
              have p2 := row_cell (i := 2) (v := .int .u32 (U c')) HV2.out rfl
              have p3 := row_cell (i := 3) (v := .int .u32 (U d)) HV2.out rfl
              have p4 := row_cell (i := 4) (v := .int .u32 (U e)) HV2.out rfl
              have p5 := row_cell (i := 5) (v := .int .u32 (U f)) HV2.out rfl
              have p6 := row_cell (i := 6) (v := .int .u32 (U g)) HV2.out rfl
              have p7 := row_cell (i := 7) (v := .int .u32 (U h)) HV2.out rfl
              clear hcw
              go_wp2_with fail
              go_quiet (first | (go_at_call 97; refine Calls.quiet_of_same (Rot_calls _ _ 2 _ (by decide) (by decide) rfl)) | (go_at_call 97; refine Calls.quiet_of_same (Rot_calls _ _ 13 _ (by decide) (by decide) rfl)) | (go_at_call 97; refine Calls.quiet_of_same (Rot_calls _ _ 22 _ (by decide) (by decide) rfl)))
              generalize hz : z2.drewN nq = z3
              have HV3 : Fact (z3.heap[vb]? = some (.cells (vArr ⟨a, b, c', d, e, f, g, h⟩) 174 (0, 0))) := ⟨by rw [← hz]; exact HV2.out⟩
              have HW3 : Fact (z3.heap[w.heap.size]? = some (.cells (wArr ws) 164 (0, 0))) := ⟨by rw [← hz]; exact HW2.out⟩
              have HB3 : Fact (Below vb wr_ z3) := ⟨by rw [← hz]; exact ⟨HB2.out.os, HB2.out.tape, HB2.out.output, HB2.out.size, HB2.out.block⟩⟩
              clear hz nq p0 p1 p2 p3 p4 p5 p6 p7
              have p0 := row_cell (i := 0) (v := .int .u32 (U a)) HV3.out rfl
              have p1 := row_cell (i := 1) (v := .int .u32 (U b)) HV3.out rfl
              have p2 := row_cell (i := 2) (v := .int .u32 (U c')) HV3.out rfl
              have p3 := row_cell (i := 3) (v := .int .u32 (U d)) HV3.out rfl
              have p4 := row_cell (i := 4) (v := .int .u32 (U e)) HV3.out rfl
              have p5 := row_cell (i := 5) (v := .int .u32 (U f)) HV3.out rfl
              have p6 := row_cell (i := 6) (v := .int .u32 (U g)) HV3.out rfl
              have p7 := row_cell (i := 7) (v := .int .u32 (U h)) HV3.out rfl
              go_wp2_with (refine wpList_store_row rfl 174 (.tmp 11) (.tmp 184) rfl vb (vArr (V8.step ⟨a, b, c', d, e, f, g, h⟩ kw ww)) rfl rfl 174 (vArr ⟨a, b, c', d, e, f, g, h⟩) ?_ (v_i _) rfl (v_one _) ?_; (with_reducible exact HV3.out))
              go_roundg (64 - (k + 1))
              case measure => have := HK.out; have := HLT.out; omega
              case rel =>
                refine ⟨k + 1, V8.step ⟨a, b, c', d, e, f, g, h⟩ kw ww, by go_num, ⟨by have := HLT.out; omega⟩, ⟨?_⟩, ⟨setRow_heap _ _ _ _ _ _ HV3.out⟩, ⟨below_setRow HB3.out (Nat.le_refl _) _⟩⟩
                have hr := HRN.out
                rw [drop_get (l := kL) (by exact HLT.out) HKW.out, drop_get (l := ws) (by rw [HLW.out]; exact HLT.out) HWW.out] at hr
                exact hr
            · have hk64 : k = 64 := by have := HK.out; omega
              subst hk64
              generalize hvs : (⟨a, b, c', d, e, f, g, h⟩ : V8) = vs at HV HRN
              have HVS : Fact (vs = V8.run kL ws v) := ⟨by have h1 := HRN.out; rw [show kL.drop 64 = [] from by decide] at h1; simpa [V8.run] using h1⟩
              have HBw : Fact (Below hb w wr) := ⟨(HBr.out.mono (Nat.le_of_lt HBL.out)).trans (HB.out.mono (by rw [← HVB.out]; exact Nat.le_trans (Nat.le_of_lt HBL.out) HBr.out.size))⟩
              have HHV : Fact (hb < vb) := ⟨by rw [← HVB.out]; exact Nat.lt_of_lt_of_le HBL.out HBr.out.size⟩
              have HRq : Fact (wr.heap[hb]? = some (.cells (lArr (mixL v vs 0)) 174 (0, 0))) := ⟨by rw [HB.out.block _ HHV.out]; exact HRh.out⟩
              clear hvs HRN HRh hlt HK HB HWq HWr HBr HVr HBv
              go_wp2_with fail
              go_loopg [186] 8 (fun kq i wq => ∃ (k : Nat), i = .int .i64 (k : Int) ∧ Fact (k + kq = 8) ∧ Fact (wq.heap[hb]? = some (.cells (lArr (mixL v vs k)) 174 (0, 0))) ∧ Fact (wq.heap[vb]? = some (.cells (vArr vs) 174 (0, 0))) ∧ Fact (Below hb w wq))
              case atStart => exact ⟨0, rfl, ⟨rfl⟩, HRq, HV, HBw⟩
              case round =>
                clear HRq HV HBw
                obtain ⟨k, rfl, HK, HQ, HV, HB⟩ := hrel
                by_cases hlt : k < 8
                · have HLT := Fact.mk hlt
                  have b8 : (k : Int) < 8 := by omega
                  have p0 := row_cell HQ.out (mix_get hlt)
                  have p1 := row_cell HV.out (v_get hlt)
                  have f0 := row_free (i := k) HQ.out
                  generalize hx : v.l.getD k 0 = x at p0
                  generalize hy : vs.l.getD k 0 = y at p1
                  have HX := Fact.mk hx
                  have HY := Fact.mk hy
                  clear hx hy
                  go_wp2_with fail
                  go_still_tail 11, (by kernel_rfl)
                  change wpList _ _ _ _ _ wr.drew
                  go_wp2_with fail
                  go_roundg (8 - (k + 1))
                  case measure => have := HK.out; have := HLT.out; omega
                  case rel =>
                    refine ⟨k + 1, by go_num, ⟨by have := HLT.out; omega⟩, ⟨?_⟩, ⟨?_⟩, ⟨(HB.out.setCell (p := ⟨hb, k, none⟩) (Nat.le_refl _) _).drew⟩⟩
                    · refine (row_set (w := wr) _ HQ.out).trans ?_
                      rw [← HX.out, ← HY.out, mix_set HLT.out]
                    · exact (Below.heap_setCell _ _ _ _ (Nat.ne_of_gt HHV.out)).trans HV.out
                · have hk8 : k = 8 := by have := HK.out; omega
                  subst hk8
                  go_wp2_with fail
                  go_end0
                  refine ⟨rfl, ⟨HQ.out.trans ?_⟩, HB.out⟩
                  unfold blk
                  rw [words_take, ← HSF.out, ← HVS.out]
                  rfl
end Go.Proofs.YtkmcjokoinoahaaDoor.ShaB
