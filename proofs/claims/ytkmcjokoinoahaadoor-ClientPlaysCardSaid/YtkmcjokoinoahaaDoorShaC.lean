/- sha.Sum: a contract over any world. -/
import Derived.Test.YtkmcjokoinoahaaDoorShaB
set_option linter.unusedVariables false
set_option linter.unusedSimpArgs false
namespace Go.Proofs.YtkmcjokoinoahaaDoor.ShaC
open Go.RowKit Go.Proofs.YtkmcjokoinoahaaDoor.Lib Go.Proofs.YtkmcjokoinoahaaDoor.Reg Go.Proofs.YtkmcjokoinoahaaDoor.PlainS Go.Proofs.YtkmcjokoinoahaaDoor.ShaA Go.Proofs.YtkmcjokoinoahaaDoor.ShaB
/-- Bytes in a row of 32. -/
def bArr (l : List UInt8) : Array Value := ((l ++ List.replicate (32 - l.length) 0).map vu8).toArray
theorem bArr_size {l : List UInt8} (h : l.length ≤ 32) : (bArr l).size = 32 := by simp [bArr]; omega
theorem bArr_set {l : List UInt8} {k : Nat} (x : UInt8) (hk : l.length = k) (h : k < 32) : (bArr l).setIfInBounds k (.int .u8 (x.toNat : Int)) = bArr (l ++ [x]) := by
  subst hk
  show (bArr l).setIfInBounds l.length (vu8 x) = _
  unfold bArr
  rw [List.setIfInBounds_toArray]
  congr 1
  rw [List.map_append, List.map_append, List.map_append, List.set_append_right _ _ (by simp)]
  obtain ⟨m, hm⟩ : ∃ m, 32 - l.length = m + 1 := ⟨31 - l.length, by omega⟩
  have h2 : 32 - (l ++ [x]).length = m := by simp; omega
  rw [hm, h2]
  simp [List.replicate_succ]
theorem bArr_zero {l : List UInt8} {k : Nat} (hk : l.length = k) (h : k < 32) : (bArr l)[k]? = some (.int .u8 0) := by
  subst hk
  unfold bArr
  rw [List.getElem?_toArray, List.getElem?_map, List.getElem?_append_right (Nat.le_refl _), Nat.sub_self, List.getElem?_replicate, if_pos (by omega)]
  rfl
theorem bArr_list {l : List UInt8} (h : l.length = 32) : (bArr l).toList = l.map vu8 := by simp [bArr, h]
theorem bArr_one (l : List UInt8) : (bArr l).all (·.oneCell') = true := by simp [bArr, vu8, Value.oneCell']
theorem alloc_b (W : World) : (Instr.alloc 52 true (.tuple #[])).run Tryd.prog W = .ok (.pointer (some ⟨W.heap.size, 0, none⟩)) (W.alloc (.cells (bArr []) 52)) := by kernel_rfl
theorem b_i {l : List UInt8} (h : l.length ≤ 32) : (Tryd.prog.info? 52).map (·.size) = some (bArr l).size := by rw [bArr_size h]; kernel_rfl
theorem info_u8 : (Tryd.prog.info? 5).map (fun i => (i.zero, i.size, i.bytes)) = some (some (.int .u8 0), 1, 1) := by kernel_rfl
theorem u8_i : ∃ i, Tryd.prog.info? 5 = some i ∧ i.size = 1 := by
  cases h : Tryd.prog.info? 5 with
  | none => have := info_u8; rw [h] at this; cases this
  | some i => exact ⟨i, rfl, by have := info_u8; rw [h] at this; simp at this; exact this.2.1⟩
theorem sl_at {w : World} {F : Nat → Prop} {A : Option Addr} {n c : Nat} {xs : List (List UInt8)} (h : Sl (Rep.slice rU8) w F A n c xs) {i : Nat} {v : List UInt8} (hi : xs[i]? = some v) :
    ∃ ad A' c', A = some ad ∧ F ad.block ∧ w.cell? (ad.add i) = some (.slice A' v.length c') ∧ Sl rU8 w F A' v.length c' v := by
  obtain ⟨ad, cs, e, hb, ⟨A', c', hd, hs⟩, hcell⟩ := h.at_ hi
  subst hd
  refine ⟨ad, A', c', e, hb, ?_, hs⟩
  have := hcell 0 _ rfl
  simpa [Rep.slice] using this
theorem pad_go {q z : Nat} (h : z < padN q) : (q + 1 + z) % 64 ≠ 56 := by unfold padN at h; omega
theorem pad_end {q : Nat} : (q + 1 + padN q) % 64 = 56 := by unfold padN; omega
theorem padN_lt (q : Nat) : padN q < 64 := by unfold padN; omega
theorem hash_ua : Tryd.prog.underlying 52 = some (.array 32 5) := Tryd.underlying52
theorem laid_move {w w' : World} {B : Nat} (h : LaidW w) (hb : Below B w w') (h1 : 3 < B) : LaidW w' := by
  obtain ⟨ty, fr, hh⟩ := h
  exact ⟨ty, fr, (hb.block 3 h1).trans hh⟩
theorem sl_drop64 {w : World} {F : Nat → Prop} {A : Option Addr} {n c : Nat} {l : List UInt8} (h : Sl rU8 w F A n c l) (hn : 64 ≤ n) : ∃ A' : Option Addr, (∀ W : World, (Instr.slice 129 (.slice A n c) (some (.int .i64 64)) none none).run Tryd.prog W = .ok (.slice A' (n - 64) (c - 64)) W) ∧
    ∀ {w' : World}, Sl rU8 w' F A n c l → Sl rU8 w' F A' (n - 64) (c - 64) (l.drop 64) := by
  obtain ⟨i, hi, hz⟩ := u8_i
  obtain ⟨A', h1, h2⟩ := slice_from (P := Tryd.prog) rU8 129 5 Tryd.underlying129 hi hz A n c .i64 64 (by omega) (by omega)
  simp only [Int.reduceToNat] at h1 h2
  exact ⟨A', h1, fun h => h2 h⟩
theorem out_take (v : V8) {k : Nat} (h : k < 32) : (outL v).take (k + 1) = (outL v).take k ++ [outB v k] := by
  rw [List.take_succ_eq_append_getElem (by rw [outL_len]; exact h)]
  simp [outL]
theorem msg_len (l : List UInt8) : ∃ t, (msgL l).length = 64 * t ∧ 0 < t := by
  have h : (msgL l).length = l.length + 1 + padN l.length + 8 := by simp [msgL, eight_len]; omega
  refine ⟨(l.length + 1 + padN l.length + 8) / 64, ?_, ?_⟩
  · rw [h]; have := pad_end (q := l.length); omega
  · have := pad_end (q := l.length); omega
theorem shaF_step (j : Nat) (v : V8) (l : List UInt8) : shaF (j + 1) v l = shaF j (blk v (l.take 64)) (l.drop 64) := by
  have h : blk v (l.take 64) = blk v l := by unfold blk; rw [words_take]
  rw [h]; rfl
theorem low' (y : UInt32) : (y.toNat : Int) % 256 = (y.toUInt8.toNat : Int) := by rw [← r_low]; simp [IntKind.wrap, IntKind.bits, IntKind.signed, U]
theorem v_cell {w : World} {B k : Nat} {v : V8} {x : UInt32} (h : w.heap[B]? = some (.cells (vArr v) 174 (0, 0))) (hk : k < 8) (hx : v.l.getD k 0 = x) : w.cell? ⟨B, k, none⟩ = some (.int .u32 (U x)) := by
  subst hx
  exact row_cell h (v_get hk)
set_option maxHeartbeats 8000000 in
set_option maxRecDepth 100000 in
theorem Sum_calls (w : World) (F : Nat → Prop) (A : Option Addr) (n c : Nat) (ps : List (List UInt8)) (L : List UInt8) (hL : ps.flatten = L) (h : Sl (Rep.slice rU8) w F A n c ps) (hF : ∀ k, F k → k < w.heap.size) (hl : L.length ≤ 1000000) (hg : LaidW w) (h1 : 3 < w.heap.size) :
    Calls Tryd.prog 83 #[.slice A n c] w fun e w' => (∃ cs : Array Value, e = .returned (.agg cs) ∧ Fact (cs.toList = (shaL L).map vu8)) ∧ Below w.heap.size w w' := by
  have H := Fact.mk h
  have HF := Fact.mk hF
  have HLN := Fact.mk hl
  have HG := Fact.mk hg
  have H1 := Fact.mk h1
  have HPL := Fact.mk hL
  have HN : Fact (ps.length = n) := ⟨h.len⟩
  have hnm : (n : Int) ≤ 9223372036854775807 := by have := Nat.le_trans h.le h.max_; omega
  clear h hF hl hg h1 hL
  go_enter Tryd.func83, Tryd.ntmps83
  go_wp2_with (refine wpList_ok rfl (exec_alloc rfl (alloc_b _)) ?_)
  generalize hwa : w.alloc (.cells (bArr []) 52) = wa
  have HWA : Fact (Below w.heap.size w wa) := ⟨by rw [← hwa]; exact (Below.refl _ _).alloc (Nat.le_refl _) _⟩
  have HSA : Fact (wa.heap.size = w.heap.size + 1) := ⟨by rw [← hwa]; simp⟩
  have HRA : Fact (wa.heap[w.heap.size]? = some (.cells (bArr []) 52 (0, 0))) := ⟨by rw [← hwa]; exact heap_alloc_new _ _⟩
  clear hwa
  go_loopg [3, 13] n (fun kq b i wr => ∃ (k : Nat) (l : List UInt8), i = .int .i64 (k : Int) ∧ Fact (k + kq = n) ∧ Fact (Ow rU8 5 wr (w.heap.size + 1) (fun _ => False) b l) ∧ Fact (l ++ (ps.drop k).flatten = L) ∧ Fact (Below (w.heap.size + 1) wa wr))
  case atStart => exact ⟨0, [], rfl, ⟨Nat.zero_add _⟩, ⟨Ow.nil _ _ _ _ _⟩, ⟨HPL.out⟩, ⟨Below.refl _ _⟩⟩
  case round =>
    obtain ⟨k, l, rfl, HK, HO, HL, HB⟩ := hrel
    by_cases hlt : k < n
    · have HLT := Fact.mk hlt
      have hin : (k : Int) < (n : Int) := by omega
      obtain ⟨v, hv⟩ : ∃ v, ps[k]? = some v := ⟨_, List.getElem?_eq_getElem (by rw [HN.out]; exact hlt)⟩
      obtain ⟨ad, A', c', rfl, hfa, hcell, hs⟩ := sl_at H.out hv
      have hcell' : wr.cell? (ad.add k) = some (.slice A' v.length c') := (cell_same ((HB.out.block _ (by rw [block_add]; exact Nat.lt_succ_of_lt (HF.out _ hfa))).trans (HWA.out.block _ (by rw [block_add]; exact HF.out _ hfa)))).trans hcell
      have HSV : Fact (Sl rU8 wr F A' v.length c' v) := ⟨hs.move (fun j hj => (HB.out.block _ (Nat.lt_succ_of_lt (HF.out _ hj))).trans (HWA.out.block _ (HF.out _ hj)))⟩
      have HDV : Fact (ps.drop k = v :: ps.drop (k + 1)) := ⟨by rw [List.drop_eq_getElem_cons (by rw [HN.out]; exact hlt)]; congr 1; rw [List.getElem?_eq_getElem (by rw [HN.out]; exact hlt)] at hv; exact Option.some.inj hv⟩
      have HLV : Fact (l.length + v.length ≤ 1000000) := ⟨by have h1 := congrArg List.length HL.out; rw [HDV.out] at h1; simp at h1; have h2 := HLN.out; omega⟩
      clear hcell hs hv hfa
      go_wp2_with (at_builtin
                   refine wpList_app rU8 (w0 := wa) (w.heap.size + 1) rfl (.tmp 17) (.tmp 18) 129 5 (.int .u8 0) 1 rfl Tryd.underlying129 info_u8 rfl (by decide) (by decide) (fun _ => False) F u3 l v _ _ _ rfl rfl HO.out HSV.out HB.out (by have := HB.out.size; have := HSA.out; omega) (by have := HLV.out; omega) (fun _ h => h.elim) (fun _ _ h => h) ?_
                   intro v2 w2 ho2 hb2 hg2 hat2
                   have HO2 := Fact.mk ho2
                   have HB2 := Fact.mk hb2
                   clear ho2 hb2 hg2 hat2)
      go_roundg (n - (k + 1))
      case measure => have := HK.out; have := HLT.out; omega
      case rel => exact ⟨k + 1, l ++ v, by go_num, ⟨by have := HLT.out; omega⟩, HO2, ⟨by have h1 := HL.out; rw [HDV.out] at h1; simpa using h1⟩, HB2⟩
    · have hkn : k = n := by have := HK.out; omega
      subst hkn
      have HLE : Fact (l = L) := ⟨by have h1 := HL.out; rw [List.drop_of_length_le (by rw [HN.out]; exact Nat.le_refl _)] at h1; simpa using h1⟩
      clear hlt HK HL
      have hle := HLE.out
      subst hle
      clear HLE
      obtain ⟨q, hq⟩ : ∃ q, l.length = q := ⟨_, rfl⟩
      obtain ⟨Ao, co, hvo, hso⟩ := HO.out.sl
      subst hvo
      rw [hq] at HO ⊢
      have HQ := Fact.mk hq
      have HQ1 : Fact (q ≤ 1000000) := ⟨by rw [← hq]; exact HLN.out⟩
      clear hso hq
      have x1 : IntKind.u64.wrap (q : Int) = (q : Int) := by rw [IntKind.wrap_u64]; have := HQ1.out; omega
      have x2 : IntKind.u64.wrap ((q : Int) * 8) = ((8 * q : Nat) : Int) := by rw [IntKind.wrap_u64]; have := HQ1.out; omega
      obtain ⟨q8, hq8⟩ : ∃ q8, 8 * q = q8 := ⟨_, rfl⟩
      rw [hq8] at x2
      have HQ8 := Fact.mk hq8
      clear hq8
      go_wp2_with (at_builtin
                   refine wpList_app rU8 (w0 := wa) (w.heap.size + 1) rfl (.tmp 25) (.tmp 26) 129 5 (.int .u8 0) 1 rfl Tryd.underlying129 info_u8 rfl (by decide) (by decide) (fun _ => False) (fun k => k = wr.heap.size) (.slice Ao q co) l [0x80] _ 1 1 rfl rfl
                     (HO.out.below ((Below.refl _ _).alloc (Nat.le_refl _) _) (fun _ h => h.elim)) (Sl.boxB wr _ rfl rfl (by decide)) (HB.out.alloc (by have := HB.out.size; have := HSA.out; omega) _) (by have := HB.out.size; have := HSA.out; simp; omega) (by have := HQ.out; have := HQ1.out; simp; omega) (fun _ h => h.elim) (fun _ _ h => h) ?_
                   intro v2 w2 ho2 hb2 hg2 hat2
                   have HO2 := Fact.mk ho2
                   have HB2 := Fact.mk hb2
                   clear ho2 hb2 hg2 hat2)
      go_loopg [3] (padN q) (fun kq b wx => ∃ (z : Nat), Fact (z + kq = padN q) ∧ Fact (Ow rU8 5 wx (w.heap.size + 1) (fun _ => False) b (l ++ [0x80] ++ List.replicate z 0)) ∧ Fact (Below (w.heap.size + 1) wa wx))
      case atStart => exact ⟨0, ⟨Nat.zero_add _⟩, ⟨by simpa using HO2.out⟩, HB2⟩
      case round =>
        obtain ⟨z, HZ, HO3, HB3⟩ := hrel
        clear HO HO2 HB HB2
        obtain ⟨A3, c3, hv3, hs3⟩ := HO3.out.sl
        subst hv3
        obtain ⟨m, hm⟩ : ∃ m, q + 1 + z = m := ⟨_, rfl⟩
        have hlen : (l ++ [0x80] ++ List.replicate z 0).length = m := by have := HQ.out; simp; omega
        rw [hlen] at HO3 ⊢
        have HM := Fact.mk hm
        have hm1 : (m : Int) ≤ 2000000 := by have := HQ1.out; have := HZ.out; have := padN_lt q; omega
        clear hs3 hlen hm
        by_cases hlt : z < padN q
        · have HLT := Fact.mk hlt
          have hmod : m % 64 ≠ 56 := by rw [← HM.out]; exact pad_go hlt
          have t1 : ((m : Int) % 64 == 56) = false := by simp; omega
          have t2 : ((m : Int) % 64 != 56) = true := by simp; omega
          clear hmod hlt
          go_wp2_with (at_builtin
                       refine wpList_app rU8 (w0 := wa) (w.heap.size + 1) rfl (.tmp 32) (.tmp 33) 129 5 (.int .u8 0) 1 rfl Tryd.underlying129 info_u8 rfl (by decide) (by decide) (fun _ => False) (fun k => k = wr.heap.size) (.slice A3 m c3) (l ++ [128] ++ List.replicate z 0) [0] _ 1 1 rfl rfl
                         (HO3.out.below ((Below.refl _ _).alloc (Nat.le_refl _) _) (fun _ h => h.elim)) (Sl.boxB wr _ rfl rfl (by decide)) (HB3.out.alloc (by have := HB3.out.size; have := HSA.out; omega) _) (by have := HB3.out.size; have := HSA.out; simp; omega) (by have := HQ.out; have := HQ1.out; have := HM.out; simp; omega) (fun _ h => h.elim) (fun _ _ h => h) ?_
                       intro v4 w4 ho4 hb4 hg4 hat4
                       have HO4 := Fact.mk ho4
                       have HB4 := Fact.mk hb4
                       clear ho4 hb4 hg4 hat4)
          go_roundg (padN q - (z + 1))
          case measure => have := HZ.out; have := HLT.out; omega
          case rel => exact ⟨z + 1, ⟨by have := HLT.out; omega⟩, ⟨by have h1 := HO4.out; rw [List.append_assoc, ← List.replicate_succ'] at h1; exact h1⟩, HB4⟩
        · have hze : z = padN q := by have := HZ.out; omega
          have hmod : m % 64 = 56 := by rw [← HM.out, hze]; exact pad_end
          have t1 : ((m : Int) % 64 == 56) = true := by simp; omega
          have t2 : ((m : Int) % 64 != 56) = false := by simp; omega
          obtain ⟨ms, hms⟩ : ∃ ms, l ++ [128] ++ List.replicate z 0 = ms := ⟨_, rfl⟩
          have HMS : Fact (msgL l = ms ++ eightL q8) := ⟨by rw [← hms, hze, ← HQ8.out, ← HQ.out]; rfl⟩
          have HML : Fact (ms.length = m) := ⟨by rw [← hms, ← HM.out, ← HQ.out]; simp; omega⟩
          rw [hms] at HO3
          clear hmod hlt hze hms
          go_wp2_with fail
          clear t1 t2
          go_loopg [3, 7] 8 (fun kq b i wx => i = .int .i64 (8 * (kq : Int) - 8) ∧ Fact (kq ≤ 8) ∧ Fact (Ow rU8 5 wx (w.heap.size + 1) (fun _ => False) b (ms ++ (eightL q8).take (8 - kq))) ∧ Fact (Below (w.heap.size + 1) wa wx))
          case atStart => exact ⟨rfl, ⟨Nat.le_refl _⟩, ⟨by simpa using HO3.out⟩, HB3⟩
          case round =>
            obtain ⟨rfl, HK, HO5, HB5⟩ := hrel
            clear HO3 HB3
            obtain ⟨A5, c5, hv5, hs5⟩ := HO5.out.sl
            subst hv5
            have hlen : (ms ++ (eightL q8).take (8 - gk)).length = m + (8 - gk) := by have := HML.out; have := HK.out; simp [eight_len]; omega
            rw [hlen] at HO5 ⊢
            clear hs5 hlen
            match gk, HK, HO5 with
            | j + 1, HK, HO5 =>
              have hj8 : j + 1 ≤ 8 := HK.out
              obtain ⟨s, hs⟩ : ∃ s, 8 * j = s := ⟨_, rfl⟩
              have HS := Fact.mk hs
              obtain ⟨m5, hm5⟩ : ∃ m5, m + (8 - (j + 1)) = m5 := ⟨_, rfl⟩
              have hi : 8 * ((j + 1 : Nat) : Int) - 8 = (s : Int) := by omega
              have hm5l : (m5 : Int) ≤ 3000000 := by omega
              rw [hi]
              rw [hm5] at HO5 ⊢
              have HM5 := Fact.mk hm5
              have HD : Fact ((eightL q8).take (8 - j) = (eightL q8).take (8 - (j + 1)) ++ [dig q8 j]) := ⟨by
                have h1 := eight_take q8 (8 - (j + 1)) (by omega)
                rw [show 8 - (j + 1) + 1 = 8 - j by omega, show 7 - (8 - (j + 1)) = j by omega] at h1
                exact h1⟩
              have hs0 : (0 : Int) ≤ s := by omega
              have hs1 : (s : Int) < 64 := by omega
              have hsm : min s 64 = s := by omega
              clear hs hm5 hi hj8
              go_wp2_with (at_builtin
                           refine wpList_app rU8 (w0 := wa) (w.heap.size + 1) rfl (.tmp 39) (.tmp 44) 129 5 (.int .u8 0) 1 rfl Tryd.underlying129 info_u8 rfl (by decide) (by decide) (fun _ => False) (fun k => k = wr.heap.size) (.slice A5 m5 c5) (ms ++ (eightL q8).take (8 - (j + 1))) [dig q8 j] _ 1 1 rfl rfl
                             (HO5.out.below ((Below.refl _ _).alloc (Nat.le_refl _) _) (fun _ h => h.elim)) (Sl.boxB wr _ (by rw [← HS.out, dig_int]; rfl) rfl (by decide)) (HB5.out.alloc (by have := HB5.out.size; have := HSA.out; omega) _) (by have := HB5.out.size; have := HSA.out; simp; omega) (by have := HML.out; simp [eight_len]; omega) (fun _ h => h.elim) (fun _ _ h => h) ?_
                           intro v6 w6 ho6 hb6 hg6 hat6
                           have HO6 := Fact.mk ho6
                           have HB6 := Fact.mk hb6
                           clear ho6 hb6 hg6 hat6)
              go_roundg j
              case measure => omega
              case rel => exact ⟨by have := HS.out; go_num, ⟨by have := HK.out; omega⟩, ⟨by have h1 := HO6.out; rw [List.append_assoc, ← HD.out] at h1; exact h1⟩, HB6⟩
            | 0, HK, HO5 =>
              rw [show 8 * ((0 : Nat) : Int) - 8 = -8 from rfl]
              have HMG : Fact (ms ++ (eightL q8).take (8 - 0) = msgL l) := ⟨by rw [HMS.out]; congr 1⟩
              obtain ⟨t, ht, ht0⟩ := msg_len l
              have HT := Fact.mk ht
              have HT0 := Fact.mk ht0
              obtain ⟨m6, hm6⟩ : ∃ m6, m + (8 - 0) = m6 := ⟨_, rfl⟩
              have HM6 : Fact (m6 = 64 * t) := ⟨by rw [← ht, HMS.out, ← hm6, ← HML.out]; simp [eight_len]⟩
              rw [hm6] at HO5 ⊢
              rw [HMG.out] at HO5
              obtain rfl := HM6.out
              obtain ⟨A6, c6, hv6, hs6⟩ := HO5.out.sl
              have HSL : Fact (Sl rU8 wr (fun k => w.heap.size + 1 ≤ k ∧ k < wr.heap.size) A5 (64 * t) c5 (msgL l)) := ⟨by
                rw [ht] at hv6 hs6
                injection hv6 with e1 e2 e3
                subst e1 e3
                exact hs6.mono (fun k hk => hk.elim False.elim (fun h => HO5.out.lt k h))⟩
              clear ht ht0 hm6 HM6 HMG hv6 hs6 HMS HML
              go_wp2_with (first
                | (refine wpList_ok rfl (exec_alloc rfl (alloc_v _)) ?_)
                | (refine wpList_store_row rfl 174 (.tmp 8) (.tmp 46) rfl wr.heap.size (vArr iv) rfl rfl 174 (vArr V8.zero) (heap_alloc_new _ _) (v_i _) rfl (v_one _) ?_))
              simp only [Act.put, List.setIfInBounds_toArray, List.set_cons_succ, List.set_cons_zero]
              generalize hwh : (wr.alloc (.cells (vArr V8.zero) 174)).setRow wr.heap.size (vArr iv) = wh
              have HRh : Fact (wh.heap[wr.heap.size]? = some (.cells (vArr iv) 174 (0, 0))) := ⟨by rw [← hwh]; exact setRow_heap _ _ _ _ _ _ (heap_alloc_new _ _)⟩
              have HBh : Fact (Below wr.heap.size wr wh) := ⟨by rw [← hwh]; exact below_setRow ((Below.refl _ _).alloc (Nat.le_refl _) _) (Nat.le_refl _) _⟩
              have HGT : Fact (w.heap.size + 1 ≤ wr.heap.size) := ⟨by have := HB5.out.size; have := HSA.out; omega⟩
              clear hwh
              generalize hbe : wr.heap.size = hb at HRh HBh HGT HSL ⊢
              have HBE := Fact.mk hbe
              have HSh : Fact (Sl rU8 wh (fun k => w.heap.size + 1 ≤ k ∧ k < hb) A5 (64 * t) c5 (msgL l)) := ⟨HSL.out.move (Same.of_below HBh.out (fun k hk => hk.2))⟩
              have HWh : Fact (Below w.heap.size w wh) := ⟨HWA.out.trans ((HB5.out.mono (Nat.le_succ _)).trans (HBh.out.mono (Nat.le_of_succ_le HGT.out)))⟩
              have HRO : Fact (wh.heap[w.heap.size]? = some (.cells (bArr []) 52 (0, 0))) := ⟨by
                rw [HBh.out.block _ (Nat.lt_of_succ_le HGT.out), HB5.out.block _ (Nat.lt_succ_self _)]; exact HRA.out⟩
              clear HSL HO5 hbe HBE HB5
              obtain ⟨fin, hfin⟩ : ∃ fin, shaF t iv (msgL l) = fin := ⟨_, rfl⟩
              have HFIN := Fact.mk hfin
              clear hfin
              go_loopg [3] t (fun kq b wx => ∃ (A' : Option Addr) (c' N : Nat) (l' : List UInt8) (v' : V8), b = .slice A' N c' ∧ Fact (N = 64 * kq) ∧ (N : Int) ≤ 9223372036854775807 ∧ Fact (Sl rU8 wx (fun k => w.heap.size + 1 ≤ k ∧ k < hb) A' N c' l') ∧ Fact (shaF kq v' l' = fin) ∧ Fact (wx.heap[hb]? = some (.cells (vArr v') 174 (0, 0))) ∧ Fact (Below hb wh wx))
              case atStart => exact ⟨A5, c5, 64 * t, msgL l, iv, rfl, ⟨rfl⟩, by have := Nat.le_trans HSh.out.le HSh.out.max_; omega, HSh, HFIN, HRh, ⟨Below.refl _ _⟩⟩
              case round =>
                obtain ⟨A', c', N, l', v', rfl, HN', hNm, HS', HF', HR', HB'⟩ := hrel
                clear HSh HRh
                match gk, HN', HF' with
                | j + 1, HN', HF' =>
                  have hNp : 0 < N := by have := HN'.out; omega
                  have hNp' : (0 : Int) < N := by omega
                  have hN64 : 64 ≤ N := by have := HN'.out; omega
                  have HN64 := Fact.mk hN64
                  clear hN64
                  obtain ⟨A2, hs1, hs2⟩ := sl_drop64 HS'.out HN64.out
                  have HS2 := Fact.mk (@hs2)
                  clear hs2
                  have hsz : ((N - 64 : Nat) : Int) ≤ 9223372036854775807 := by omega
                  obtain ⟨N2, hN2⟩ : ∃ N2, N - 64 = N2 := ⟨_, rfl⟩
                  rw [hN2] at hs1 hsz
                  have HN2 := Fact.mk hN2
                  clear hN2
                  go_wp2_with (go_at_call 91; fail)
                  refine (Block_calls _ hb v' _ A' N c' l' HR'.out HS'.out (fun k hk => hk.2) HN64.out (laid_move HG.out (HWh.out.trans (HB'.out.mono (Nat.le_of_lt (Nat.lt_of_succ_le HGT.out)))) H1.out) (Nat.lt_of_lt_of_le H1.out (Nat.le_of_lt (Nat.lt_of_succ_le HGT.out)))).mono ?_
                  rintro e w7 ⟨rfl, HR7, hb7⟩
                  have HB7 := Fact.mk hb7
                  clear hb7
                  go_wp2_with fail
                  go_roundg j
                  case measure => omega
                  case rel =>
                    refine ⟨A2, _, N2, l'.drop 64, _, rfl, ⟨by have := HN'.out; have := HN2.out; omega⟩, hsz, ⟨?_⟩, ⟨by rw [← shaF_step]; exact HF'.out⟩, HR7, ⟨HB'.out.trans HB7.out⟩⟩
                    rw [← HN2.out]
                    exact HS2.out (HS'.out.move (Same.of_below HB7.out (fun k hk => hk.2)))
                | 0, HN', HF' =>
                  have hN0 : N = 0 := HN'.out
                  subst hN0
                  have hvf : v' = fin := HF'.out
                  subst hvf
                  clear HF' HS' hNm
                  go_wp2_with (refine wpList_ok rfl (exec_alloc rfl (alloc_b _)) ?_)
                  generalize hwo : wr.alloc (.cells (bArr []) 52) = wo
                  generalize hob : wr.heap.size = ob
                  have HOB : Fact (hb < ob) := ⟨by rw [← hob]; exact Go.lt_of_block HR'.out⟩
                  have HRw : Fact (wo.heap[ob]? = some (.cells (bArr []) 52 (0, 0))) := ⟨by rw [← hwo, ← hob]; exact heap_alloc_new _ _⟩
                  have HBw : Fact (Below w.heap.size w wo) := ⟨HWh.out.trans ((HB'.out.mono (Nat.le_of_lt (Nat.lt_of_succ_le HGT.out))).trans (by rw [← hwo]; exact (Below.refl _ _).alloc (by rw [hob]; exact Nat.le_of_lt (Nat.lt_trans (Nat.lt_of_succ_le HGT.out) HOB.out)) _))⟩
                  have HRv : Fact (wo.heap[hb]? = some (.cells (vArr v') 174 (0, 0))) := ⟨by rw [← hwo, Below.heap_alloc _ _ _ (by rw [hob]; exact HOB.out)]; exact HR'.out⟩
                  have HRr : Fact (wo.heap[w.heap.size]? = some (.cells (bArr []) 52 (0, 0))) := ⟨by rw [← hwo, Below.heap_alloc _ _ _ (by rw [hob]; exact Nat.lt_trans (Nat.lt_of_succ_le HGT.out) HOB.out), HB'.out.block _ (Nat.lt_of_succ_le HGT.out)]; exact HRO.out⟩
                  have HSO : Fact (wo.heap.size = ob + 1) := ⟨by rw [← hwo, ← hob]; simp⟩
                  clear hwo hob HR' HB' HRO
                  have r8 := r_low
                  go_loopg [10, 54] 32 (fun kq x i wx => ∃ (k : Nat), i = .int .i64 (k : Int) ∧ Fact (k + kq = 32) ∧ Fact (wx.heap[ob]? = some (.cells (bArr ((outL v').take k)) 52 (0, 0))) ∧ Fact (Below ob wo wx))
                  case atStart => exact ⟨0, rfl, ⟨rfl⟩, HRw, ⟨Below.refl _ _⟩⟩
                  case round =>
                    clear HRw
                    obtain ⟨k, rfl, HK, HR, HB⟩ := hrel
                    by_cases hlt : k < 32
                    · have HLT := Fact.mk hlt
                      have hk32 : (k : Int) < 32 := by omega
                      obtain ⟨k4, hk4⟩ : ∃ k4, k / 4 = k4 := ⟨_, rfl⟩
                      obtain ⟨sh, hsh⟩ : ∃ sh, 24 - k % 4 * 8 = sh := ⟨_, rfl⟩
                      have hq4 : (k : Int) / 4 = (k4 : Int) := by omega
                      have hk4l : (k4 : Int) < 8 := by omega
                      have hr4 : 24 - (k : Int) % 4 * 8 = (sh : Int) := by omega
                      have hsh0 : (0 : Int) ≤ sh := by omega
                      have hsh1 : (sh : Int) < 32 := by omega
                      have hshm : min sh 32 = sh := by omega
                      obtain ⟨x, hx⟩ : ∃ x, v'.l.getD k4 0 = x := ⟨_, rfl⟩
                      have hc : wr.cell? ⟨hb, k4, none⟩ = some (.int .u32 (U x)) := (HB.out.cell (p := ⟨hb, k4, none⟩) HOB.out).trans (v_cell HRv.out (by omega) hx)
                      obtain ⟨y, hy⟩ : ∃ y, x >>> UInt32.ofNat sh = y := ⟨_, rfl⟩
                      have hdv : U x / 2 ^ sh = U y := by rw [← hy]; exact r_shr (by omega)
                      have HOX : Fact (outB v' k = y.toUInt8) := ⟨by unfold outB; rw [hk4, hsh, hx, hy]⟩
                      have hz := row_cell HR.out (bArr_zero (l := (outL v').take k) (k := k) (by rw [List.length_take, outL_len]; omega) hlt)
                      have hf := row_free (i := k) HR.out
                      clear hlt hk4 hsh hx hy
                      go_wp2_with fail
                      go_roundg (32 - (k + 1))
                      case measure => have := HK.out; have := HLT.out; omega
                      case rel =>
                        refine ⟨k + 1, by go_num, ⟨by have := HLT.out; omega⟩, ⟨?_⟩, ⟨HB.out.setCell (p := ⟨ob, k, none⟩) (Nat.le_refl _) _⟩⟩
                        refine (row_set (w := wr) _ HR.out).trans ?_
                        rw [low', ← HOX.out, bArr_set _ (by rw [List.length_take, outL_len]; have := HLT.out; omega) HLT.out, out_take v' HLT.out]
                    · have hk32 : k = 32 := by have := HK.out; omega
                      subst hk32
                      have hto : (outL v').take 32 = outL v' := List.take_of_length_le (by rw [outL_len]; exact Nat.le_refl _)
                      rw [hto] at HR
                      have HBI : Fact ((Tryd.prog.info? 52).map (·.size) = some (bArr (outL v')).size) := ⟨b_i (by rw [outL_len]; exact Nat.le_refl _)⟩
                      have HRR : Fact (wr.heap[w.heap.size]? = some (.cells (bArr []) 52 (0, 0))) := ⟨by rw [HB.out.block _ (Nat.lt_trans (Nat.lt_of_succ_le HGT.out) HOB.out)]; exact HRr.out⟩
                      have HSZ : Fact ((bArr []).size = (bArr (outL v')).size) := ⟨by rw [bArr_size (by decide), bArr_size (by rw [outL_len]; exact Nat.le_refl _)]⟩
                      clear hto hlt
                      go_wp2_with (first
                        | (refine wpList_load_row rfl 52 (.tmp 9) rfl ob rfl 52 (bArr (outL v')) (0, 0) _ HR.out hash_ua rfl HBI.out ?_)
                        | (refine wpList_store_row rfl 52 (.tmp 2) (.tmp 70) rfl w.heap.size (bArr (outL v')) rfl rfl 52 (bArr []) HRR.out HBI.out HSZ.out (bArr_one _) ?_))
                      refine bodyPost_ret (results_cell_row (fn := Tryd.f83) rfl _ _ w.heap.size 52 (bArr (outL v')) (0, 0) _ rfl (setRow_heap _ _ _ _ _ _ HRR.out) hash_ua rfl HBI.out) rfl ?_
                      refine ⟨⟨bArr (outL v'), rfl, ⟨?_⟩⟩, below_setRow (HBw.out.trans (HB.out.mono (Nat.le_of_lt (Nat.lt_trans (Nat.lt_of_succ_le HGT.out) HOB.out)))) (Nat.le_refl _) _⟩
                      rw [bArr_list (outL_len _)]
                      have h1 : (msgL l).length / 64 = t := by rw [HT.out]; omega
                      unfold shaL
                      rw [h1, HFIN.out]
end Go.Proofs.YtkmcjokoinoahaaDoor.ShaC
