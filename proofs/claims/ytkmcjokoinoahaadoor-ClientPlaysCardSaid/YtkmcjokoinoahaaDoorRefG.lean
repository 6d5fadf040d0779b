/- ferrymanref11's Client.Update: a contract over any world. -/
import Derived.Test.YtkmcjokoinoahaaDoorRefF
set_option linter.unusedVariables false
set_option linter.unusedSimpArgs false
namespace Go.Proofs.YtkmcjokoinoahaaDoor.RefG
open Go.RowKit Go.Proofs.YtkmcjokoinoahaaDoor.Lib Go.Proofs.YtkmcjokoinoahaaDoor.LibB Go.Proofs.YtkmcjokoinoahaaDoor.Reg Go.Proofs.YtkmcjokoinoahaaDoor.RegC Go.Proofs.YtkmcjokoinoahaaDoor.RegD Go.Proofs.YtkmcjokoinoahaaDoor.PlainS Go.Proofs.YtkmcjokoinoahaaDoor.ShaB Go.Proofs.YtkmcjokoinoahaaDoor.ShaC Go.Proofs.YtkmcjokoinoahaaDoor.ShaD Go.Proofs.YtkmcjokoinoahaaDoor.ShaDS Go.Proofs.YtkmcjokoinoahaaDoor.ShaE Go.Proofs.YtkmcjokoinoahaaDoor.PlainP Go.Proofs.YtkmcjokoinoahaaDoor.ParcelB Go.Proofs.YtkmcjokoinoahaaDoor.SealA Go.Proofs.YtkmcjokoinoahaaDoor.SealB Go.Proofs.YtkmcjokoinoahaaDoor.ClientA Go.Proofs.YtkmcjokoinoahaaDoor.ClientB Go.Proofs.YtkmcjokoinoahaaDoor.ClientD Go.Proofs.YtkmcjokoinoahaaDoor.ClientF Go.Proofs.YtkmcjokoinoahaaDoor.ClientK Go.Proofs.YtkmcjokoinoahaaDoor.RefD Go.Proofs.YtkmcjokoinoahaaDoor.RefE Go.Proofs.YtkmcjokoinoahaaDoor.RefF
theorem atI_spec (l : List Hd) (n : Nat) : (∃ (i : Nat) (x : Hd), l[i]? = some x ∧ atI l n = (i : Int) ∧ (l.map ofH).find? (qE n) = some (ofH x)) ∨ (atI l n = -1 ∧ (l.map ofH).find? (qE n) = none) := by
  unfold atI
  cases hq : l.findIdx? (fun h => h.ht == n) with
  | none =>
    rw [List.findIdx?_eq_none_iff] at hq
    refine .inr ⟨rfl, ?_⟩
    rw [List.find?_eq_none]
    intro x hx
    obtain ⟨y, hy, rfl⟩ := List.mem_map.1 hx
    have := hq y hy
    simpa [qE, ofH] using this
  | some i =>
    rw [List.findIdx?_eq_some_iff_getElem] at hq
    obtain ⟨hi, hp, hn⟩ := hq
    refine .inl ⟨i, l[i], List.getElem?_eq_getElem hi, rfl, ?_⟩
    rw [List.find?_eq_some_iff_getElem]
    refine ⟨hp, i, by simpa using hi, by simp, fun j hj => ?_⟩
    have := hn j hj
    simpa [qE, ofH] using this
theorem Mc.pl {w : World} {cm gm p : Nat} {l : List Hd} {fz : Bool} (h : Mc w cm gm p l fz) (h0 : 0 < l.length) :
    ∃ o c, w.heap[cm]? = some (.cells #[.int .u64 (p : Int), .slice (some ⟨gm, o, none⟩) l.length c, .bool fz] 82 (0, 0)) ∧ Sl rKn w (fun k => k = gm) (some ⟨gm, o, none⟩) l.length c l ∧ ∀ (i : Nat) s, l[i]? = some s → s.ok ∧ w.rangeAt gm (o + i * 162) (knC s) := by
  obtain ⟨h1, h2, h3, A, c, hr, hs⟩ := h
  obtain ⟨ad, rfl, hf⟩ := hs.some_ h0
  have hat : ∀ (i : Nat) s, l[i]? = some s → s.ok ∧ ∀ (j : Nat) u, (knC s)[j]? = some u → w.cell? (ad.add (i * 162 + j)) = some u := by
    intro i s hi
    obtain ⟨ad', cs, e, -, ⟨rfl, hk⟩, hc⟩ := hs.at_ hi
    obtain rfl := Option.some.inj e
    exact ⟨hk, hc⟩
  obtain ⟨s0, hs0⟩ : ∃ s, l[0]? = some s := ⟨_, List.getElem?_eq_getElem h0⟩
  have hc0 := (hat 0 s0 hs0).2 0 _ rfl
  have hsp := spot_none hc0
  obtain ⟨b, o, pth⟩ := ad
  obtain rfl : pth = none := by
    simpa [Addr.add] using hsp
  have hf' : b = gm := hf
  subst hf'
  refine ⟨o, c, hr, hs, fun i s hi => ⟨(hat i s hi).1, fun j u hj => ?_⟩⟩
  have := (hat i s hi).2 j u hj
  rw [show (⟨b, o, none⟩ : Addr).add (i * 162 + j) = ⟨b, o + i * 162 + j, none⟩ from by
    unfold Addr.add
    split
    · rename_i h0; rw [Nat.add_assoc, h0]; rfl
    · rw [← Nat.add_assoc]] at this
  exact this
theorem Mc.putS {w : World} {cm gm p : Nat} {v : Value} {A : Option Addr} {c : Nat} {fz : Bool} {xs : List Hd} (hr : w.heap[cm]? = some (.cells #[.int .u64 (p : Int), v, .bool fz] 82 (0, 0))) (hs : Sl rKn w (fun k => k = gm) A xs.length c xs) (hne : cm ≠ gm) (hgm : gm < w.heap.size) : Mc (w.setCell ⟨cm, 1, none⟩ (.slice A xs.length c)) cm gm p xs fz := by
  have hlt : cm < w.heap.size := (Array.getElem?_eq_some_iff.1 hr).1
  refine ⟨by simpa using hlt, by simpa using hgm, hne, A, c, ?_, hs.move (fun k hk => by rw [hk]; exact heap_setCell_other _ _ _ _ (fun e => hne e.symm))⟩
  have := heap_setCell_same w cm 1 _ _ (.slice A xs.length c) hr
  simpa using this
theorem Mc.put {w : World} {cm p B : Nat} {v v1 : Value} {fz : Bool} {xs : List Hd} (hr : w.heap[cm]? = some (.cells #[.int .u64 (p : Int), v, .bool fz] 82 (0, 0))) (ho : Ow rKn 79 w B (fun _ => False) v1 xs) (hB : cm < B) (hx : 0 < xs.length) :
    ∃ g1 c1, v1 = .slice (some ⟨g1, 0, none⟩) xs.length c1 ∧ B ≤ g1 ∧ Mc (w.setCell ⟨cm, 1, none⟩ v1) cm g1 p xs fz := by
  have hlt := ho.lt
  obtain ⟨A, c1, rfl, hs⟩ := ho.sl
  obtain ⟨ad, rfl, hf⟩ := hs.some_ hx
  have ho2 := ho
  obtain ⟨cells, ⟨hn, h2⟩, he⟩ := ho2
  rcases h2 with ⟨h0, -⟩ | ⟨g, cap, cur, hv, hg, hrow⟩
  · cases h0
  injection hv with e1 e2 e3
  injection e1 with e1
  subst e1
  refine ⟨g, c1, rfl, hg, Mc.putS hr (hs.mono (fun k hk => ?_)) (by omega) (hlt g (by simp [Value.ownBlock])).2⟩
  rcases hk with hk | hk
  · exact hk.elim
  · have : g = k := by simpa [Value.ownBlock] using hk
    exact this.symm
theorem Mc.freeze {w : World} {cm gm p : Nat} {l : List Hd} {fz : Bool} (h : Mc w cm gm p l fz) : Mc (w.setCell ⟨cm, 2, none⟩ (.bool true)) cm gm p l true := by
  obtain ⟨h1, h2, h3, A, c, hr, hs⟩ := h
  refine ⟨by simpa using h1, by simpa using h2, h3, A, c, ?_, hs.move (fun k hk => by rw [hk]; exact heap_setCell_other _ _ _ _ (fun e => h3 e.symm))⟩
  have := heap_setCell_same w cm 2 _ _ (.bool true) hr
  simpa using this
theorem kn_seal {w : World} {B o : Nat} {s : Hd} (k : s.ok) (h : w.rangeAt B o (knC s)) : w.rangeAt B (o + 130) ((shaL (sealB s)).map vu8) := by
  intro j v hj
  have := h (130 + j) v (by
    unfold knC
    rw [List.getElem?_append_right (by rw [HdKit.hdC_len k]; omega), HdKit.hdC_len k, Nat.add_sub_cancel_left]
    exact hj)
  rwa [← Nat.add_assoc] at this
def pushH (l : List Hd) (x : Hd) : List Hd := if 16 < l.length + 1 then (l ++ [x]).drop 1 else l ++ [x]
theorem pushH_map (l : List Hd) (x : Hd) : (pushH l x).map ofH = pushM (l.map ofH) (ofH x) := by
  unfold pushH pushM
  rw [List.length_map]
  split
  · rw [List.map_drop, List.map_append, List.map_singleton]
  · rw [List.map_append, List.map_singleton]
/-- What Update leaves. -/
def UpdG (w w' : World) (cm gm p : Nat) (l : List Hd) (fz : Bool) (s h : Hd) (now : Nat) : Prop :=
  ∃ gm' l', l'.map ofH = (updM p (l.map ofH) fz (ofH s) h now).2.1 ∧ Mc w' cm gm' p l' (updM p (l.map ofH) fz (ofH s) h now).2.2 ∧ (gm' = gm ∨ w.heap.size ≤ gm') ∧ (l' = l ∨ (h.ht ≤ 1099511627776 ∧ h.tm ≤ 1099511627776 ∧ (∀ x ∈ l, x.ht ≠ h.ht) ∧ l' = pushH l h)) ∧ Mod cm cm w w'
theorem UpdG.same {w w' : World} {cm gm p : Nat} {l : List Hd} {fz : Bool} {s h : Hd} {now : Nat} {q : Int} (hu : updM p (l.map ofH) fz (ofH s) h now = (q, l.map ofH, fz)) (hm : Mc w cm gm p l fz) (hb : Below w.heap.size w w') : UpdG w w' cm gm p l fz s h now :=
  ⟨gm, l, by rw [hu], by rw [hu]; exact hm.below hb, .inl rfl, .inl rfl, .of_below hb⟩
set_option maxHeartbeats 16000000 in
set_option maxRecDepth 100000 in
theorem RUpdate_calls (w : World) (cm gm p : Nat) (l : List Hd) (fz : Bool) (hc : Mc w cm gm p l fz) (m : Nat) (hm : l.length = m + 1) (hm2 : m ≤ 1000) (s : Hd) (hs : l[m]? = some s) (hp1 : 1 ≤ p) (hp2 : p ≤ 4294967296) (htm : s.tm ≤ 1099511627776) (h : Hd) (hk : h.ok) (cs : Array Value) (hcs : cs.toList = hdC h) (now : Nat) (hn : now < 18446744073709551616) (hg : LaidR w) (h1 : 1 < w.heap.size) :
    Calls Tryd.prog 41 #[.pointer (some ⟨cm, 0, none⟩), .agg cs, .int .u64 (now : Int)] w fun e w' => e = .returned (.int .i64 (updM p (l.map ofH) fz (ofH s) h now).1) ∧ Fact (UpdG w w' cm gm p l fz s h now) := by
  have HC := Fact.mk hc
  have HM := Fact.mk hm
  have HS := Fact.mk hs
  have HK := Fact.mk hk
  have HCS := Fact.mk hcs
  have HG := Fact.mk hg
  have H1 := Fact.mk h1
  have HI : Fact ((Tryd.prog.info? 54).map (·.size) = some cs.size) := ⟨HdKit.hd_i (by rw [← Array.length_toList, hcs, HdKit.hdC_len hk])⟩
  have HR0 : Fact ((w.alloc (.cells cs 54)).heap[w.heap.size]? = some (.cells cs 54 (0, 0))) := ⟨heap_alloc_new _ _⟩
  have HB0 : Fact (Below w.heap.size w (w.alloc (.cells cs 54))) := ⟨(Below.refl _ _).alloc (Nat.le_refl _) _⟩
  have HS0 : Fact ((w.alloc (.cells cs 54)).heap.size = w.heap.size + 1) := ⟨by simp⟩
  obtain ⟨q, hq⟩ : ∃ q, statE fz p (ofH s) now = q := ⟨_, rfl⟩
  obtain ⟨R, hR⟩ : ∃ R, (updM p (l.map ofH) fz (ofH s) h now).1 = R := ⟨_, rfl⟩
  have HQ := Fact.mk hq
  have HR := Fact.mk hR
  rw [hR]
  clear hc hm hs hk hcs hg h1 hq hR
  go_enter Tryd.func41, Tryd.ntmps41
  go_wp2_with (go_at_call 42; fail)
  generalize w.alloc (.cells cs 54) = w1 at HR0 HB0 HS0 ⊢
  refine (RStatus_calls w1 cm gm p l fz (HC.out.below HB0.out) m HM.out s HS.out hp1 hp2 htm now hn).mono ?_
  rintro e w2 ⟨rfl, hb2⟩
  rw [HQ.out]
  have HB2 : Fact (Below w.heap.size w w2) := ⟨HB0.out.trans (hb2.mono HB0.out.size)⟩
  have HR2 : Fact (w2.heap[w.heap.size]? = some (.cells cs 54 (0, 0))) := ⟨(hb2.block _ (by have := HS0.out; omega)).trans HR0.out⟩
  have HS2 : Fact (w.heap.size < w2.heap.size) := ⟨by have := HS0.out; have := hb2.size; omega⟩
  clear hb2 HR0 HB0 HS0
  rcases Int.decEq q 0 with hz | hz
  · have HU : Fact (updM p (l.map ofH) fz (ofH s) h now = (q, l.map ofH, fz)) := ⟨by unfold updM; rw [HQ.out, if_pos hz]⟩
    obtain rfl : q = R := by rw [← HR.out, HU.out]
    have z1 : (q == 0) = false := by simpa using hz
    have z2 : decide (q = 0) = false := by simpa using hz
    clear hz HR
    go_wp2_with fail
    go_ret
    exact ⟨rfl, ⟨.same HU.out HC.out HB2.out⟩⟩
  have HZ : Fact (statE fz p (ofH s) now = 0) := ⟨HQ.out.trans hz⟩
  subst hz
  clear HQ
  go_wp2_with (first
    | (refine wpList_load_row rfl 54 (.tmp 4) rfl w.heap.size rfl 54 cs (0, 0) _ HR2.out Tryd.underlying54 rfl HI.out ?_)
    | (go_at_call 32; fail))
  refine (RSeal_calls w2 h HK.out cs HCS.out (laidR_move HG.out HB2.out H1.out) (Nat.lt_of_lt_of_le H1.out HB2.out.size)).mono ?_
  rintro e w3 ⟨⟨ds, rfl, hds⟩, hb3⟩
  have HDS := Fact.mk hds.out
  have HA3 : Fact ((w3.alloc (.cells (bArr []) 52)).heap[w3.heap.size]? = some (.cells (bArr []) 52 (0, 0))) := ⟨heap_alloc_new _ _⟩
  have HR4 : Fact ((w3.alloc (.cells ds 52)).heap[w3.heap.size]? = some (.cells ds 52 (0, 0))) := ⟨heap_alloc_new _ _⟩
  have HB4 : Fact (Below w2.heap.size w2 (w3.alloc (.cells ds 52))) := ⟨hb3.alloc hb3.size _⟩
  have HS4 : Fact (w3.heap.size < (w3.alloc (.cells ds 52)).heap.size ∧ w.heap.size < w3.heap.size) := ⟨by simp, by have := hb3.size; have := HS2.out; omega⟩
  have hz32 : ds.size = 32 := bytes_size HDS.out (sha_len _)
  go_wp2_with (first
    | (refine wpList_ok rfl (ShaB.exec_alloc rfl (alloc_b _)) ?_)
    | (refine wpList_store_row rfl 52 (.tmp 8) (.tmp 18) rfl w3.heap.size ds rfl rfl 52 (bArr []) HA3.out (hash_i hz32) (by rw [hz32]; rfl) (bytes_one HDS.out) ?_
       rw [World.setRow_alloc_new]
       refine Fact.out ?_))
  refine ⟨?_⟩
  clear hb3 hds HA3 hz32
  obtain ⟨b8, hb8⟩ : ∃ b8, w3.heap.size = b8 := ⟨_, rfl⟩
  generalize w3.alloc (.cells ds 52) = w4 at HR4 HB4 HS4 ⊢
  rw [hb8] at HR4 HS4 ⊢
  clear hb8
  have HR24 : Fact (w4.heap[w.heap.size]? = some (.cells cs 54 (0, 0))) := ⟨(HB4.out.block _ HS2.out).trans HR2.out⟩
  have HBW4 : Fact (Below w.heap.size w w4) := ⟨HB2.out.trans (HB4.out.mono HB2.out.size)⟩
  clear HB4 HB2 HS2 HR2
  have HP4 := Fact.mk (hd_parts HK.out HCS.out HR24.out)
  obtain ⟨ct, hct⟩ : ∃ ct : Array Value, ct = (h.sel.map vu8).toArray := ⟨_, rfl⟩
  have HCT : Fact (ct.toList = h.sel.map vu8) := ⟨by rw [hct]⟩
  have HLT : Fact ((Instr.loadAt 52 (.pointer (some ⟨w.heap.size, 98, none⟩))).run Tryd.prog w4 = .ok (.agg ct) w4) := ⟨by rw [hct]; exact load_hash HK.out.sel HP4.out.2.2.2.2.2⟩
  have HDR : Fact (∀ W, Below w4.heap.size w4 W → W.rangeAt b8 0 ((shaL (sealB h)).map vu8)) := ⟨fun W hW j v hj => row_cell ((hW.block _ HS4.out.1).trans HR4.out) (by rw [← HDS.out] at hj; simpa using hj)⟩
  have HLS : Fact (∀ W, Below w4.heap.size w4 W → (Instr.loadAt 52 (.pointer (some ⟨b8, 0, none⟩))).run Tryd.prog W = .ok (.agg ds) W) := ⟨fun W hW => by
    rw [show ds = ((shaL (sealB h)).map vu8).toArray by rw [← HDS.out]]
    exact load_hash (sha_len _) (HDR.out W hW)⟩
  clear hct
  have HLS4 := Fact.mk (HLS.out w4 (Below.refl _ _))
  have heq := eq_hash hash_u hash_c hash_k ct ds h.sel (shaL (sealB h)) HCT.out HDS.out HK.out.sel (sha_len _)
  obtain ⟨bs, hbs⟩ : ∃ bs, (h.sel == shaL (sealB h)) = bs := ⟨_, rfl⟩
  rw [hbs] at heq
  have HBS := Fact.mk hbs
  clear hbs
  cases bs with
  | false =>
    have HU : Fact (updM p (l.map ofH) fz (ofH s) h now = (35, l.map ofH, fz)) := ⟨by
      unfold updM
      rw [if_neg (fun e => e HZ.out), if_pos]
      simpa using HBS.out⟩
    obtain rfl : 35 = R := by rw [← HR.out, HU.out]
    clear HR
    go_wp2_with (first
      | (refine wpList_ok rfl (exec_loadAt rfl rfl HLT.out) ?_)
      | (refine wpList_ok rfl (exec_loadAt rfl rfl HLS4.out) ?_))
    go_ret
    exact ⟨rfl, ⟨.same HU.out HC.out HBW4.out⟩⟩
  | true =>
  have HSEL : Fact (h.sel = shaL (sealB h)) := ⟨by simpa using HBS.out⟩
  have HM4 : Fact (Mc w4 cm gm p l fz) := ⟨HC.out.below HBW4.out⟩
  have p0 := HP4.out.1
  go_wp2_with (first
    | (refine wpList_ok rfl (exec_loadAt rfl rfl HLT.out) ?_)
    | (refine wpList_ok rfl (exec_loadAt rfl rfl HLS4.out) ?_)
    | (go_at_call 43; fail))
  refine (RAt_calls w4 cm gm p l fz HM4.out (by rw [HM.out]; omega) h.ht).mono ?_
  rintro e w4 ⟨rfl, rfl⟩
  clear p0 heq HBS
  obtain ⟨o, c, hrow, hsl, hat⟩ := Mc.pl HM4.out (by rw [HM.out]; omega)
  rw [HM.out] at hrow hsl
  have HROW := Fact.mk hrow
  have HSL := Fact.mk hsl
  have HAT := Fact.mk hat
  have hcm4 : cm < w4.heap.size := HM4.out.1
  have hgm4 : gm < w4.heap.size := HM4.out.2.1
  clear hrow hsl hat
  rcases atI_spec l h.ht with ⟨i, x, hix, hai, hf⟩ | ⟨hai, hf⟩
  · rw [hai]
    have HF := Fact.mk hf
    have HIX := Fact.mk hix
    have hil : i < m + 1 := by rw [← HM.out]; exact (List.getElem?_eq_some_iff.1 hix).1
    have d1 : decide ((0 : Int) ≤ (i : Int)) = true := by rw [decide_eq_true_eq]; omega
    have HXO := Fact.mk (HAT.out i x hix).1
    obtain ⟨cx, hcx⟩ : ∃ cx : Array Value, cx = ((shaL (sealB x)).map vu8).toArray := ⟨_, rfl⟩
    have HCX : Fact (cx.toList = (shaL (sealB x)).map vu8) := ⟨by rw [hcx]⟩
    have HLX : Fact (∀ W, Below w4.heap.size w4 W → (Instr.loadAt 52 (.pointer (some ⟨gm, o + i * 162 + 130, none⟩))).run Tryd.prog W = .ok (.agg cx) W) := ⟨fun W hW => by
      rw [hcx]
      exact load_hash (sha_len _) (kn_seal HXO.out (ClientG.range_below (HAT.out i x HIX.out).2 hW hgm4))⟩
    have HC1 : Fact (∀ W, Below w4.heap.size w4 W → W.cell? ⟨cm, 1, none⟩ = some (.slice (some ⟨gm, o, none⟩) (m + 1) c)) := ⟨fun W hW => row_cell ((hW.block _ hcm4).trans HROW.out) rfl⟩
    have heq := eq_hash hash_u hash_c hash_k cx ds (shaL (sealB x)) (shaL (sealB h)) HCX.out HDS.out (sha_len _) (sha_len _)
    obtain ⟨bs, hbs⟩ : ∃ bs, (shaL (sealB x) == shaL (sealB h)) = bs := ⟨_, rfl⟩
    rw [hbs] at heq
    have HBS := Fact.mk hbs
    have HEQ := Fact.mk heq
    have hap : (⟨gm, o, none⟩ : Addr).add (i * 162) = ⟨gm, o + i * 162, none⟩ := by
      unfold Addr.add
      split
      · rename_i h0; rw [h0]; rfl
      · rfl
    have hil2 : (i : Int) < (m : Int) + 1 := by omega
    clear hbs hcx hai hf hix heq
    go_wp2_with fail
    refine wp_region_P (fun W => Below w4.heap.size w4 W) (.tell 0 (.tell 1 (.tell 2 (.tell 3 (.tell 4 (.tell 5 (.tell 6 (.tell 7 (.tell 8 (.tell 9 .done)))))))))) (by kernel_rfl) (by kernel_rfl) (by kernel_rfl) (by intro c a d v w h; cases d <;> exact h) (Below.refl _ _).drew ?_
    have HBd : Fact (Below w4.heap.size w4 w4.drew) := ⟨(Below.refl _ _).drew⟩
    generalize w4.drew = wd at HBd ⊢
    refine plan_tell rfl rfl (fun W hS => by
      go_simp
      first | done | rfl) ?_
    simp only [List.getElem_toArray, List.getElem_cons_succ, List.getElem_cons_zero, Act.put, List.setIfInBounds_toArray, List.set_cons_succ, List.set_cons_zero]
    refine plan_tell rfl rfl (fun W hS => by
      go_simp
      first | done | rfl) ?_
    simp only [List.getElem_toArray, List.getElem_cons_succ, List.getElem_cons_zero, Act.put, List.setIfInBounds_toArray, List.set_cons_succ, List.set_cons_zero]
    refine plan_tell rfl rfl (fun W hS => by
      go_simp
      first | done | rfl) ?_
    simp only [List.getElem_toArray, List.getElem_cons_succ, List.getElem_cons_zero, Act.put, List.setIfInBounds_toArray, List.set_cons_succ, List.set_cons_zero]
    refine plan_tell rfl rfl (fun W hS => by
      have a1 := HC1.out W hS
      go_simp
      first | done | rfl) ?_
    simp only [List.getElem_toArray, List.getElem_cons_succ, List.getElem_cons_zero, Act.put, List.setIfInBounds_toArray, List.set_cons_succ, List.set_cons_zero]
    refine plan_tell rfl rfl (fun W hS => by
      go_simp
      first | done | rfl) ?_
    simp only [List.getElem_toArray, List.getElem_cons_succ, List.getElem_cons_zero, Act.put, List.setIfInBounds_toArray, List.set_cons_succ, List.set_cons_zero]
    refine plan_tell rfl rfl (fun W hS => by
      go_simp
      first | done | rfl) ?_
    simp only [List.getElem_toArray, List.getElem_cons_succ, List.getElem_cons_zero, Act.put, List.setIfInBounds_toArray, List.set_cons_succ, List.set_cons_zero]
    refine plan_tell rfl rfl (fun W hS => by
      go_simp
      first | done | rfl) ?_
    simp only [List.getElem_toArray, List.getElem_cons_succ, List.getElem_cons_zero, Act.put, List.setIfInBounds_toArray, List.set_cons_succ, List.set_cons_zero]
    refine plan_tell rfl rfl (v := .agg cx) (fun W hS => exec_loadAt rfl rfl (HLX.out W hS)) ?_
    simp only [List.getElem_toArray, List.getElem_cons_succ, List.getElem_cons_zero, Act.put, List.setIfInBounds_toArray, List.set_cons_succ, List.set_cons_zero]
    refine plan_tell rfl rfl (v := .agg ds) (fun W hS => exec_loadAt rfl rfl (HLS.out W hS)) ?_
    simp only [List.getElem_toArray, List.getElem_cons_succ, List.getElem_cons_zero, Act.put, List.setIfInBounds_toArray, List.set_cons_succ, List.set_cons_zero]
    refine plan_tell rfl rfl (v := .bool (!bs)) (fun W hS => by
      have hq := HEQ.out W
      go_simp
      first | done | rfl) ?_
    simp only [List.getElem_toArray, List.getElem_cons_succ, List.getElem_cons_zero, Act.put, List.setIfInBounds_toArray, List.set_cons_succ, List.set_cons_zero]
    unfold wpPlan
    have HBWd : Fact (Below w.heap.size w wd) := ⟨HBW4.out.trans (HBd.out.mono HBW4.out.size)⟩
    have k2 : wd.cell? ⟨cm, 2, none⟩ = some (.bool fz) := row_cell ((HBd.out.block _ hcm4).trans HROW.out) rfl
    have f2 : wd.frozen? ⟨cm, 2, none⟩ = false := row_free ((HBd.out.block _ hcm4).trans HROW.out)
    clear HEQ HBd hil hil2 hap d1
    cases bs with
    | true =>
      have HU : Fact (updM p (l.map ofH) fz (ofH s) h now = (0, l.map ofH, fz)) := ⟨by
        unfold updM
        rw [if_neg (fun e => e HZ.out), if_neg (fun e => e HSEL.out), HF.out]
        simp only
        rw [if_pos (by rw [HSEL.out]; simpa [ofH] using HBS.out)]⟩
      obtain rfl : 0 = R := by rw [← HR.out, HU.out]
      clear HR
      go_wp2_with fail
      go_ret
      exact ⟨rfl, ⟨.same HU.out HC.out HBWd.out⟩⟩
    | false =>
      have HU : Fact (updM p (l.map ofH) fz (ofH s) h now = (0, l.map ofH, true)) := ⟨by
        unfold updM
        rw [if_neg (fun e => e HZ.out), if_neg (fun e => e HSEL.out), HF.out]
        simp only
        rw [if_neg (by rw [HSEL.out]; simpa [ofH] using HBS.out)]⟩
      obtain rfl : 0 = R := by rw [← HR.out, HU.out]
      clear HR
      go_wp2_with fail
      go_ret
      exact ⟨rfl, ⟨gm, l, by rw [HU.out], by rw [HU.out]; exact Mc.freeze (HC.out.below HBWd.out), .inl rfl, .inl rfl, (Mod.of_below HBWd.out).setCell _ _⟩⟩
  rw [hai]
  have HF := Fact.mk hf
  clear hai hf
  go_wp2_with (go_at_call 40; fail)
  refine (RLatest_calls w4 cm gm p l fz HM4.out m HM.out s HS.out).mono ?_
  rintro e w5 ⟨⟨dl, rfl, hdl⟩, hb5⟩
  have HDL := Fact.mk hdl.out
  have HSO : Fact s.ok := ⟨(HAT.out m s HS.out).1⟩
  have HLI : Fact ((Tryd.prog.info? 54).map (·.size) = some dl.size) := ⟨HdKit.hd_i (by rw [← Array.length_toList, HDL.out, HdKit.hdC_len HSO.out])⟩
  have HLZ : Fact (HdKit.zHdA.size = dl.size) := ⟨by rw [show dl.size = 130 by rw [← Array.length_toList, HDL.out, HdKit.hdC_len HSO.out]]; rfl⟩
  have HLO : Fact (dl.all (·.oneCell') = true) := ⟨by
    have := HdKit.hdC_one s
    rw [← HDL.out] at this
    simpa using this⟩
  have HA5 : Fact ((w5.alloc (.cells HdKit.zHdA 54)).heap[w5.heap.size]? = some (.cells HdKit.zHdA 54 (0, 0))) := ⟨heap_alloc_new _ _⟩
  have HR6 : Fact ((w5.alloc (.cells dl 54)).heap[w5.heap.size]? = some (.cells dl 54 (0, 0))) := ⟨heap_alloc_new _ _⟩
  have HB6 : Fact (Below w4.heap.size w4 (w5.alloc (.cells dl 54))) := ⟨hb5.alloc hb5.size _⟩
  go_wp2_with (first
    | (refine wpList_ok rfl (ShaB.exec_alloc rfl (HdKit.alloc_hd _)) ?_)
    | (refine wpList_store_row rfl 54 (.tmp 10) (.tmp 43) rfl w5.heap.size dl rfl rfl 54 HdKit.zHdA HA5.out HLI.out HLZ.out HLO.out ?_
       rw [World.setRow_alloc_new]
       refine Fact.out ?_))
  refine ⟨?_⟩
  clear hb5 hdl HA5
  obtain ⟨b10, hb10⟩ : ∃ b10, w5.heap.size = b10 := ⟨_, rfl⟩
  generalize w5.alloc (.cells dl 54) = w6 at HR6 HB6 ⊢
  rw [hb10] at HR6 ⊢
  clear hb10
  have HBW6 : Fact (Below w.heap.size w w6) := ⟨HBW4.out.trans (HB6.out.mono HBW4.out.size)⟩
  have HR26 : Fact (w6.heap[w.heap.size]? = some (.cells cs 54 (0, 0))) := ⟨(HB6.out.block _ (by have := HS4.out; omega)).trans HR24.out⟩
  have HROW6 : Fact (w6.heap[cm]? = some (.cells #[.int .u64 (p : Int), .slice (some ⟨gm, o, none⟩) (m + 1) c, .bool fz] 82 (0, 0))) := ⟨(HB6.out.block _ hcm4).trans HROW.out⟩
  have HSL6 : Fact (Sl rKn w6 (fun k => k = gm) (some ⟨gm, o, none⟩) (m + 1) c l) := ⟨HSL.out.move (fun k hk => by rw [hk]; exact HB6.out.block _ hgm4)⟩
  have HP6 := Fact.mk (hd_parts HK.out HCS.out HR26.out)
  have HQ6 := Fact.mk (hd_parts HSO.out HDL.out HR6.out)
  have HL6 : Fact (w.heap.size < w6.heap.size ∧ cm < w6.heap.size ∧ gm < w6.heap.size) := ⟨by have := HB6.out.size; have := HS4.out; omega, by have := HB6.out.size; omega, by have := HB6.out.size; omega⟩
  clear HB6 HROW HSL HAT HM4 HLS HLS4 HLT HDR HP4 HR24 HR4 hcm4 hgm4
  have p0 := HP6.out.1
  have p1 := HP6.out.2.1
  have s0 := HQ6.out.1
  have s1 := HQ6.out.2.1
  by_cases q1 : h.ht < s.ht
  · have HU : Fact (updM p (l.map ofH) fz (ofH s) h now = (32, l.map ofH, fz)) := ⟨by
      unfold updM
      rw [if_neg (fun e => e HZ.out), if_neg (fun e => e HSEL.out), HF.out]
      simp only
      rw [if_pos (.inl q1)]⟩
    have d1 : decide ((h.ht : Int) < (s.ht : Int)) = true := by rw [decide_eq_true_eq]; omega
    have n1 : decide (h.ht < s.ht) = true := decide_eq_true q1
    obtain rfl : 32 = R := by rw [← HR.out, HU.out]
    clear q1 HR
    go_wp2_with fail
    go_ret
    exact ⟨rfl, ⟨.same HU.out HC.out HBW6.out⟩⟩
  have d1 : decide ((h.ht : Int) < (s.ht : Int)) = false := by rw [decide_eq_false_iff_not]; omega
  have n1 : decide (h.ht < s.ht) = false := decide_eq_false q1
  by_cases q2 : 1099511627776 < h.ht
  · have HU : Fact (updM p (l.map ofH) fz (ofH s) h now = (32, l.map ofH, fz)) := ⟨by
      unfold updM
      rw [if_neg (fun e => e HZ.out), if_neg (fun e => e HSEL.out), HF.out]
      simp only
      rw [if_pos (.inr q2)]⟩
    have d2 : decide ((1099511627776 : Int) < (h.ht : Int)) = true := by rw [decide_eq_true_eq]; omega
    obtain rfl : 32 = R := by rw [← HR.out, HU.out]
    clear q1 q2 HR
    go_wp2_with fail
    go_ret
    exact ⟨rfl, ⟨.same HU.out HC.out HBW6.out⟩⟩
  have d2 : decide ((1099511627776 : Int) < (h.ht : Int)) = false := by rw [decide_eq_false_iff_not]; omega
  by_cases q3 : h.tm ≤ s.tm
  · have HU : Fact (updM p (l.map ofH) fz (ofH s) h now = (33, l.map ofH, fz)) := ⟨by
      unfold updM
      rw [if_neg (fun e => e HZ.out), if_neg (fun e => e HSEL.out), HF.out]
      simp only
      rw [if_neg (show ¬ (h.ht < (ofH s).ht ∨ 1099511627776 < h.ht) from fun e => e.elim q1 q2), if_pos (.inl q3)]⟩
    have d3 : decide ((h.tm : Int) ≤ (s.tm : Int)) = true := by rw [decide_eq_true_eq]; omega
    have n3 : decide (h.tm ≤ s.tm) = true := decide_eq_true q3
    obtain rfl : 33 = R := by rw [← HR.out, HU.out]
    clear q1 q2 q3 HR
    go_wp2_with fail
    go_ret
    exact ⟨rfl, ⟨.same HU.out HC.out HBW6.out⟩⟩
  have d3 : decide ((h.tm : Int) ≤ (s.tm : Int)) = false := by rw [decide_eq_false_iff_not]; omega
  have n3 : decide (h.tm ≤ s.tm) = false := decide_eq_false q3
  by_cases q4 : 1099511627776 < h.tm
  · have HU : Fact (updM p (l.map ofH) fz (ofH s) h now = (33, l.map ofH, fz)) := ⟨by
      unfold updM
      rw [if_neg (fun e => e HZ.out), if_neg (fun e => e HSEL.out), HF.out]
      simp only
      rw [if_neg (show ¬ (h.ht < (ofH s).ht ∨ 1099511627776 < h.ht) from fun e => e.elim q1 q2), if_pos (.inr q4)]⟩
    have d4 : decide ((1099511627776 : Int) < (h.tm : Int)) = true := by rw [decide_eq_true_eq]; omega
    obtain rfl : 33 = R := by rw [← HR.out, HU.out]
    clear q1 q2 q3 q4 HR
    go_wp2_with fail
    go_ret
    exact ⟨rfl, ⟨.same HU.out HC.out HBW6.out⟩⟩
  have d4 : decide ((1099511627776 : Int) < (h.tm : Int)) = false := by rw [decide_eq_false_iff_not]; omega
  obtain ⟨cv, hcv⟩ : ∃ cv : Array Value, cv = (h.vals.map vu8).toArray := ⟨_, rfl⟩
  obtain ⟨cn, hcn⟩ : ∃ cn : Array Value, cn = (s.next.map vu8).toArray := ⟨_, rfl⟩
  have HCV : Fact (cv.toList = h.vals.map vu8) := ⟨by rw [hcv]⟩
  have HCN : Fact (cn.toList = s.next.map vu8) := ⟨by rw [hcn]⟩
  have HLV : Fact ((Instr.loadAt 52 (.pointer (some ⟨w.heap.size, 34, none⟩))).run Tryd.prog w6 = .ok (.agg cv) w6) := ⟨by rw [hcv]; exact load_hash HK.out.vals HP6.out.2.2.2.1⟩
  have HLN : Fact ((Instr.loadAt 52 (.pointer (some ⟨b10, 66, none⟩))).run Tryd.prog w6 = .ok (.agg cn) w6) := ⟨by rw [hcn]; exact load_hash HSO.out.next HQ6.out.2.2.2.2.1⟩
  have heq := eq_hash hash_u hash_c hash_k cv cn h.vals s.next HCV.out HCN.out HK.out.vals HSO.out.next
  obtain ⟨bs, hbs⟩ : ∃ bs, (h.vals == s.next) = bs := ⟨_, rfl⟩
  rw [hbs] at heq
  have HBS := Fact.mk hbs
  have HQ12 : Fact (¬ (h.ht < (ofH s).ht ∨ 1099511627776 < h.ht) ∧ ¬ (h.tm ≤ (ofH s).tm ∨ 1099511627776 < h.tm)) := ⟨fun e => e.elim q1 q2, fun e => e.elim q3 q4⟩
  have HQQ : Fact (h.ht ≤ 1099511627776 ∧ h.tm ≤ 1099511627776 ∧ ∀ x ∈ l, x.ht ≠ h.ht) := ⟨by omega, by omega, fun x hx => by
    have := List.find?_eq_none.1 HF.out (ofH x) (List.mem_map.2 ⟨x, hx, rfl⟩)
    simpa [qE, ofH] using this⟩
  clear hcv hcn q1 q2 q3 q4 hbs
  cases bs with
  | false =>
    have HU : Fact (updM p (l.map ofH) fz (ofH s) h now = (34, l.map ofH, fz)) := ⟨by
      unfold updM
      rw [if_neg (fun e => e HZ.out), if_neg (fun e => e HSEL.out), HF.out]
      simp only
      rw [if_neg HQ12.out.1, if_neg HQ12.out.2, if_pos]
      have := HBS.out
      simpa [ofH] using this⟩
    obtain rfl : 34 = R := by rw [← HR.out, HU.out]
    clear HR
    go_wp2_with (first
      | (refine wpList_ok rfl (exec_loadAt rfl rfl HLV.out) ?_)
      | (refine wpList_ok rfl (exec_loadAt rfl rfl HLN.out) ?_))
    go_ret
    exact ⟨rfl, ⟨.same HU.out HC.out HBW6.out⟩⟩
  | true =>
  have HU : Fact (updM p (l.map ofH) fz (ofH s) h now = (0, (pushH l h).map ofH, fz)) := ⟨by
    unfold updM
    rw [if_neg (fun e => e HZ.out), if_neg (fun e => e HSEL.out), HF.out, pushH_map]
    simp only
    rw [if_neg HQ12.out.1, if_neg HQ12.out.2, if_neg]
    have := HBS.out
    simpa [ofH] using this⟩
  obtain rfl : 0 = R := by rw [← HR.out, HU.out]
  clear HR
  go_wp2_with (first
    | (refine wpList_ok rfl (exec_loadAt rfl rfl HLV.out) ?_)
    | (refine wpList_ok rfl (exec_loadAt rfl rfl HLN.out) ?_))
  clear heq HBS HLV HLN HCV HCN d1 d2 d3 d4 n1 n3 p0 p1 s0 s1 HQ12
  refine wp_region_L (fun W => W.heap[w.heap.size]? = some (.cells cs 54 (0, 0)) ∧ W.heap[cm]? = some (.cells #[.int .u64 (p : Int), .slice (some ⟨gm, o, none⟩) (m + 1) c, .bool fz] 82 (0, 0))) 13 [12, 10, 11, 0, 6, 9, 8, 7, 1, 5, 4, 3, 2] (.tell 0 (.tell 2 (.tell 3 (.tell 4 (.tell 5 (.tell 7 (.one 1 (.one 6 (.one 8 (.one 9 (.one 10 (.tell 11 (.tell 12 .done))))))))))))) (by kernel_rfl) (by kernel_rfl) (by kernel_rfl) (by intro c a d v w h; cases d <;> exact h) ⟨HR26.out, HROW6.out⟩ ?_
  have HBd : Fact (Below w6.heap.size w6 w6.drew) := ⟨(Below.refl _ _).drew⟩
  generalize w6.drew = wd at HBd ⊢
  refine pd_tell rfl rfl (fun W hS => by
    go_simp
    first | done | rfl) ?_
  simp only [List.getElem_toArray, List.getElem_cons_succ, List.getElem_cons_zero, Act.put, List.setIfInBounds_toArray, List.set_cons_succ, List.set_cons_zero]
  refine pd_tell rfl rfl (fun W hS => by
    go_simp
    first | done | rfl) ?_
  simp only [List.getElem_toArray, List.getElem_cons_succ, List.getElem_cons_zero, Act.put, List.setIfInBounds_toArray, List.set_cons_succ, List.set_cons_zero]
  refine pd_tell rfl rfl (fun W hS => by
    go_simp
    first | done | rfl) ?_
  simp only [List.getElem_toArray, List.getElem_cons_succ, List.getElem_cons_zero, Act.put, List.setIfInBounds_toArray, List.set_cons_succ, List.set_cons_zero]
  refine pd_tell rfl rfl (fun W hS => by
    go_simp
    first | done | rfl) ?_
  simp only [List.getElem_toArray, List.getElem_cons_succ, List.getElem_cons_zero, Act.put, List.setIfInBounds_toArray, List.set_cons_succ, List.set_cons_zero]
  refine pd_tell rfl rfl (fun W hS => by
    have a1 : W.cell? ⟨cm, 1, none⟩ = some (.slice (some ⟨gm, o, none⟩) (m + 1) c) := row_cell hS.2 rfl
    go_simp
    first | done | rfl) ?_
  simp only [List.getElem_toArray, List.getElem_cons_succ, List.getElem_cons_zero, Act.put, List.setIfInBounds_toArray, List.set_cons_succ, List.set_cons_zero]
  refine pd_tell rfl rfl (v := .agg cs) (fun W hS => exec_loadRow (g := w.heap.size) rfl rfl hS.1 Tryd.underlying54 rfl HI.out) ?_
  simp only [List.getElem_toArray, List.getElem_cons_succ, List.getElem_cons_zero, Act.put, List.setIfInBounds_toArray, List.set_cons_succ, List.set_cons_zero]
  have hsd : w6.heap.size ≤ wd.heap.size := HBd.out.size
  have hinv : ∀ W, Below w6.heap.size w6 W → W.heap[w.heap.size]? = some (.cells cs 54 (0, 0)) ∧ W.heap[cm]? = some (.cells #[.int .u64 (p : Int), .slice (some ⟨gm, o, none⟩) (m + 1) c, .bool fz] 82 (0, 0)) := fun W hW => ⟨(hW.block _ HL6.out.1).trans HR26.out, (hW.block _ HL6.out.2.1).trans HROW6.out⟩
  have HB7 : Fact (Below w6.heap.size w6 (wd.alloc (.cells #[] 79))) := ⟨HBd.out.alloc hsd _⟩
  refine turn_do rfl rfl (v := .slice (some ⟨wd.heap.size, 0, none⟩) 0 0) (w' := wd.alloc (.cells #[] 79)) (by go_simp; first | done | rfl) (hinv _ HB7.out) ?_
  simp only [List.getElem_toArray, List.getElem_cons_succ, List.getElem_cons_zero, Act.put, List.setIfInBounds_toArray, List.set_cons_succ, List.set_cons_zero]
  obtain ⟨g0, hg0⟩ : ∃ g0, wd.heap.size = g0 := ⟨_, rfl⟩
  have HO7 : Fact (Ow rKn 79 (wd.alloc (.cells #[] 79)) w6.heap.size (fun _ => False) (.slice (some ⟨g0, 0, none⟩) 0 0) []) := ⟨by rw [← hg0]; exact Ow.lit wd w6.heap.size 79 hsd (Els.nil _ _ _) (by simp)⟩
  rw [hg0]
  generalize wd.alloc (.cells #[] 79) = w7 at HB7 HO7 ⊢
  obtain ⟨v8, w8, hr8, ho8, hg8, -⟩ := run_app (P := Tryd.prog) rKn w7 w6.heap.size 80 80 79 (.agg zKnA) 176 Tryd.underlying80 info_kn3 zKnA_size (by decide) (by decide) (fun _ => False) _ (.slice (some ⟨g0, 0, none⟩) 0 0) [] l (some ⟨gm, o, none⟩) (m + 1) c HO7.out (HSL6.out.move (fun k hk => by rw [hk]; exact HB7.out.block _ HL6.out.2.2)) HB7.out.size (by simp only [List.length_nil, Nat.zero_add]; omega) (fun _ h => h.elim) (fun _ _ h => h)
  have HB8 : Fact (Below w6.heap.size w6 w8) := ⟨HB7.out.grown hg8 HB7.out.size (fun k hk => (HO7.out.lt k hk).1)⟩
  refine turn_do rfl rfl (v := v8) (exec_append w7 rfl rfl rfl hr8) (hinv _ HB8.out) ?_
  simp only [List.getElem_toArray, List.getElem_cons_succ, List.getElem_cons_zero, Act.put, List.setIfInBounds_toArray, List.set_cons_succ, List.set_cons_zero]
  rw [List.nil_append] at ho8
  have HO8 := Fact.mk ho8
  clear hr8 hg8 ho8 HO7
  refine turn_call (f := 72) (args := #[.agg cs]) rfl rfl rfl Tryd.func72 (by kernel_rfl) rfl (by simp only [List.map_toArray, List.map_cons, List.map_nil]; rfl) ?_
  have hbw8 : Below w.heap.size w w8 := HBW6.out.trans (HB8.out.mono HBW6.out.size)
  refine (know_calls w8 h HK.out cs HCS.out (laidR_move HG.out hbw8 H1.out) (Nat.lt_of_lt_of_le H1.out hbw8.size)).mono ?_
  rintro e w9 ⟨⟨dk, rfl, hdk⟩, hb9⟩
  have HB9 : Fact (Below w6.heap.size w6 w9) := ⟨HB8.out.trans (hb9.mono HB8.out.size)⟩
  have HDK := Fact.mk hdk.out
  have HO9 : Fact (Ow rKn 79 w9 w6.heap.size (fun _ => False) v8 l) := ⟨HO8.out.below hb9 (fun _ h => h.elim)⟩
  clear hb9 hdk hbw8 HO8 HB8
  refine ⟨_, rfl, hinv _ HB9.out, ?_⟩
  simp only [List.getElem_toArray, List.getElem_cons_succ, List.getElem_cons_zero, Act.put, List.setIfInBounds_toArray, List.set_cons_succ, List.set_cons_zero]
  have HB10 : Fact (Below w6.heap.size w6 (w9.alloc (.cells dk 79))) := ⟨HB9.out.alloc HB9.out.size _⟩
  refine turn_do rfl rfl (exec_box1 rfl rfl Tryd.underlying80 info_kn zKnA_size (sizeK HDK.out HK.out) (by decide) (by decide)) (hinv _ HB10.out) ?_
  simp only [List.getElem_toArray, List.getElem_cons_succ, List.getElem_cons_zero, Act.put, List.setIfInBounds_toArray, List.set_cons_succ, List.set_cons_zero]
  have HSB : Fact (Sl rKn (w9.alloc (.cells dk 79)) (fun k => k = w9.heap.size) (some ⟨w9.heap.size, 0, none⟩) 1 1 [h]) := ⟨(Sl.box (F := fun _ => False) w9 79 (xs := [h]) (Els.one_ (r := rKn) (show rKn.K _ _ h dk.toList from ⟨HDK.out, HK.out⟩)) (by simp)).mono (fun k hk => by simpa using hk)⟩
  have HO10 : Fact (Ow rKn 79 (w9.alloc (.cells dk 79)) w6.heap.size (fun _ => False) v8 l) := ⟨HO9.out.below ((Below.refl _ _).alloc (Nat.le_refl _) _) (fun _ h => h.elim)⟩
  generalize w9.alloc (.cells dk 79) = w10 at HB10 HSB HO10 ⊢
  obtain ⟨v1, w11, hr11, ho11, hg11, -⟩ := run_app (P := Tryd.prog) rKn w10 w6.heap.size 80 80 79 (.agg zKnA) 176 Tryd.underlying80 info_kn3 zKnA_size (by decide) (by decide) (fun _ => False) _ v8 l [h] _ 1 1 HO10.out HSB.out HB10.out.size (by rw [HM.out]; omega) (fun _ h => h.elim) (fun _ _ h => h)
  have HB11 : Fact (Below w6.heap.size w6 w11) := ⟨HB10.out.grown hg11 HB10.out.size (fun k hk => (HO10.out.lt k hk).1)⟩
  refine turn_do rfl rfl (v := v1) (exec_append w10 rfl rfl rfl hr11) (hinv _ HB11.out) ?_
  simp only [List.getElem_toArray, List.getElem_cons_succ, List.getElem_cons_zero, Act.put, List.setIfInBounds_toArray, List.set_cons_succ, List.set_cons_zero]
  have hlen : (l ++ [h]).length = m + 2 := by rw [List.length_append, HM.out]; rfl
  have HRC11 := Fact.mk (hinv _ HB11.out).2
  obtain ⟨g1, c1, hv, hg1, hmc⟩ := Mc.put HRC11.out ho11 HL6.out.2.1 (by rw [hlen]; omega)
  rw [hlen] at hv
  subst hv
  have HMC := Fact.mk hmc
  have HG1 := Fact.mk hg1
  have HLEN := Fact.mk hlen
  have HMOD : Fact (Mod cm cm w w11) := ⟨Mod.of_below (HBW6.out.trans (HB11.out.mono HBW6.out.size))⟩
  have k1 : w11.cell? ⟨cm, 1, none⟩ = some (.slice (some ⟨gm, o, none⟩) (m + 1) c) := row_cell HRC11.out rfl
  have f1 : w11.frozen? ⟨cm, 1, none⟩ = false := row_free HRC11.out
  refine pd_tell rfl rfl (fun W hS => by
    go_simp
    first | done | rfl) ?_
  simp only [List.getElem_toArray, List.getElem_cons_succ, List.getElem_cons_zero, Act.put, List.setIfInBounds_toArray, List.set_cons_succ, List.set_cons_zero]
  refine pd_tell rfl rfl (fun W hS => by
    go_simp
    first | done | rfl) ?_
  simp only [List.getElem_toArray, List.getElem_cons_succ, List.getElem_cons_zero, Act.put, List.setIfInBounds_toArray, List.set_cons_succ, List.set_cons_zero]
  unfold wpPlanD
  refine last_mute rfl rfl (w' := w11.setCell ⟨cm, 1, none⟩ (.slice (some ⟨g1, 0, none⟩) (m + 2) c1)) (by go_simp; first | done | rfl) ?_
  simp only [List.getElem_toArray, List.getElem_cons_succ, List.getElem_cons_zero, Act.put, List.setIfInBounds_toArray, List.set_cons_succ, List.set_cons_zero]
  have HMOD12 : Fact (Mod cm cm w (w11.setCell ⟨cm, 1, none⟩ (.slice (some ⟨g1, 0, none⟩) (m + 2) c1))) := ⟨HMOD.out.setCell _ _⟩
  have HGW : Fact (w.heap.size ≤ g1) := ⟨by have := HL6.out; have := HG1.out; omega⟩
  clear k1 f1 hmc hg1 hlen ho11 hg11 hr11 HMOD HRC11 HSB HB11 HB10 HB9 HDK hsd HBd hinv HO10 HO9 HB7
  generalize w11.setCell ⟨cm, 1, none⟩ (.slice (some ⟨g1, 0, none⟩) (m + 2) c1) = w12 at HMC HMOD12 ⊢
  obtain ⟨o2, c2, hr12, hsl12, -⟩ := Mc.pl HMC.out (by rw [HLEN.out]; omega)
  obtain ⟨n2, hn2⟩ : ∃ n2, m + 2 = n2 := ⟨_, rfl⟩
  have hl2 : (l ++ [h]).length = n2 := HLEN.out.trans hn2
  rw [hl2] at hr12 hsl12
  have hn3 : n2 ≤ 1002 := by omega
  have hn4 : 2 ≤ n2 := by omega
  have HN2 := Fact.mk hn2
  have HL2 := Fact.mk hl2
  have HRC12 := Fact.mk hr12
  have HSL12 := Fact.mk hsl12
  have k1 : w12.cell? ⟨cm, 1, none⟩ = some (.slice (some ⟨g1, o2, none⟩) n2 c2) := row_cell hr12 rfl
  have f1 : w12.frozen? ⟨cm, 1, none⟩ = false := row_free hr12
  clear hr12 hsl12 hn2 hl2
  by_cases q5 : 16 < n2
  · have d5 : decide ((16 : Int) < (n2 : Int)) = true := by rw [decide_eq_true_eq]; omega
    have n5 : decide (16 < n2) = true := decide_eq_true q5
    have HPU : Fact (pushH l h = (l ++ [h]).drop 1) := ⟨by unfold pushH; rw [if_pos (by have := HN2.out; rw [HM.out]; omega)]⟩
    obtain ⟨ie, hie, hiz⟩ := Option.map_eq_some_iff.1 info_kn3
    simp only [Prod.mk.injEq] at hiz
    obtain ⟨A2, hs1, hs2⟩ := slice_from (P := Tryd.prog) rKn 80 79 Tryd.underlying80 hie hiz.2.1 (some ⟨g1, o2, none⟩) n2 c2 .i64 1 (by omega) (by omega)
    have hs3 := hs2 HSL12.out
    simp only [Int.toNat_one] at hs1 hs3
    have HD : Fact (((l ++ [h]).drop 1).length = n2 - 1) := ⟨by rw [List.length_drop, HL2.out]⟩
    have HMC2 : Fact (Mc (w12.setCell ⟨cm, 1, none⟩ (.slice A2 (n2 - 1) (c2 - 1))) cm g1 p ((l ++ [h]).drop 1) fz) := ⟨by
      have := Mc.putS (A := A2) (c := c2 - 1) HRC12.out (xs := (l ++ [h]).drop 1) (gm := g1) (by rw [HD.out]; exact hs3) HMC.out.2.2.1 HMC.out.2.1
      rwa [HD.out] at this⟩
    have HMOD13 : Fact (Mod cm cm w (w12.setCell ⟨cm, 1, none⟩ (.slice A2 (n2 - 1) (c2 - 1)))) := ⟨HMOD12.out.setCell _ _⟩
    clear hs2 hs3 hiz hie q5
    go_wp2_with fail
    go_ret
    exact ⟨rfl, ⟨g1, pushH l h, by rw [HU.out], by rw [HU.out, HPU.out]; exact HMC2.out, .inr HGW.out, .inr ⟨HQQ.out.1, HQQ.out.2.1, HQQ.out.2.2, rfl⟩, HMOD13.out⟩⟩
  · have d5 : decide ((16 : Int) < (n2 : Int)) = false := by rw [decide_eq_false_iff_not]; omega
    have n5 : decide (16 < n2) = false := decide_eq_false q5
    have HPU : Fact (pushH l h = l ++ [h]) := ⟨by unfold pushH; rw [if_neg (by have := HN2.out; rw [HM.out]; omega)]⟩
    clear q5
    go_wp2_with fail
    go_ret
    exact ⟨rfl, ⟨g1, pushH l h, by rw [HU.out], by rw [HU.out, HPU.out]; exact HMC.out, .inr HGW.out, .inr ⟨HQQ.out.1, HQQ.out.2.1, HQQ.out.2.2, rfl⟩, HMOD12.out⟩⟩
end Go.Proofs.YtkmcjokoinoahaaDoor.RefG
