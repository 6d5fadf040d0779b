/- ferrymanref01.Seal: a contract over any world. -/
import Derived.Test.YtkmcjokoinoahaaDoorRefC
import Derived.ArgAppend
set_option linter.unusedVariables false
set_option linter.unusedSimpArgs false
namespace Go.Proofs.YtkmcjokoinoahaaDoor.RefD
open Go.RowKit Go.Proofs.YtkmcjokoinoahaaDoor.Lib Go.Proofs.YtkmcjokoinoahaaDoor.LibB Go.Proofs.YtkmcjokoinoahaaDoor.Reg Go.Proofs.YtkmcjokoinoahaaDoor.RegC Go.Proofs.YtkmcjokoinoahaaDoor.RegD Go.Proofs.YtkmcjokoinoahaaDoor.TlvA Go.Proofs.YtkmcjokoinoahaaDoor.TlvF Go.Proofs.YtkmcjokoinoahaaDoor.TlvI Go.Proofs.YtkmcjokoinoahaaDoor.PlainT Go.Proofs.YtkmcjokoinoahaaDoor.PlainS Go.Proofs.YtkmcjokoinoahaaDoor.ShaB Go.Proofs.YtkmcjokoinoahaaDoor.ShaC Go.Proofs.YtkmcjokoinoahaaDoor.ShaD Go.Proofs.YtkmcjokoinoahaaDoor.ShaDS Go.Proofs.YtkmcjokoinoahaaDoor.ShaE Go.Proofs.YtkmcjokoinoahaaDoor.PlainP Go.Proofs.YtkmcjokoinoahaaDoor.ParcelB Go.Proofs.YtkmcjokoinoahaaDoor.SealA Go.Proofs.YtkmcjokoinoahaaDoor.SealB Go.Proofs.YtkmcjokoinoahaaDoor.ClientA Go.Proofs.YtkmcjokoinoahaaDoor.RefA Go.Proofs.YtkmcjokoinoahaaDoor.RefB Go.Proofs.YtkmcjokoinoahaaDoor.RefC
/-- append onto a slice without room for it: a new row. -/
theorem run_app_grow {P : Program} {α : Type} (r : Rep α) (w : World) (t ty e : TypeId) (z : Value) (bytes : Nat) (ht : P.underlying t = some (.slice e)) (hinfo : (P.info? e).map (fun i => (i.zero, i.size, i.bytes)) = some (some z, r.sz, bytes)) (hz : z.cells.size = r.sz) (hsz : 0 < r.sz) (hb : 0 < bytes)
    (F G F0 : Nat → Prop) (ad : Addr) (n cap : Nat) (A : Option Addr) (m c : Nat) (xs ys : List α) (hx : Sl r w F (some ad) n cap xs) (hy : Sl r w G A m c ys) (hg : cap < n + m) (hl : (n + m) * bytes ≤ 140737488355328)
    (hF : ∀ k, F0 k → k < w.heap.size) (hK : ∀ x cs, r.K w F x cs → r.K w F0 x cs) (hG : ∀ x cs, r.K w G x cs → r.K w F0 x cs) :
    ∃ v' w', (Builtin.append_ #[t, t] ty #[.slice (some ad) n cap, .slice A m c]).run P w = .ok v' w' ∧ Ow r e w' w.heap.size F0 v' (xs ++ ys) ∧ w.grownBy w' none := by
  obtain ⟨i0, hi, hzz⟩ := Option.map_eq_some_iff.1 hinfo
  simp only [Prod.mk.injEq] at hzz
  obtain ⟨hz0, hz1, hz2⟩ := hzz
  have hm : 0 < m := by have := hx.le; omega
  obtain ⟨ad2, rfl, -⟩ := hy.some_ hm
  obtain ⟨olds, ho, hoc⟩ := hx.els
  obtain ⟨news, hn, hnc⟩ := hy.els
  have hlen : n + m ≤ 140737488355328 := Nat.le_trans (Nat.le_mul_of_pos_right _ hb) hl
  obtain ⟨v', w', hr, h1, h2⟩ := run_append_arg_grows (P := P) w t ty e i0 z r.sz bytes ht hi hz0 hz1 hz2 hz hsz ad n cap olds (by rw [ho.1, hx.len]) hoc ad2 m c news (by rw [hn.1, hy.len]) hnc hg (by simp only [maxLen]; omega) hl
  have ho' : Els r w F0 xs olds := ⟨ho.1, fun i x hi => hK _ _ (ho.2 i x hi)⟩
  have hn' : Els r w F0 ys news := ⟨hn.1, fun i x hi => hG _ _ (hn.2 i x hi)⟩
  exact ⟨v', w', hr, ⟨olds ++ news, by rw [List.length_append, hx.len, hy.len]; exact h1, (ho'.append hn').move (Same.of_grown h2 (fun k hk => ⟨hF k hk, by simp⟩))⟩, h2⟩
theorem Ow.low {α : Type} {r : Rep α} {e : TypeId} {w : World} {base base' : Nat} {F : Nat → Prop} {v : Value} {xs : List α} (h : Ow r e w base F v xs) (hb : base' ≤ base) : Ow r e w base' F v xs := by
  obtain ⟨cells, ⟨h1, h2⟩, he⟩ := h
  refine ⟨cells, ⟨h1, ?_⟩, he⟩
  rcases h2 with h2 | ⟨g, cap, cur, hv, hg, hr⟩
  · exact .inl h2
  · exact .inr ⟨g, cap, cur, hv, Nat.le_trans hb hg, hr⟩
theorem spot_none {w : World} {p : Addr} {v : Value} (h : w.cell? p = some v) : p = ⟨p.block, p.off, none⟩ := by
  obtain ⟨b, o, s⟩ := p
  cases s with
  | none => rfl
  | some s =>
    unfold World.cell? at h
    split at h <;> simp at h
theorem At.keep {w w' : World} {A : Option Addr} {c : Nat} {l : List UInt8} (h : At w A c l) (hk : ∀ b o v, w.cell? ⟨b, o, none⟩ = some v → w'.cell? ⟨b, o, none⟩ = some v) (hs : w'.heap.size = w.heap.size) : At w' A c l := by
  have h' : Sl rU8 w (fun k => k < w.heap.size) A l.length c l := h
  refine ⟨h'.1, h'.2.1, h'.2.2.1, fun hn => ?_⟩
  obtain ⟨ad, e, hf, hc⟩ := h'.2.2.2 hn
  refine ⟨ad, e, by rw [hs]; exact hf, fun i x hi => ?_⟩
  obtain ⟨cs, hK, hcell⟩ := hc i x hi
  refine ⟨cs, hK, fun j u hj => ?_⟩
  have h1 := hcell j u hj
  have h2 := spot_none h1
  generalize ad.add (i * rU8.sz + j) = p at h1 h2 ⊢
  rw [h2] at h1 ⊢
  exact hk _ _ _ h1
theorem below_grown {B : Nat} {a W w1 : World} {v : Value} (h : Below B a W) (hg : W.grownBy w1 v.ownBlock) (hB : B ≤ W.heap.size) (hv : ∀ k, v.ownBlock = some k → B ≤ k) : Below B a w1 := h.grown hg hB hv
theorem bytes_info : (Tryd.prog.info? 5).map (fun i => (i.zero, i.size, i.bytes)) = some (some (.int .u8 0), 1, 1) := by kernel_rfl
theorem seal_eq (h : Hd) : ([(115 : UInt8), 101, 97, 108] ++ h.vals) ++ hdL { h with sel := Z32 } = sealB h := by unfold sealB; simp only [List.append_assoc]
set_option maxHeartbeats 16000000 in
set_option maxRecDepth 100000 in
theorem RSeal_calls (w : World) (h : Hd) (hk : h.ok) (cs : Array Value) (hcs : cs.toList = hdC h) (hg : LaidR w) (h1 : 1 < w.heap.size) :
    Calls Tryd.prog 32 #[.agg cs] w fun e w' => (∃ ds : Array Value, e = .returned (.agg ds) ∧ Fact (ds.toList = (shaL (sealB h)).map vu8)) ∧ Below w.heap.size w w' := by
  have HK := Fact.mk hk
  have HG := Fact.mk hg
  have H1 := Fact.mk h1
  have HCS := Fact.mk hcs
  have HN : Fact (cs.size = 130) := ⟨by rw [← Array.length_toList, hcs]; simp [hdC, hk.root, hk.vals, hk.next, hk.sel]⟩
  have HLEN : Fact ((sealB h).length ≤ 1000000) := ⟨sealB_len hk⟩
  have HHL : Fact ((hdL { h with sel := Z32 }).length ≤ 162) := ⟨hdL_len ⟨hk.ht, hk.tm, hk.root, hk.vals, hk.next, Z32_len⟩⟩
  clear hk hg h1 hcs
  have HR0 : Fact (((w.alloc (.cells cs 54)).alloc (.cells (bArr []) 52)).heap[w.heap.size]? = some (.cells cs 54 (0, 0))) := ⟨by rw [Below.heap_alloc _ _ _ (by simp)]; exact heap_alloc_new _ _⟩
  have HR1 : Fact (((w.alloc (.cells cs 54)).alloc (.cells (bArr []) 52)).heap[w.heap.size + 1]? = some (.cells (bArr []) 52 (0, 0))) := ⟨by have := heap_alloc_new (w.alloc (.cells cs 54)) (.cells (bArr []) 52); simpa using this⟩
  have HB0 : Fact (Below w.heap.size w ((w.alloc (.cells cs 54)).alloc (.cells (bArr []) 52))) := ⟨((Below.refl _ _).alloc (Nat.le_refl _) _).alloc (by simp) _⟩
  have HS0 : Fact (((w.alloc (.cells cs 54)).alloc (.cells (bArr []) 52)).heap.size = w.heap.size + 2) := ⟨by simp⟩
  have HT0 : Fact (((w.alloc (.cells cs 54)).alloc (.cells (bArr []) 52)).there w.heap.size 98 32) := ⟨there_row HR0.out HN.out (by decide)⟩
  go_enter Tryd.func32, Tryd.ntmps32
  go_wp2_with (first
    | (refine wpList_ok rfl (exec_alloc rfl (alloc_b _)) ?_)
    | (refine wpList_store_mid rfl 52 (.tmp 4) (.tmp 3) rfl w.heap.size 98 (Z32.map vu8).toArray rfl rfl HT0.out (hash_i (by decide)) (oneCell_bytes _) ?_))
  have HR2 : Fact ((((w.alloc (.cells cs 54)).alloc (.cells (bArr []) 52)).setCells w.heap.size 98 (Z32.map vu8)).heap[w.heap.size]? = some (.cells (setFrom cs 98 (Z32.map vu8)) 54 (0, 0))) := ⟨row_setCells _ _ _ _ HR0.out⟩
  have HR3 : Fact ((((w.alloc (.cells cs 54)).alloc (.cells (bArr []) 52)).setCells w.heap.size 98 (Z32.map vu8)).heap[w.heap.size + 1]? = some (.cells (bArr []) 52 (0, 0))) := ⟨(other_setCells (by omega) _ _ _).trans HR1.out⟩
  have HB2 : Fact (Below w.heap.size w (((w.alloc (.cells cs 54)).alloc (.cells (bArr []) 52)).setCells w.heap.size 98 (Z32.map vu8))) := ⟨below_setCells _ _ HB0.out (Nat.le_refl _)⟩
  have HS2 : Fact ((((w.alloc (.cells cs 54)).alloc (.cells (bArr []) 52)).setCells w.heap.size 98 (Z32.map vu8)).heap.size = w.heap.size + 2) := ⟨by rw [size_setCells', HS0.out]⟩
  have HCZ : Fact ((setFrom cs 98 (Z32.map vu8)).toList = hdC { h with sel := Z32 }) := ⟨hdC_seal HK.out cs HCS.out Z32 (by decide)⟩
  clear HR0 HR1 HB0 HS0 HT0
  generalize ((w.alloc (.cells cs 54)).alloc (.cells (bArr []) 52)).setCells w.heap.size 98 (Z32.map vu8) = w2 at HR2 HR3 HB2 HS2 ⊢
  generalize setFrom cs 98 (Z32.map vu8) = cz at HR2 HCZ
  have HKZ : Fact (Hd.ok { h with sel := Z32 }) := ⟨⟨HK.out.ht, HK.out.tm, HK.out.root, HK.out.vals, HK.out.next, Z32_len⟩⟩
  have HNZ : Fact (cz.size = 130) := ⟨by rw [← Array.length_toList, HCZ.out]; simp [hdC, HK.out.root, HK.out.vals, HK.out.next, Z32_len]⟩
  have HIZ : Fact ((Tryd.prog.info? 54).map (·.size) = some cz.size) := ⟨by rw [HNZ.out]; kernel_rfl⟩
  dsimp only [Act.put]
  refine wp_region_P (fun W => Below (w.heap.size + 1) w2 W) (.tell 2 (.tell 3 (.tell 5 (.one 0 (.one 1 (.one 4 (.one 6 (.one 7 (.one 8 (.one 9 .done)))))))))) (by kernel_rfl) (by kernel_rfl) (by kernel_rfl) (by intro c a d v w h; cases d <;> exact h) (Below.refl _ _).drew ?_
  have HS5 : Fact (Below (w.heap.size + 2) w2 w2.drew) := ⟨(Below.refl _ _).drew⟩
  generalize w2.drew = wd at HS5 ⊢
  refine plan_tell rfl rfl (fun W hS => by go_simp; first | done | rfl) ?_
  simp only [List.getElem_toArray, List.getElem_cons_succ, List.getElem_cons_zero, Act.put, List.setIfInBounds_toArray, List.set_cons_succ, List.set_cons_zero]
  refine plan_tell rfl rfl (fun W hS => by go_simp; first | done | rfl) ?_
  simp only [List.getElem_toArray, List.getElem_cons_succ, List.getElem_cons_zero, Act.put, List.setIfInBounds_toArray, List.set_cons_succ, List.set_cons_zero]
  refine plan_tell rfl rfl (v := .agg cz) (fun W hS => exec_loadRow rfl rfl ((hS.block _ (by omega)).trans HR2.out) Tryd.underlying54 rfl HIZ.out) ?_
  simp only [List.getElem_toArray, List.getElem_cons_succ, List.getElem_cons_zero, Act.put, List.setIfInBounds_toArray, List.set_cons_succ, List.set_cons_zero]
  refine share (.one 7 (.one 8 (.one 9 .done))) (fun a W => ∃ zs g v9 A2 c2, a = ⟨#[.agg cs, .pointer (some ⟨w.heap.size, 0, none⟩), .pointer (some ⟨w.heap.size + 1, 0, none⟩), zs, .pointer (some ⟨w.heap.size, 98, none⟩), .slice (some ⟨g, 0, none⟩) 4 4, .slice (some ⟨g, 0, none⟩) 4 4, .pointer (some ⟨w.heap.size, 34, none⟩), .slice (some ⟨w.heap.size, 34, none⟩) 32 32, v9, .agg cz, .slice A2 (hdL { h with sel := Z32 }).length c2, undef, undef], []⟩ ∧ Ow rU8 5 W (w.heap.size + 2) (fun _ => False) v9 ([115, 101, 97, 108] ++ h.vals) ∧ At W A2 c2 (hdL { h with sel := Z32 }) ∧ Below (w.heap.size + 2) w2 W) ?_ ?_
  · rintro a W ⟨zs, g, v9, A2, c2, rfl, ho9, ha2, HS⟩
    have hsz : w.heap.size + 2 ≤ W.heap.size := by have := HS.size; have := HS2.out; omega
    obtain ⟨v12, w12, hr12, ho12, hg12, -⟩ := run_app (P := Tryd.prog) rU8 W (w.heap.size + 2) 129 129 5 (.int .u8 0) 1 Tryd.underlying129 bytes_info rfl (by decide) (by decide) (fun _ => False) (fun k => k < W.heap.size) v9 ([115, 101, 97, 108] ++ h.vals) (hdL { h with sel := Z32 }) A2 (hdL { h with sel := Z32 }).length c2 ho9 ha2 hsz (by have := HHL.out; have := HK.out.vals; simp only [List.length_append, List.length_cons, List.length_nil]; omega) (fun _ h => h.elim) (fun _ _ h => h)
    have hb12 : Below (w.heap.size + 2) w2 w12 := HS.grown hg12 hsz (fun k hk => (ho9.lt k hk).1)
    refine turn_do rfl rfl (v := v12) (exec_append W rfl rfl rfl hr12) (hb12.mono (by omega)) ?_
    simp only [List.getElem_toArray, List.getElem_cons_succ, List.getElem_cons_zero, Act.put, List.setIfInBounds_toArray, List.set_cons_succ, List.set_cons_zero]
    rw [seal_eq] at ho12
    obtain ⟨A12, c12, rfl, hs12⟩ := ho12.sl
    have hF12 : ∀ k, (False ∨ (Value.slice A12 (sealB h).length c12).ownBlock = some k) → k < w12.heap.size := fun k hk => hk.elim (fun h => h.elim) (fun hv => (ho12.lt k hv).2)
    have hlay : LaidR w12 := laidR_move HG.out (HB2.out.trans (hb12.mono (by omega))) H1.out
    refine turn_call (f := 67) (args := #[.slice A12 (sealB h).length c12]) rfl rfl rfl Tryd.func67 (by kernel_rfl) rfl (by simp only [List.map_toArray, List.map_cons, List.map_nil]; rfl) ?_
    refine (RSum_calls w12 _ A12 _ c12 (sealB h) hs12 hF12 HLEN.out hlay (by have := H1.out; have := hb12.size; have := HS2.out; omega)).mono ?_
    rintro e w5 ⟨⟨ds, rfl, hds⟩, hb5⟩
    have hb5' : Below (w.heap.size + 2) w2 w5 := hb12.trans (hb5.mono (by have := hb12.size; have := HS2.out; omega))
    refine ⟨_, rfl, hb5'.mono (by omega), ?_⟩
    simp only [List.getElem_toArray, List.getElem_cons_succ, List.getElem_cons_zero, Act.put, List.setIfInBounds_toArray, List.set_cons_succ, List.set_cons_zero]
    refine turn_mute rfl rfl (exec_storeRow (g := w.heap.size + 1) (old := bArr []) (cells := ds) rfl rfl rfl ((hb5'.block _ (by omega)).trans HR3.out) (hash_i (bytes_size hds.out (sha_len _))) (by rw [bytes_size hds.out (sha_len _)]; rfl) (bytes_one hds.out)) ?_ ?_
    · exact (hb5'.mono (by omega)).trans (below_setRow (Below.refl _ _) (by omega) _)
    have HB6 : Fact (Below w.heap.size w (w5.setRow (w.heap.size + 1) ds)) := ⟨below_setRow (HB2.out.trans (hb5'.mono (by omega))) (by omega) _⟩
    have HR6 : Fact ((w5.setRow (w.heap.size + 1) ds).heap[w.heap.size + 1]? = some (.cells ds 52 (0, 0))) := ⟨setRow_heap _ _ _ _ _ _ ((hb5'.block _ (by omega)).trans HR3.out)⟩
    have HDS := Fact.mk hds.out
    have HI := Fact.mk (hash_i (bytes_size hds.out (sha_len _)))
    clear hb5' hb5 hds hlay hF12 hs12 ho12 hb12 hg12 hr12 hsz HS ha2 ho9
    generalize w5.setRow (w.heap.size + 1) ds = w6 at HB6 HR6 ⊢
    change wpPlan _ _ _ _ .done ⟨#[_, .pointer (some ⟨w.heap.size, 0, none⟩), .pointer (some ⟨w.heap.size + 1, 0, none⟩), _, _, _, _, _, _, _, _, _, _, _], []⟩ w6
    unfold wpPlan
    go_wp2_with fail
    refine bodyPost_ret (results_cell_row (fn := Tryd.f32) rfl _ _ (w.heap.size + 1) 52 ds (0, 0) _ rfl HR6.out hash_u rfl HI.out) rfl ?_
    exact ⟨⟨ds, rfl, HDS⟩, HB6.out⟩
  · intro key
    obtain ⟨g, hgq⟩ : ∃ g, wd.heap.size = g := ⟨_, rfl⟩
    have hgl : w.heap.size + 2 ≤ g := by have := (HS5.out).size; have := HS2.out; omega
    have hb1 : Below (w.heap.size + 2) w2 (wd.alloc (.cells #[.int .u8 115, .int .u8 101, .int .u8 97, .int .u8 108] 5)) := (HS5.out).alloc (by omega) _
    refine turn_do rfl rfl (v := .slice (some ⟨wd.heap.size, 0, none⟩) 4 4) (w' := wd.alloc (.cells #[.int .u8 115, .int .u8 101, .int .u8 97, .int .u8 108] 5)) (by go_simp; first | done | rfl) (hb1.mono (by omega)) ?_
    simp only [List.getElem_toArray, List.getElem_cons_succ, List.getElem_cons_zero, Act.put, List.setIfInBounds_toArray, List.set_cons_succ, List.set_cons_zero]
    have hrow1 : (wd.alloc (.cells #[.int .u8 115, .int .u8 101, .int .u8 97, .int .u8 108] 5)).heap[g]? = some (.cells #[.int .u8 115, .int .u8 101, .int .u8 97, .int .u8 108] 5 (0, 0)) := by rw [← hgq]; exact heap_alloc_new _ _
    have hlt1 : g < (wd.alloc (.cells #[.int .u8 115, .int .u8 101, .int .u8 97, .int .u8 108] 5)).heap.size := by simp [hgq]
    rw [hgq]
    generalize wd.alloc (.cells #[.int .u8 115, .int .u8 101, .int .u8 97, .int .u8 108] 5) = v1 at *
    obtain ⟨v2, hc2, hbc2, hko2, hcell2, hsz2⟩ := conv_const (P := Tryd.prog) v1 129 5 g #[.int .u8 115, .int .u8 101, .int .u8 97, .int .u8 108] 4 4 Tryd.underlying129 Tryd.underlying5 hrow1
    have hb2 : Below (w.heap.size + 2) w2 v2 := (hb1).trans (hbc2.mono hgl)
    refine turn_do rfl rfl (v := .slice (some ⟨g, 0, none⟩) 4 4) (exec_conv rfl rfl hc2) (hb2.mono (by omega)) ?_
    simp only [List.getElem_toArray, List.getElem_cons_succ, List.getElem_cons_zero, Act.put, List.setIfInBounds_toArray, List.set_cons_succ, List.set_cons_zero]
    have hs2 : v2.rangeAt g 0 ([(115 : UInt8), 101, 97, 108].map vu8) := fun j v hj => hcell2 _ _ (row_cell hrow1 (by rw [Nat.zero_add, ← Array.getElem?_toList]; exact hj))
    have hlt2 : g < v2.heap.size := by rw [hsz2]; exact hlt1
    have hr3 : v2.rangeAt w.heap.size 34 (h.vals.map vu8) := part_range (cs := hdC { h with sel := Z32 }) (fun j v hj => row_cell (((hb2).block w.heap.size (by omega)).trans HR2.out) (by rw [← HCZ.out] at hj; simpa using hj)) (hdC_parts HKZ.out).2.1
    obtain ⟨v9, v3, hq3, how3, hgr3⟩ := run_app_grow (P := Tryd.prog) rU8 v2 129 129 5 (.int .u8 0) 1 Tryd.underlying129 bytes_info rfl (by decide) (by decide) _ _ (fun _ => False) ⟨g, 0, none⟩ 4 4 (some ⟨w.heap.size, 34, none⟩) 32 32 [115, 101, 97, 108] h.vals (sl_part hs2 rfl (by decide)) (sl_part hr3 HK.out.vals (by decide)) (by decide) (by decide) (fun _ h => h.elim) (fun _ _ h => h) (fun _ _ h => h)
    have hb3 : Below (w.heap.size + 2) w2 v3 := (hb2).trans (Below.grown (Below.refl _ _) hgr3 (by have := (hb2).size; have := HS2.out; omega) (fun k hk => by cases hk))
    have how3' := Ow.low how3 (show w.heap.size + 2 ≤ v2.heap.size by have := (hb2).size; have := HS2.out; omega)
    refine turn_do rfl rfl (v := v9) (exec_append v2 rfl rfl rfl hq3) (hb3.mono (by omega)) ?_
    simp only [List.getElem_toArray, List.getElem_cons_succ, List.getElem_cons_zero, Act.put, List.setIfInBounds_toArray, List.set_cons_succ, List.set_cons_zero]
    refine turn_call (f := 68) (args := #[.agg cz]) rfl rfl rfl Tryd.func68 (by kernel_rfl) rfl (by simp only [List.map_toArray, List.map_cons, List.map_nil]; rfl) ?_
    refine (RHeader_calls v3 _ HKZ.out cz HCZ.out).mono ?_
    rintro e v4 ⟨A2, c2, rfl, at4, hbc4⟩
    have hb4 : Below (w.heap.size + 2) w2 v4 := (hb3).trans (hbc4.mono (by have := (hb3).size; have := HS2.out; omega))
    refine ⟨_, rfl, hb4.mono (by omega), ?_⟩
    simp only [List.getElem_toArray, List.getElem_cons_succ, List.getElem_cons_zero, Act.put, List.setIfInBounds_toArray, List.set_cons_succ, List.set_cons_zero]
    have how4 := Ow.below how3' hbc4 (fun _ h => h.elim)
    exact key _ _ ⟨_, g, v9, A2, c2, rfl, how4, at4, hb4⟩
end Go.Proofs.YtkmcjokoinoahaaDoor.RefD
