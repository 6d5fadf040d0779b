/- parcel.Seal: a contract over any world. -/
import Derived.Test.YtkmcjokoinoahaaDoorSealA
set_option linter.unusedVariables false
set_option linter.unusedSimpArgs false
namespace Go.Proofs.YtkmcjokoinoahaaDoor.SealB
open Go.RowKit Go.Proofs.YtkmcjokoinoahaaDoor.Lib Go.Proofs.YtkmcjokoinoahaaDoor.LibB Go.Proofs.YtkmcjokoinoahaaDoor.Reg Go.Proofs.YtkmcjokoinoahaaDoor.RegC Go.Proofs.YtkmcjokoinoahaaDoor.PlainS Go.Proofs.YtkmcjokoinoahaaDoor.ShaB Go.Proofs.YtkmcjokoinoahaaDoor.ShaC Go.Proofs.YtkmcjokoinoahaaDoor.ShaD Go.Proofs.YtkmcjokoinoahaaDoor.ShaDS Go.Proofs.YtkmcjokoinoahaaDoor.ShaE Go.Proofs.YtkmcjokoinoahaaDoor.PlainP Go.Proofs.YtkmcjokoinoahaaDoor.ParcelB Go.Proofs.YtkmcjokoinoahaaDoor.SealA Go.Proofs.YtkmcjokoinoahaaDoor.TlvF Go.Proofs.YtkmcjokoinoahaaDoor.TlvA Go.Proofs.YtkmcjokoinoahaaDoor.TlvI Go.Proofs.YtkmcjokoinoahaaDoor.LawOne
def sealB (h : Hd) : List UInt8 := [115, 101, 97, 108] ++ (h.vals ++ hdL { h with sel := Z32 })
theorem sealB_len {h : Hd} (hk : h.ok) : (sealB h).length ≤ 1000000 := by
  have n1 := num_len h.ht
  have n2 := num_len h.tm
  have q1 := putL_len [] 1 (numL h.ht)
  have q2 := putL_len (putL [] 1 (numL h.ht)) 2 (numL h.tm)
  have hq : ∀ (l : List UInt8) (t : UInt8) (x : List UInt8), x.length = 32 → (putH l t x).length ≤ l.length + 35 := by
    intro l t x hx
    unfold putH
    split
    · omega
    · have := putL_len l t x; omega
  have q3 := hq (putL (putL [] 1 (numL h.ht)) 2 (numL h.tm)) 3 h.root hk.root
  have q4 := hq (putH (putL (putL [] 1 (numL h.ht)) 2 (numL h.tm)) 3 h.root) 4 h.vals hk.vals
  have q5 := hq (putH (putH (putL (putL [] 1 (numL h.ht)) 2 (numL h.tm)) 3 h.root) 4 h.vals) 5 h.next hk.next
  have q6 := hq (putH (putH (putH (putL (putL [] 1 (numL h.ht)) 2 (numL h.tm)) 3 h.root) 4 h.vals) 5 h.next) 6 Z32 Z32_len
  have := hk.vals
  simp only [List.length_nil] at q1
  unfold sealB hdL
  simp only [List.length_append, List.length_cons, List.length_nil]
  omega
set_option maxHeartbeats 8000000 in
set_option maxRecDepth 100000 in
theorem Seal_calls (w : World) (h : Hd) (hk : h.ok) (cs : Array Value) (hcs : cs.toList = hdC h) (hg : LaidW w) (h1 : 3 < w.heap.size) :
    Calls Tryd.prog 69 #[.agg cs] w fun e w' => (∃ ds : Array Value, e = .returned (.agg ds) ∧ Fact (ds.toList = (shaL (sealB h)).map vu8)) ∧ Below w.heap.size w w' := by
  have HK := Fact.mk hk
  have HG := Fact.mk hg
  have H1 := Fact.mk h1
  have HCS := Fact.mk hcs
  have HN : Fact (cs.size = 130) := ⟨by rw [← Array.length_toList, hcs]; simp [hdC, hk.root, hk.vals, hk.next, hk.sel]⟩
  have HLEN : Fact ((sealB h).length ≤ 1000000) := ⟨sealB_len hk⟩
  clear hk hg h1 hcs
  have HR0 : Fact (((w.alloc (.cells cs 54)).alloc (.cells (bArr []) 52)).heap[w.heap.size]? = some (.cells cs 54 (0, 0))) := ⟨by rw [Below.heap_alloc _ _ _ (by simp)]; exact heap_alloc_new _ _⟩
  have HR1 : Fact (((w.alloc (.cells cs 54)).alloc (.cells (bArr []) 52)).heap[w.heap.size + 1]? = some (.cells (bArr []) 52 (0, 0))) := ⟨by have := heap_alloc_new (w.alloc (.cells cs 54)) (.cells (bArr []) 52); simpa using this⟩
  have HB0 : Fact (Below w.heap.size w ((w.alloc (.cells cs 54)).alloc (.cells (bArr []) 52))) := ⟨((Below.refl _ _).alloc (Nat.le_refl _) _).alloc (by simp) _⟩
  have HS0 : Fact (((w.alloc (.cells cs 54)).alloc (.cells (bArr []) 52)).heap.size = w.heap.size + 2) := ⟨by simp⟩
  have HT0 : Fact (((w.alloc (.cells cs 54)).alloc (.cells (bArr []) 52)).there w.heap.size 98 32) := ⟨there_row HR0.out HN.out (by decide)⟩
  go_enter Tryd.func69, Tryd.ntmps69
  go_wp2_with (first
    | (refine wpList_ok rfl (exec_alloc rfl (alloc_b _)) ?_)
    | (refine wpList_store_mid rfl 52 (.tmp 4) (.tmp 3) rfl w.heap.size 98 (Z32.map vu8).toArray rfl rfl HT0.out (hash_i (by decide)) (oneCell_bytes _) ?_))
  have HR2 : Fact ((((w.alloc (.cells cs 54)).alloc (.cells (bArr []) 52)).setCells w.heap.size 98 (Z32.map vu8)).heap[w.heap.size]? = some (.cells (setFrom cs 98 (Z32.map vu8)) 54 (0, 0))) := ⟨row_setCells _ _ _ _ HR0.out⟩
  have HR3 : Fact ((((w.alloc (.cells cs 54)).alloc (.cells (bArr []) 52)).setCells w.heap.size 98 (Z32.map vu8)).heap[w.heap.size + 1]? = some (.cells (bArr []) 52 (0, 0))) := ⟨(other_setCells (by omega) _ _ _).trans HR1.out⟩
  have HB2 : Fact (Below w.heap.size w (((w.alloc (.cells cs 54)).alloc (.cells (bArr []) 52)).setCells w.heap.size 98 (Z32.map vu8))) := ⟨below_setCells _ _ HB0.out (Nat.le_refl _)⟩
  have HS2 : Fact ((((w.alloc (.cells cs 54)).alloc (.cells (bArr []) 52)).setCells w.heap.size 98 (Z32.map vu8)).heap.size = w.heap.size + 2) := ⟨by rw [size_setCells', HS0.out]⟩
  have HCZ : Fact ((setFrom cs 98 (Z32.map vu8)).toList = hdC { h with sel := Z32 }) := ⟨hdC_seal HK.out cs HCS.out Z32 (by decide)⟩
  clear HR0 HR1 HB0 HS0 HT0
  generalize ((w.alloc (.cells cs 54)).alloc (.cells (bArr []) 52)).setCells w.heap.size 98 (Z32.map vu8) = w2 at HR2 HR3 HB2 HS2 ⊢
  generalize setFrom cs 98 (Z32.map vu8) = cz at HR2 HCZ
  have HKZ : Fact (Hd.ok { h with sel := Z32 }) := ⟨⟨HK.out.ht, HK.out.tm, HK.out.root, HK.out.vals, HK.out.next, Z32_len⟩⟩
  have HNZ : Fact (cz.size = 130) := ⟨by rw [← Array.length_toList, HCZ.out]; simp [hdC, HK.out.root, HK.out.vals, HK.out.next, Z32_len]⟩
  have HIZ : Fact ((Tryd.prog.info? 54).map (·.size) = some cz.size) := ⟨by rw [HNZ.out]; kernel_rfl⟩
  dsimp only [Act.put]
  refine wp_region_P (fun W => Below (w.heap.size + 1) w2 W) (.tell 2 (.tell 3 (.tell 4 (.two 0 (.two 1 (.one 5 (.one 6 (.one 7 (.one 8 .done)))) 5 (.one 1 (.one 6 (.one 7 (.one 8 .done))))) 5 (.one 0 (.one 1 (.one 6 (.one 7 (.one 8 .done))))))))) (by kernel_rfl) (by kernel_rfl) (by kernel_rfl) (by intro c a d v w h; cases d <;> exact h) (Below.refl _ _).drew ?_
  have HS5 : Fact (Below (w.heap.size + 2) w2 w2.drew) := ⟨(Below.refl _ _).drew⟩
  generalize w2.drew = wd at HS5 ⊢
  refine plan_tell rfl rfl (fun W hS => by go_simp; first | done | rfl) ?_
  simp only [Act.put, List.setIfInBounds_toArray, List.set_cons_succ, List.set_cons_zero]
  refine plan_tell rfl rfl (fun W hS => by go_simp; first | done | rfl) ?_
  simp only [Act.put, List.setIfInBounds_toArray, List.set_cons_succ, List.set_cons_zero]
  refine plan_tell rfl rfl (v := .agg cz) (fun W hS => exec_loadRow rfl rfl ((hS.block _ (by omega)).trans HR2.out) Tryd.underlying54 rfl HIZ.out) ?_
  simp only [Act.put, List.setIfInBounds_toArray, List.set_cons_succ, List.set_cons_zero]
  refine share (.one 6 (.one 7 (.one 8 .done))) (fun a W => ∃ zs g A2 c2, a = ⟨#[.agg cs, .pointer (some ⟨w.heap.size, 0, none⟩), .pointer (some ⟨w.heap.size + 1, 0, none⟩), zs, .pointer (some ⟨w.heap.size, 98, none⟩), .slice (some ⟨g, 0, none⟩) 4 4, .slice (some ⟨g, 0, none⟩) 4 4, .pointer (some ⟨w.heap.size, 34, none⟩), .slice (some ⟨w.heap.size, 34, none⟩) 32 32, .agg cz, .slice A2 (hdL { h with sel := Z32 }).length c2, undef, undef], []⟩ ∧ Sl rU8 W (fun k => k < W.heap.size) (some ⟨g, 0, none⟩) 4 4 [115, 101, 97, 108] ∧ Sl rU8 W (fun k => k < W.heap.size) A2 (hdL { h with sel := Z32 }).length c2 (hdL { h with sel := Z32 }) ∧ Below (w.heap.size + 2) w2 W) ?_ ?_
  · rintro a W ⟨zs, g, A2, c2, rfl, H5, H10, HS⟩
    have hsz : w.heap.size + 2 ≤ W.heap.size := by have := HS.size; have := HS2.out; omega
    have hr : W.rangeAt w.heap.size 34 (h.vals.map vu8) := part_range (cs := hdC { h with sel := Z32 }) (fun j v hj => row_cell ((HS.block w.heap.size (by omega)).trans HR2.out) (by rw [← HCZ.out] at hj; simpa using hj)) (hdC_parts HKZ.out).2.1
    have H8 : Sl rU8 W (fun k => k < W.heap.size) (some ⟨w.heap.size, 34, none⟩) 32 32 h.vals := (sl_part hr HK.out.vals (by decide)).mono (fun k hk => by subst hk; omega)
    have hbox := sl_three W 129 H5 H8 H10 (fun _ h => h)
    have hba : Below (w.heap.size + 2) w2 (W.alloc (.cells #[.slice (some ⟨g, 0, none⟩) 4 4, .slice (some ⟨w.heap.size, 34, none⟩) 32 32, .slice A2 (hdL { h with sel := Z32 }).length c2] 129)) := HS.alloc hsz _
    have hlay : LaidW (W.alloc (.cells #[.slice (some ⟨g, 0, none⟩) 4 4, .slice (some ⟨w.heap.size, 34, none⟩) 32 32, .slice A2 (hdL { h with sel := Z32 }).length c2] 129)) := laid_move HG.out (HB2.out.trans (hba.mono (by omega))) H1.out
    refine turn_do rfl rfl (v := .slice (some ⟨W.heap.size, 0, none⟩) 3 3) (w' := W.alloc (.cells #[.slice (some ⟨g, 0, none⟩) 4 4, .slice (some ⟨w.heap.size, 34, none⟩) 32 32, .slice A2 (hdL { h with sel := Z32 }).length c2] 129)) (by go_simp; first | done | rfl) (hba.mono (by omega)) ?_
    simp only [Act.put, List.setIfInBounds_toArray, List.set_cons_succ, List.set_cons_zero]
    refine turn_call (f := 83) (args := #[.slice (some ⟨W.heap.size, 0, none⟩) 3 3]) rfl rfl rfl Tryd.func83 (by kernel_rfl) rfl (by simp only [List.map_toArray, List.map_cons, List.map_nil]; rfl) ?_
    refine (Sum_calls _ _ _ _ _ _ (sealB h) (by simp [sealB]) hbox (fun k hk => by simpa using hk) HLEN.out hlay (by have := H1.out; simp; omega)).mono ?_
    rintro e w5 ⟨⟨ds, rfl, hds⟩, hb5⟩
    have hb5' : Below (w.heap.size + 2) w2 w5 := hba.trans (hb5.mono (by simp; omega))
    refine ⟨_, rfl, hb5'.mono (by omega), ?_⟩
    simp only [Act.put, List.setIfInBounds_toArray, List.set_cons_succ, List.set_cons_zero]
    refine turn_mute rfl rfl (exec_storeRow (g := w.heap.size + 1) (old := bArr []) (cells := ds) rfl rfl rfl ((hb5'.block _ (by omega)).trans HR3.out) (hash_i (bytes_size hds.out (sha_len _))) (by rw [bytes_size hds.out (sha_len _)]; rfl) (bytes_one hds.out)) ?_ ?_
    · exact (hb5'.mono (by omega)).trans (below_setRow (Below.refl _ _) (by omega) _)
    have HB6 : Fact (Below w.heap.size w (w5.setRow (w.heap.size + 1) ds)) := ⟨below_setRow (HB2.out.trans (hb5'.mono (by omega))) (by omega) _⟩
    have HR6 : Fact ((w5.setRow (w.heap.size + 1) ds).heap[w.heap.size + 1]? = some (.cells ds 52 (0, 0))) := ⟨setRow_heap _ _ _ _ _ _ ((hb5'.block _ (by omega)).trans HR3.out)⟩
    have HDS := Fact.mk hds.out
    have HI := Fact.mk (hash_i (bytes_size hds.out (sha_len _)))
    clear hb5' hb5 hds hlay hba hbox H8 hr hsz H5 H10 HS
    generalize w5.setRow (w.heap.size + 1) ds = w6 at HB6 HR6 ⊢
    change wpPlan _ _ _ _ .done ⟨#[.agg cs, .pointer (some ⟨w.heap.size, 0, none⟩), .pointer (some ⟨w.heap.size + 1, 0, none⟩), zs, .pointer (some ⟨w.heap.size, 98, none⟩), .slice (some ⟨g, 0, none⟩) 4 4, .slice (some ⟨g, 0, none⟩) 4 4, .pointer (some ⟨w.heap.size, 34, none⟩), .slice (some ⟨w.heap.size, 34, none⟩) 32 32, .agg cz, .slice A2 (hdL { h with sel := Z32 }).length c2, .slice (some ⟨W.heap.size, 0, none⟩) 3 3, .agg ds], []⟩ w6
    unfold wpPlan
    go_wp2_with fail
    refine bodyPost_ret (results_cell_row (fn := Tryd.f69) rfl _ _ (w.heap.size + 1) 52 ds (0, 0) _ rfl HR6.out hash_u rfl HI.out) rfl ?_
    exact ⟨⟨ds, rfl, HDS⟩, HB6.out⟩
  · intro key
    refine ⟨?_, ?_⟩
    · have hb1 : Below (w.heap.size + 2) w2 (wd.alloc (.cells #[.int .u8 115, .int .u8 101, .int .u8 97, .int .u8 108] 5)) := (HS5.out).alloc (by have := (HS5.out).size; have := HS2.out; omega) _
      refine turn_do rfl rfl (v := .slice (some ⟨wd.heap.size, 0, none⟩) 4 4) (w' := wd.alloc (.cells #[.int .u8 115, .int .u8 101, .int .u8 97, .int .u8 108] 5)) (by go_simp; first | done | rfl) (hb1.mono (by omega)) ?_
      simp only [Act.put, List.setIfInBounds_toArray, List.set_cons_succ, List.set_cons_zero]
      have hrow1 : (wd.alloc (.cells #[.int .u8 115, .int .u8 101, .int .u8 97, .int .u8 108] 5)).heap[wd.heap.size]? = some (.cells #[.int .u8 115, .int .u8 101, .int .u8 97, .int .u8 108] 5 (0, 0)) := heap_alloc_new _ _
      have hlt1 : wd.heap.size < (wd.alloc (.cells #[.int .u8 115, .int .u8 101, .int .u8 97, .int .u8 108] 5)).heap.size := by simp
      have hgl1 : w.heap.size + 2 ≤ wd.heap.size := by have := (HS5.out).size; have := HS2.out; omega
      generalize wd.heap.size = g at hrow1 hlt1 hgl1 ⊢
      generalize wd.alloc (.cells #[.int .u8 115, .int .u8 101, .int .u8 97, .int .u8 108] 5) = v1 at hb1 hrow1 hlt1 ⊢
      refine ⟨?_, ?_⟩
      · obtain ⟨v2, hc2, hbc2, hko2, hcell2, hsz2⟩ := conv_const (P := Tryd.prog) v1 129 5 g #[.int .u8 115, .int .u8 101, .int .u8 97, .int .u8 108] 4 4 Tryd.underlying129 Tryd.underlying5 hrow1
        have hb2 : Below (w.heap.size + 2) w2 v2 := (hb1).trans (hbc2.mono hgl1)
        refine turn_do rfl rfl (v := .slice (some ⟨g, 0, none⟩) 4 4) (exec_conv rfl rfl hc2) (hb2.mono (by omega)) ?_
        simp only [Act.put, List.setIfInBounds_toArray, List.set_cons_succ, List.set_cons_zero]
        have hs2 : v2.rangeAt g 0 ([(115 : UInt8), 101, 97, 108].map vu8) := fun j v hj => hcell2 _ _ (row_cell hrow1 (by rw [Nat.zero_add, ← Array.getElem?_toList]; exact hj))
        have hg2 : g < v2.heap.size := by rw [hsz2]; exact hlt1
        refine turn_call (f := 84) (args := #[.agg cz]) rfl rfl rfl Tryd.func84 (by kernel_rfl) rfl (by simp only [List.map_toArray, List.map_cons, List.map_nil]; rfl) ?_
        refine (Header_calls v2 _ HKZ.out cz HCZ.out).mono ?_
        rintro e v3 ⟨A2, c2, rfl, ho3, hbc3⟩
        have hb3 : Below (w.heap.size + 2) w2 v3 := (hb2).trans (hbc3.mono (by have := (hb2).size; have := HS2.out; omega))
        refine ⟨_, rfl, hb3.mono (by omega), ?_⟩
        simp only [Act.put, List.setIfInBounds_toArray, List.set_cons_succ, List.set_cons_zero]
        have hs3 : v3.rangeAt g 0 ([(115 : UInt8), 101, 97, 108].map vu8) := fun j v hj => (hbc3.cell (p := ⟨g, 0 + j, none⟩) hg2).trans (hs2 j v hj)
        have hg3 : g < v3.heap.size := Nat.lt_of_lt_of_le hg2 hbc3.size
        have hd3 : Sl rU8 v3 (fun k => k < v3.heap.size) A2 (hdL { h with sel := Z32 }).length c2 (hdL { h with sel := Z32 }) := Sl.mono ho3.out (fun k hk => hk.2)
        exact key _ _ ⟨_, g, A2, c2, rfl, (sl_part hs3 rfl (by decide)).mono (fun k hk => by rw [hk]; exact hg3), hd3, hb3⟩
      · refine turn_call (f := 84) (args := #[.agg cz]) rfl rfl rfl Tryd.func84 (by kernel_rfl) rfl (by simp only [List.map_toArray, List.map_cons, List.map_nil]; rfl) ?_
        refine (Header_calls v1 _ HKZ.out cz HCZ.out).mono ?_
        rintro e v2 ⟨A2, c2, rfl, ho2, hbc2⟩
        have hb2 : Below (w.heap.size + 2) w2 v2 := (hb1).trans (hbc2.mono (by have := (hb1).size; have := HS2.out; omega))
        refine ⟨_, rfl, hb2.mono (by omega), ?_⟩
        simp only [Act.put, List.setIfInBounds_toArray, List.set_cons_succ, List.set_cons_zero]
        have hrow2 : v2.heap[g]? = some (.cells #[.int .u8 115, .int .u8 101, .int .u8 97, .int .u8 108] 5 (0, 0)) := (hbc2.block _ hlt1).trans hrow1
        have hlt2 : g < v2.heap.size := Nat.lt_of_lt_of_le hlt1 hbc2.size
        have hd2 : Sl rU8 v2 (fun k => v1.heap.size ≤ k ∧ k < v2.heap.size) A2 (hdL { h with sel := Z32 }).length c2 (hdL { h with sel := Z32 }) := ho2.out
        obtain ⟨v3, hc3, hbc3, hko3, hcell3, hsz3⟩ := conv_const (P := Tryd.prog) v2 129 5 g #[.int .u8 115, .int .u8 101, .int .u8 97, .int .u8 108] 4 4 Tryd.underlying129 Tryd.underlying5 hrow2
        have hb3 : Below (w.heap.size + 2) w2 v3 := (hb2).trans (hbc3.mono hgl1)
        refine turn_do rfl rfl (v := .slice (some ⟨g, 0, none⟩) 4 4) (exec_conv rfl rfl hc3) (hb3.mono (by omega)) ?_
        simp only [Act.put, List.setIfInBounds_toArray, List.set_cons_succ, List.set_cons_zero]
        have hs3 : v3.rangeAt g 0 ([(115 : UInt8), 101, 97, 108].map vu8) := fun j v hj => hcell3 _ _ (row_cell hrow2 (by rw [Nat.zero_add, ← Array.getElem?_toList]; exact hj))
        have hg3 : g < v3.heap.size := by rw [hsz3]; exact hlt2
        have hd3 : Sl rU8 v3 (fun k => k < v3.heap.size) A2 (hdL { h with sel := Z32 }).length c2 (hdL { h with sel := Z32 }) := (hd2.move (fun k hk => hko3 k (by have := hlt1; omega))).mono (fun k hk => by rw [hsz3]; exact hk.2)
        exact key _ _ ⟨_, g, A2, c2, rfl, (sl_part hs3 rfl (by decide)).mono (fun k hk => by rw [hk]; exact hg3), hd3, hb3⟩
    · refine turn_call (f := 84) (args := #[.agg cz]) rfl rfl rfl Tryd.func84 (by kernel_rfl) rfl (by simp only [List.map_toArray, List.map_cons, List.map_nil]; rfl) ?_
      refine (Header_calls wd _ HKZ.out cz HCZ.out).mono ?_
      rintro e v1 ⟨A2, c2, rfl, ho1, hbc1⟩
      have hb1 : Below (w.heap.size + 2) w2 v1 := (HS5.out).trans (hbc1.mono (by have := (HS5.out).size; have := HS2.out; omega))
      refine ⟨_, rfl, hb1.mono (by omega), ?_⟩
      simp only [Act.put, List.setIfInBounds_toArray, List.set_cons_succ, List.set_cons_zero]
      have hd1 : Sl rU8 v1 (fun k => k < v1.heap.size) A2 (hdL { h with sel := Z32 }).length c2 (hdL { h with sel := Z32 }) := Sl.mono ho1.out (fun k hk => hk.2)
      have hb2 : Below (w.heap.size + 2) w2 (v1.alloc (.cells #[.int .u8 115, .int .u8 101, .int .u8 97, .int .u8 108] 5)) := (hb1).alloc (by have := (hb1).size; have := HS2.out; omega) _
      refine turn_do rfl rfl (v := .slice (some ⟨v1.heap.size, 0, none⟩) 4 4) (w' := v1.alloc (.cells #[.int .u8 115, .int .u8 101, .int .u8 97, .int .u8 108] 5)) (by go_simp; first | done | rfl) (hb2.mono (by omega)) ?_
      simp only [Act.put, List.setIfInBounds_toArray, List.set_cons_succ, List.set_cons_zero]
      have hrow2 : (v1.alloc (.cells #[.int .u8 115, .int .u8 101, .int .u8 97, .int .u8 108] 5)).heap[v1.heap.size]? = some (.cells #[.int .u8 115, .int .u8 101, .int .u8 97, .int .u8 108] 5 (0, 0)) := heap_alloc_new _ _
      have hlt2 : v1.heap.size < (v1.alloc (.cells #[.int .u8 115, .int .u8 101, .int .u8 97, .int .u8 108] 5)).heap.size := by simp
      have hgl2 : w.heap.size + 2 ≤ v1.heap.size := by have := (hb1).size; have := HS2.out; omega
      have hd2 : Sl rU8 (v1.alloc (.cells #[.int .u8 115, .int .u8 101, .int .u8 97, .int .u8 108] 5)) (fun k => k < v1.heap.size) A2 (hdL { h with sel := Z32 }).length c2 (hdL { h with sel := Z32 }) := hd1.move (Same.of_below ((Below.refl _ _).alloc (Nat.le_refl _) _) (fun k hk => hk))
      generalize v1.heap.size = g at hrow2 hlt2 hgl2 hd2 ⊢
      generalize v1.alloc (.cells #[.int .u8 115, .int .u8 101, .int .u8 97, .int .u8 108] 5) = v2 at hb2 hrow2 hlt2 hd2 ⊢
      obtain ⟨v3, hc3, hbc3, hko3, hcell3, hsz3⟩ := conv_const (P := Tryd.prog) v2 129 5 g #[.int .u8 115, .int .u8 101, .int .u8 97, .int .u8 108] 4 4 Tryd.underlying129 Tryd.underlying5 hrow2
      have hb3 : Below (w.heap.size + 2) w2 v3 := (hb2).trans (hbc3.mono hgl2)
      refine turn_do rfl rfl (v := .slice (some ⟨g, 0, none⟩) 4 4) (exec_conv rfl rfl hc3) (hb3.mono (by omega)) ?_
      simp only [Act.put, List.setIfInBounds_toArray, List.set_cons_succ, List.set_cons_zero]
      have hs3 : v3.rangeAt g 0 ([(115 : UInt8), 101, 97, 108].map vu8) := fun j v hj => hcell3 _ _ (row_cell hrow2 (by rw [Nat.zero_add, ← Array.getElem?_toList]; exact hj))
      have hg3 : g < v3.heap.size := by rw [hsz3]; exact hlt2
      have hd3 : Sl rU8 v3 (fun k => k < v3.heap.size) A2 (hdL { h with sel := Z32 }).length c2 (hdL { h with sel := Z32 }) := (hd2.move (fun k hk => hko3 k (by omega))).mono (fun k hk => by rw [hsz3]; exact Nat.lt_trans hk hlt2)
      exact key _ _ ⟨_, g, A2, c2, rfl, (sl_part hs3 rfl (by decide)).mono (fun k hk => by rw [hk]; exact hg3), hd3, hb3⟩
end Go.Proofs.YtkmcjokoinoahaaDoor.SealB
