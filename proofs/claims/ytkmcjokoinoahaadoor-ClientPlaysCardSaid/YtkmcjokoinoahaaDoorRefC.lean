/- ferrymanref01.Header: a contract over any world. -/
import Derived.Test.YtkmcjokoinoahaaDoorRefB
import Derived.Test.YtkmcjokoinoahaaDoorRegD
set_option linter.unusedVariables false
set_option linter.unusedSimpArgs false
namespace Go.Proofs.YtkmcjokoinoahaaDoor.RefC
open Go.RowKit Go.Proofs.YtkmcjokoinoahaaDoor.Lib Go.Proofs.YtkmcjokoinoahaaDoor.LibB Go.Proofs.YtkmcjokoinoahaaDoor.Reg Go.Proofs.YtkmcjokoinoahaaDoor.RegC Go.Proofs.YtkmcjokoinoahaaDoor.RegD Go.Proofs.YtkmcjokoinoahaaDoor.TlvA Go.Proofs.YtkmcjokoinoahaaDoor.TlvF Go.Proofs.YtkmcjokoinoahaaDoor.TlvI Go.Proofs.YtkmcjokoinoahaaDoor.PlainT Go.Proofs.YtkmcjokoinoahaaDoor.PlainS Go.Proofs.YtkmcjokoinoahaaDoor.ShaB Go.Proofs.YtkmcjokoinoahaaDoor.ShaC Go.Proofs.YtkmcjokoinoahaaDoor.ShaE Go.Proofs.YtkmcjokoinoahaaDoor.PlainP Go.Proofs.YtkmcjokoinoahaaDoor.ParcelB Go.Proofs.YtkmcjokoinoahaaDoor.SealA Go.Proofs.YtkmcjokoinoahaaDoor.SealB Go.Proofs.YtkmcjokoinoahaaDoor.ClientA Go.Proofs.YtkmcjokoinoahaaDoor.RefA Go.Proofs.YtkmcjokoinoahaaDoor.RefB
theorem hd_lens {h : Hd} (k : h.ok) : (putL [] 1 (numL h.ht)).length ≤ 200 ∧ (putL (putL [] 1 (numL h.ht)) 2 (numL h.tm)).length ≤ 200 ∧ (putH (putL (putL [] 1 (numL h.ht)) 2 (numL h.tm)) 3 h.root).length ≤ 200 ∧ (putH (putH (putL (putL [] 1 (numL h.ht)) 2 (numL h.tm)) 3 h.root) 4 h.vals).length ≤ 200 ∧ (putH (putH (putH (putL (putL [] 1 (numL h.ht)) 2 (numL h.tm)) 3 h.root) 4 h.vals) 5 h.next).length ≤ 200 := by
  simp only [putH_eq]
  have hs : ∀ x : List UInt8, x.length = 32 → (hashF x).length ≤ 32 := by intro x hx; unfold hashF; split <;> simp [hx]
  have h1 := putL_len [] 1 (numL h.ht)
  have h2 := putL_len (putL [] 1 (numL h.ht)) 2 (numL h.tm)
  have h3 := putL_len (putL (putL [] 1 (numL h.ht)) 2 (numL h.tm)) 3 (hashF h.root)
  have h4 := putL_len (putL (putL (putL [] 1 (numL h.ht)) 2 (numL h.tm)) 3 (hashF h.root)) 4 (hashF h.vals)
  have h5 := putL_len (putL (putL (putL (putL [] 1 (numL h.ht)) 2 (numL h.tm)) 3 (hashF h.root)) 4 (hashF h.vals)) 5 (hashF h.next)
  have n1 := num_len h.ht
  have n2 := num_len h.tm
  have r1 := hs _ k.root
  have r2 := hs _ k.vals
  have r3 := hs _ k.next
  simp only [List.length_nil] at h1
  omega
set_option maxHeartbeats 8000000 in
set_option maxRecDepth 100000 in
theorem RHeader_calls (w : World) (h : Hd) (hk : h.ok) (cs : Array Value) (hcs : cs.toList = hdC h) :
    Calls Tryd.prog 68 #[.agg cs] w fun e w' => ∃ A c, e = .returned (.slice A (hdL h).length c) ∧ At w' A c (hdL h) ∧ Below w.heap.size w w' := by
  have HK := Fact.mk hk
  have HCS := Fact.mk hcs
  clear hk hcs
  have HR0 : Fact ((w.alloc (.cells cs 54)).heap[w.heap.size]? = some (.cells cs 54 (0, 0))) := ⟨heap_alloc_new _ _⟩
  have HB0 : Fact (Below w.heap.size w (w.alloc (.cells cs 54))) := ⟨(Below.refl _ _).alloc (Nat.le_refl _) _⟩
  have HS0 : Fact ((w.alloc (.cells cs 54)).heap.size = w.heap.size + 1) := ⟨by simp⟩
  have l1 := num_len h.ht
  have l2 := num_len h.tm
  have LEN := Fact.mk (hd_lens HK.out)
  go_enter Tryd.func68, Tryd.ntmps68
  go_wp2_with fail
  generalize w.alloc (.cells cs 54) = w2 at HR0 HB0 HS0 ⊢
  have HP : Fact (∀ W, Below (w.heap.size + 1) w2 W → W.cell? ⟨w.heap.size, 0, none⟩ = some (.int .u64 (h.ht : Int)) ∧ W.cell? ⟨w.heap.size, 1, none⟩ = some (.int .u64 (h.tm : Int)) ∧ W.rangeAt w.heap.size 2 (h.root.map vu8) ∧ W.rangeAt w.heap.size 34 (h.vals.map vu8) ∧ W.rangeAt w.heap.size 66 (h.next.map vu8) ∧ W.rangeAt w.heap.size 98 (h.sel.map vu8)) := ⟨fun W hS => hd_parts HK.out HCS.out ((hS.block _ (by omega)).trans HR0.out)⟩
  refine wp_region_P (fun W => Below (w.heap.size + 1) w2 W) (.tell 0 (.tell 1 (.tell 4 (.tell 5 (.one 2 (.one 3 (.one 6 (.one 7 (.tell 8 .done))))))))) (by kernel_rfl) (by kernel_rfl) (by kernel_rfl) (by intro c a d v w h; cases d <;> exact h) (Below.refl _ _).drew ?_
  have HS5 : Fact (Below (w.heap.size + 1) w2 w2.drew) := ⟨(Below.refl _ _).drew⟩
  generalize w2.drew = wd at HS5 ⊢
  refine plan_tell rfl rfl (fun W hS => by
    have p1 := (HP.out W hS).1
    have p2 := (HP.out W hS).2.1
    go_simp
    first | done | rfl) ?_
  simp only [List.getElem_toArray, List.getElem_cons_succ, List.getElem_cons_zero, Act.put, List.setIfInBounds_toArray, List.set_cons_succ, List.set_cons_zero]
  refine plan_tell rfl rfl (fun W hS => by
    have p1 := (HP.out W hS).1
    have p2 := (HP.out W hS).2.1
    go_simp
    first | done | rfl) ?_
  simp only [List.getElem_toArray, List.getElem_cons_succ, List.getElem_cons_zero, Act.put, List.setIfInBounds_toArray, List.set_cons_succ, List.set_cons_zero]
  refine plan_tell rfl rfl (fun W hS => by
    have p1 := (HP.out W hS).1
    have p2 := (HP.out W hS).2.1
    go_simp
    first | done | rfl) ?_
  simp only [List.getElem_toArray, List.getElem_cons_succ, List.getElem_cons_zero, Act.put, List.setIfInBounds_toArray, List.set_cons_succ, List.set_cons_zero]
  refine plan_tell rfl rfl (fun W hS => by
    have p1 := (HP.out W hS).1
    have p2 := (HP.out W hS).2.1
    go_simp
    first | done | rfl) ?_
  simp only [List.getElem_toArray, List.getElem_cons_succ, List.getElem_cons_zero, Act.put, List.setIfInBounds_toArray, List.set_cons_succ, List.set_cons_zero]
  refine share (.one 7 (.tell 8 .done)) (fun a W => ∃ n6 A7 c7 A10 c10, a = ⟨#[.agg cs, .pointer (some ⟨w.heap.size, 0, none⟩), .slice none 0 0, undef, .pointer (some ⟨w.heap.size, 0, none⟩), .int .u64 (h.ht : Int), n6, .slice A7 (putL [] 1 (numL h.ht)).length c7, .pointer (some ⟨w.heap.size, 1, none⟩), .int .u64 (h.tm : Int), .slice A10 (numL h.tm).length c10, undef, undef, undef, undef, undef, undef, undef, undef, undef, undef, undef, undef, undef, undef], []⟩ ∧ At W A7 c7 (putL [] 1 (numL h.ht)) ∧ At W A10 c10 (numL h.tm) ∧ Below (w.heap.size + 1) w2 W) ?_ ?_
  · rintro a W ⟨n6, A7, c7, A10, c10, rfl, a7, a10, HS⟩
    refine turn_call (f := 80) (args := #[.slice A7 (putL [] 1 (numL h.ht)).length c7, .int .u8 2, .slice A10 (numL h.tm).length c10]) rfl rfl rfl Tryd.func80 (by kernel_rfl) rfl (by simp only [List.map_toArray, List.map_cons, List.map_nil]; rfl) ?_
    refine (put_at W a7 2 2 rfl a10 (Nat.le_trans LEN.out.1 (by decide)) (by omega)).mono ?_
    rintro e v1 ⟨A, c, rfl, ha, hb⟩
    have hb' : Below (w.heap.size + 1) w2 v1 := HS.trans (hb.mono (by have := HS.size; have := HS0.out; omega))
    refine ⟨_, rfl, hb', ?_⟩
    simp only [List.getElem_toArray, List.getElem_cons_succ, List.getElem_cons_zero, Act.put, List.setIfInBounds_toArray, List.set_cons_succ, List.set_cons_zero]
    refine plan_tell rfl rfl (fun W hS => by
      go_simp
      first | done | rfl) ?_
    simp only [List.getElem_toArray, List.getElem_cons_succ, List.getElem_cons_zero, Act.put, List.setIfInBounds_toArray, List.set_cons_succ, List.set_cons_zero]
    have HB1 : Fact (Below (w.heap.size + 1) w2 v1) := ⟨hb'⟩
    have HA := Fact.mk ha
    clear hb hb' ha a7 a10 HS
    change wpPlan _ _ _ _ .done ⟨#[.agg cs, .pointer (some ⟨w.heap.size, 0, none⟩), .slice none 0 0, .slice A (putL (putL [] 1 (numL h.ht)) 2 (numL h.tm)).length c, .pointer (some ⟨w.heap.size, 0, none⟩), .int .u64 (h.ht : Int), n6, .slice A7 (putL [] 1 (numL h.ht)).length c7, .pointer (some ⟨w.heap.size, 1, none⟩), .int .u64 (h.tm : Int), .slice A10 (numL h.tm).length c10, .slice A (putL (putL [] 1 (numL h.ht)) 2 (numL h.tm)).length c, undef, undef, undef, undef, undef, undef, undef, undef, undef, undef, undef, undef, undef], []⟩ v1
    unfold wpPlan
    go_wp2_with fail
    obtain ⟨cr, hcr⟩ : ∃ cr : Array Value, cr = (h.root.map vu8).toArray := ⟨_, rfl⟩
    obtain ⟨cv, hcv⟩ : ∃ cv : Array Value, cv = (h.vals.map vu8).toArray := ⟨_, rfl⟩
    obtain ⟨cn, hcn⟩ : ∃ cn : Array Value, cn = (h.next.map vu8).toArray := ⟨_, rfl⟩
    obtain ⟨ct, hct⟩ : ∃ ct : Array Value, ct = (h.sel.map vu8).toArray := ⟨_, rfl⟩
    have HCR : Fact (cr.toList = h.root.map vu8) := ⟨by rw [hcr]⟩
    have HCV : Fact (cv.toList = h.vals.map vu8) := ⟨by rw [hcv]⟩
    have HCN : Fact (cn.toList = h.next.map vu8) := ⟨by rw [hcn]⟩
    have HCT : Fact (ct.toList = h.sel.map vu8) := ⟨by rw [hct]⟩
    have HLR : Fact (∀ W, Below (w.heap.size + 1) w2 W → (Instr.loadAt 52 (.pointer (some ⟨w.heap.size, 2, none⟩))).run Tryd.prog W = .ok (.agg cr) W) := ⟨fun W hS => by rw [hcr]; exact load_hash HK.out.root (HP.out W hS).2.2.1⟩
    have HLV : Fact (∀ W, Below (w.heap.size + 1) w2 W → (Instr.loadAt 52 (.pointer (some ⟨w.heap.size, 34, none⟩))).run Tryd.prog W = .ok (.agg cv) W) := ⟨fun W hS => by rw [hcv]; exact load_hash HK.out.vals (HP.out W hS).2.2.2.1⟩
    have HLN : Fact (∀ W, Below (w.heap.size + 1) w2 W → (Instr.loadAt 52 (.pointer (some ⟨w.heap.size, 66, none⟩))).run Tryd.prog W = .ok (.agg cn) W) := ⟨fun W hS => by rw [hcn]; exact load_hash HK.out.next (HP.out W hS).2.2.2.2.1⟩
    have HLT : Fact (∀ W, Below (w.heap.size + 1) w2 W → (Instr.loadAt 52 (.pointer (some ⟨w.heap.size, 98, none⟩))).run Tryd.prog W = .ok (.agg ct) W) := ⟨fun W hS => by rw [hct]; exact load_hash HK.out.sel (HP.out W hS).2.2.2.2.2⟩
    clear hcr hcv hcn hct
    refine wp_region_P (fun W => Below (w.heap.size + 1) w2 W) (.tell 0 (.tell 1 (.tell 2 (.tell 4 (.tell 5 (.tell 7 (.tell 8 (.tell 10 (.tell 11 (.one 3 (.one 6 (.one 9 (.one 12 (.tell 13 .done)))))))))))))) (by kernel_rfl) (by kernel_rfl) (by kernel_rfl) (by intro c a d v w h; cases d <;> exact h) HB1.out.drew ?_
    have HB2 : Fact (Below (w.heap.size + 1) w2 v1.drew) := ⟨HB1.out.drew⟩
    have HA2 : Fact (At v1.drew A c (putL (putL [] 1 (numL h.ht)) 2 (numL h.tm))) := ⟨HA.out.go (Below.refl _ _).drew⟩
    clear HB1 HA
    generalize v1.drew = v2 at HB2 HA2 ⊢
    refine plan_tell rfl rfl (fun W hS => by
      go_simp
      first | done | rfl) ?_
    simp only [List.getElem_toArray, List.getElem_cons_succ, List.getElem_cons_zero, Act.put, List.setIfInBounds_toArray, List.set_cons_succ, List.set_cons_zero]
    refine plan_tell rfl rfl (fun W hS => by
      go_simp
      first | done | rfl) ?_
    simp only [List.getElem_toArray, List.getElem_cons_succ, List.getElem_cons_zero, Act.put, List.setIfInBounds_toArray, List.set_cons_succ, List.set_cons_zero]
    refine plan_tell rfl rfl (v := .agg cr) (fun W hS => exec_loadAt rfl rfl (HLR.out W hS)) ?_
    simp only [List.getElem_toArray, List.getElem_cons_succ, List.getElem_cons_zero, Act.put, List.setIfInBounds_toArray, List.set_cons_succ, List.set_cons_zero]
    refine plan_tell rfl rfl (fun W hS => by
      go_simp
      first | done | rfl) ?_
    simp only [List.getElem_toArray, List.getElem_cons_succ, List.getElem_cons_zero, Act.put, List.setIfInBounds_toArray, List.set_cons_succ, List.set_cons_zero]
    refine plan_tell rfl rfl (v := .agg cv) (fun W hS => exec_loadAt rfl rfl (HLV.out W hS)) ?_
    simp only [List.getElem_toArray, List.getElem_cons_succ, List.getElem_cons_zero, Act.put, List.setIfInBounds_toArray, List.set_cons_succ, List.set_cons_zero]
    refine plan_tell rfl rfl (fun W hS => by
      go_simp
      first | done | rfl) ?_
    simp only [List.getElem_toArray, List.getElem_cons_succ, List.getElem_cons_zero, Act.put, List.setIfInBounds_toArray, List.set_cons_succ, List.set_cons_zero]
    refine plan_tell rfl rfl (v := .agg cn) (fun W hS => exec_loadAt rfl rfl (HLN.out W hS)) ?_
    simp only [List.getElem_toArray, List.getElem_cons_succ, List.getElem_cons_zero, Act.put, List.setIfInBounds_toArray, List.set_cons_succ, List.set_cons_zero]
    refine plan_tell rfl rfl (fun W hS => by
      go_simp
      first | done | rfl) ?_
    simp only [List.getElem_toArray, List.getElem_cons_succ, List.getElem_cons_zero, Act.put, List.setIfInBounds_toArray, List.set_cons_succ, List.set_cons_zero]
    refine plan_tell rfl rfl (v := .agg ct) (fun W hS => exec_loadAt rfl rfl (HLT.out W hS)) ?_
    simp only [List.getElem_toArray, List.getElem_cons_succ, List.getElem_cons_zero, Act.put, List.setIfInBounds_toArray, List.set_cons_succ, List.set_cons_zero]
    refine turn_call (f := 82) (args := #[.slice A (putL (putL [] 1 (numL h.ht)) 2 (numL h.tm)).length c, .int .u8 3, .agg cr]) rfl rfl rfl Tryd.func82 (by kernel_rfl) rfl (by simp only [List.map_toArray, List.map_cons, List.map_nil]; rfl) ?_
    refine (hash_at v2 HA2.out 3 3 rfl (Nat.le_trans LEN.out.2.1 (by decide)) cr h.root HCR.out HK.out.root).mono ?_
    rintro e u0 ⟨A0', c0', rfl, ha0, hb0⟩
    have hB0 : Below (w.heap.size + 1) w2 u0 := (HB2.out).trans (hb0.mono (by have := (HB2.out).size; have := HS0.out; omega))
    refine ⟨_, rfl, hB0, ?_⟩
    simp only [List.getElem_toArray, List.getElem_cons_succ, List.getElem_cons_zero, Act.put, List.setIfInBounds_toArray, List.set_cons_succ, List.set_cons_zero]
    refine turn_call (f := 82) (args := #[.slice A0' (putH (putL (putL [] 1 (numL h.ht)) 2 (numL h.tm)) 3 h.root).length c0', .int .u8 4, .agg cv]) rfl rfl rfl Tryd.func82 (by kernel_rfl) rfl (by simp only [List.map_toArray, List.map_cons, List.map_nil]; rfl) ?_
    refine (hash_at u0 ha0 4 4 rfl (Nat.le_trans LEN.out.2.2.1 (by decide)) cv h.vals HCV.out HK.out.vals).mono ?_
    rintro e u1 ⟨A1', c1', rfl, ha1, hb1⟩
    have hB1 : Below (w.heap.size + 1) w2 u1 := (hB0).trans (hb1.mono (by have := (hB0).size; have := HS0.out; omega))
    refine ⟨_, rfl, hB1, ?_⟩
    simp only [List.getElem_toArray, List.getElem_cons_succ, List.getElem_cons_zero, Act.put, List.setIfInBounds_toArray, List.set_cons_succ, List.set_cons_zero]
    refine turn_call (f := 82) (args := #[.slice A1' (putH (putH (putL (putL [] 1 (numL h.ht)) 2 (numL h.tm)) 3 h.root) 4 h.vals).length c1', .int .u8 5, .agg cn]) rfl rfl rfl Tryd.func82 (by kernel_rfl) rfl (by simp only [List.map_toArray, List.map_cons, List.map_nil]; rfl) ?_
    refine (hash_at u1 ha1 5 5 rfl (Nat.le_trans LEN.out.2.2.2.1 (by decide)) cn h.next HCN.out HK.out.next).mono ?_
    rintro e u2 ⟨A2', c2', rfl, ha2, hb2⟩
    have hB2 : Below (w.heap.size + 1) w2 u2 := (hB1).trans (hb2.mono (by have := (hB1).size; have := HS0.out; omega))
    refine ⟨_, rfl, hB2, ?_⟩
    simp only [List.getElem_toArray, List.getElem_cons_succ, List.getElem_cons_zero, Act.put, List.setIfInBounds_toArray, List.set_cons_succ, List.set_cons_zero]
    refine turn_call (f := 82) (args := #[.slice A2' (putH (putH (putH (putL (putL [] 1 (numL h.ht)) 2 (numL h.tm)) 3 h.root) 4 h.vals) 5 h.next).length c2', .int .u8 6, .agg ct]) rfl rfl rfl Tryd.func82 (by kernel_rfl) rfl (by simp only [List.map_toArray, List.map_cons, List.map_nil]; rfl) ?_
    refine (hash_at u2 ha2 6 6 rfl (Nat.le_trans LEN.out.2.2.2.2 (by decide)) ct h.sel HCT.out HK.out.sel).mono ?_
    rintro e u3 ⟨A3', c3', rfl, ha3, hb3⟩
    have hB3 : Below (w.heap.size + 1) w2 u3 := (hB2).trans (hb3.mono (by have := (hB2).size; have := HS0.out; omega))
    refine ⟨_, rfl, hB3, ?_⟩
    simp only [List.getElem_toArray, List.getElem_cons_succ, List.getElem_cons_zero, Act.put, List.setIfInBounds_toArray, List.set_cons_succ, List.set_cons_zero]
    refine plan_tell rfl rfl (fun W hS => by
      go_simp
      first | done | rfl) ?_
    simp only [List.getElem_toArray, List.getElem_cons_succ, List.getElem_cons_zero, Act.put, List.setIfInBounds_toArray, List.set_cons_succ, List.set_cons_zero]
    have HF : Fact (Below w.heap.size w u3) := ⟨HB0.out.trans (hB3.mono (by omega))⟩
    have HAF : Fact (At u3 A3' c3' (hdL h)) := ⟨ha3⟩
    have HLF : Fact ((putH (putH (putH (putH (putL (putL [] 1 (numL h.ht)) 2 (numL h.tm)) 3 h.root) 4 h.vals) 5 h.next) 6 h.sel) = hdL h) := ⟨rfl⟩
    clear ha0 ha1 ha2 ha3 hB0 hB1 hB2 hB3 hb0 hb1 hb2 hb3
    change wpPlan _ _ _ _ .done ⟨#[.agg cs, .pointer (some ⟨w.heap.size, 0, none⟩), .slice A3' (hdL h).length c3', _, _, _, _, _, _, _, _, _, _, _, _, _, _, _, _, _, _, _, _, _, _], []⟩ u3
    unfold wpPlan
    go_wp2_with fail
    go_ret
    exact ⟨A3', c3', rfl, HAF.out, HF.out⟩
  · intro key
    refine turn_call (f := 81) (args := #[.int .u64 (h.ht : Int)]) rfl rfl rfl Tryd.func81 (by kernel_rfl) rfl (by simp only [List.map_toArray, List.map_cons, List.map_nil]; rfl) ?_
    refine (num_at wd h.ht HK.out.ht).mono ?_
    rintro e x1 ⟨A6, c6, rfl, a6, b6⟩
    have B6 : Below (w.heap.size + 1) w2 x1 := (HS5.out).trans (b6.mono (by have := (HS5.out).size; have := HS0.out; omega))
    refine ⟨_, rfl, B6, ?_⟩
    simp only [List.getElem_toArray, List.getElem_cons_succ, List.getElem_cons_zero, Act.put, List.setIfInBounds_toArray, List.set_cons_succ, List.set_cons_zero]
    have an : At x1 none 0 [] := Sl.nil _ _ _ _ _ (by decide)
    refine turn_call (f := 80) (args := #[.slice none 0 0, .int .u8 1, .slice A6 (numL h.ht).length c6]) rfl rfl rfl Tryd.func80 (by kernel_rfl) rfl (by simp only [List.map_toArray, List.map_cons, List.map_nil]; rfl) ?_
    refine (put_at x1 an 1 1 rfl (a6) (by simp) (by omega)).mono ?_
    rintro e x2 ⟨A7, c7, rfl, a7, b7⟩
    have B7 : Below (w.heap.size + 1) w2 x2 := (B6).trans (b7.mono (by have := (B6).size; have := HS0.out; omega))
    refine ⟨_, rfl, B7, ?_⟩
    simp only [List.getElem_toArray, List.getElem_cons_succ, List.getElem_cons_zero, Act.put, List.setIfInBounds_toArray, List.set_cons_succ, List.set_cons_zero]
    refine turn_call (f := 81) (args := #[.int .u64 (h.tm : Int)]) rfl rfl rfl Tryd.func81 (by kernel_rfl) rfl (by simp only [List.map_toArray, List.map_cons, List.map_nil]; rfl) ?_
    refine (num_at x2 h.tm HK.out.tm).mono ?_
    rintro e x3 ⟨A10, c10, rfl, a10, b10⟩
    have B10 : Below (w.heap.size + 1) w2 x3 := (B7).trans (b10.mono (by have := (B7).size; have := HS0.out; omega))
    refine ⟨_, rfl, B10, ?_⟩
    simp only [List.getElem_toArray, List.getElem_cons_succ, List.getElem_cons_zero, Act.put, List.setIfInBounds_toArray, List.set_cons_succ, List.set_cons_zero]
    exact key _ _ ⟨_, A7, c7, A10, c10, rfl, a7.go b10, a10, B10⟩
end Go.Proofs.YtkmcjokoinoahaaDoor.RefC
