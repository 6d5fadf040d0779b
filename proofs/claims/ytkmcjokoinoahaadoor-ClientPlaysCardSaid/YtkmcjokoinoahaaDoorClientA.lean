/- client: what a client is in memory; of, over any world. -/
import Derived.Test.YtkmcjokoinoahaaDoorSealB
import Derived.Test.YtkmcjokoinoahaaDoorHdKit
set_option linter.unusedVariables false
set_option linter.unusedSimpArgs false
namespace Go.Proofs.YtkmcjokoinoahaaDoor.ClientA
open Go.RowKit Go.Proofs.YtkmcjokoinoahaaDoor.Lib Go.Proofs.YtkmcjokoinoahaaDoor.LibB Go.Proofs.YtkmcjokoinoahaaDoor.Reg Go.Proofs.YtkmcjokoinoahaaDoor.RegC Go.Proofs.YtkmcjokoinoahaaDoor.PlainS Go.Proofs.YtkmcjokoinoahaaDoor.ShaB Go.Proofs.YtkmcjokoinoahaaDoor.ShaC Go.Proofs.YtkmcjokoinoahaaDoor.ShaD Go.Proofs.YtkmcjokoinoahaaDoor.ShaDS Go.Proofs.YtkmcjokoinoahaaDoor.ShaE Go.Proofs.YtkmcjokoinoahaaDoor.PlainP Go.Proofs.YtkmcjokoinoahaaDoor.ParcelB Go.Proofs.YtkmcjokoinoahaaDoor.HdKit Go.Proofs.YtkmcjokoinoahaaDoor.SealA Go.Proofs.YtkmcjokoinoahaaDoor.SealB
/-- What was known at a height. -/
structure Stt where
  ht : Nat
  tm : Nat
  root : List UInt8
  next : List UInt8
  all : List UInt8
structure Stt.ok (s : Stt) : Prop where
  ht : s.ht < 18446744073709551616
  tm : s.tm < 18446744073709551616
  root : s.root.length = 32
  next : s.next.length = 32
  all : s.all.length = 32
def stC (s : Stt) : List Value := [.int .u64 (s.ht : Int), .int .u64 (s.tm : Int)] ++ (s.root.map vu8 ++ (s.next.map vu8 ++ s.all.map vu8))
theorem stC_len {s : Stt} (h : s.ok) : (stC s).length = 98 := by simp [stC, h.root, h.next, h.all]
theorem stC_one (s : Stt) : ∀ u ∈ stC s, u.oneCell' = true := by
  intro u hu
  simp only [stC, List.cons_append, List.nil_append, List.mem_cons, List.mem_append, List.mem_map] at hu
  rcases hu with rfl | rfl | ⟨_, _, rfl⟩ | ⟨_, _, rfl⟩ | ⟨_, _, rfl⟩ <;> rfl
def rSt : Rep Stt where
  sz := 98
  K := fun _ _ s cs => cs = stC s ∧ s.ok
  len := by rintro w F x cs ⟨rfl, h⟩; exact stC_len h
  one := by rintro w F x cs ⟨rfl, h⟩; exact stC_one x
  move := fun _ h => h
  mono := fun _ h => h
/-- What a header says. -/
def ofH (h : Hd) : Stt := ⟨h.ht, h.tm, h.root, h.next, shaL (sealB h)⟩
theorem ofH_ok {h : Hd} (k : h.ok) : (ofH h).ok := ⟨k.ht, k.tm, k.root, k.next, sha_len _⟩
theorem oneA {s : Stt} {ds : Array Value} (h : ds.toList = stC s) : ds.all (·.oneCell') = true := by
  rw [Array.all_eq_true_iff_forall_mem]
  intro v hv
  exact stC_one s v (by rw [← h]; simpa using hv)
theorem sizeA {s : Stt} {ds : Array Value} (h : ds.toList = stC s) (k : s.ok) : ds.size = 98 := by rw [← Array.length_toList, h, stC_len k]
theorem infoA {s : Stt} {ds : Array Value} (h : ds.toList = stC s) (k : s.ok) : (Tryd.prog.info? 122).map (·.size) = some ds.size := by rw [sizeA h k]; kernel_rfl
theorem state_u : ∃ fs, Tryd.prog.underlying 122 = some (.struct fs) := ⟨_, Tryd.underlying122⟩
def zStt : Stt := ⟨0, 0, Z32, Z32, Z32⟩
def zStA : Array Value := (stC zStt).toArray
theorem zStt_ok : zStt.ok := ⟨by decide, by decide, Z32_len, Z32_len, Z32_len⟩
theorem zStA_size : zStA.size = 98 := sizeA (s := zStt) (ds := zStA) rfl zStt_ok
theorem alloc_st (W : World) : (Instr.alloc 122 true (.tuple #[])).run Tryd.prog W = .ok (.pointer (some ⟨W.heap.size, 0, none⟩)) (W.alloc (.cells zStA 122)) := by kernel_rfl
def plSt : Array (Nat × Nat) := #[(0, 1), (1, 1), (2, 32), (34, 32), (66, 32)]
theorem builtS_eq (ps : List (Nat × Value)) : Tryd.prog.built 122 ps = Instr.fill (plSt[·]?) zStA ps := by kernel_rfl
theorem built_st (s : Stt) (k : s.ok) (c d e : Array Value) (hc : c.toList = s.root.map vu8) (hd : d.toList = s.next.map vu8) (he : e.toList = s.all.map vu8) :
    Tryd.prog.built 122 [(0, .int .u64 (s.ht : Int)), (1, .int .u64 (s.tm : Int)), (2, .agg c), (3, .agg d), (4, .agg e)] = some (stC s).toArray := by
  have l1 : (s.root.map vu8).length = 32 := by rw [List.length_map, k.root]
  have l2 : (s.next.map vu8).length = 32 := by rw [List.length_map, k.next]
  have l3 : (s.all.map vu8).length = 32 := by rw [List.length_map, k.all]
  rw [builtS_eq]
  have hz : (stC zStt).length = 98 := stC_len zStt_ok
  have e0 : zStA = ([] ++ stC zStt).toArray := rfl
  rw [e0, fill_app (x := [.int .u64 (s.ht : Int)]) (by rfl) (by rfl) (by simp [hz])]
  rw [fill_app (x := [.int .u64 (s.tm : Int)]) (by rfl) (by rfl) (by simp [hz])]
  rw [fill_app (v := .agg c) (x := s.root.map vu8) (by rw [l1]; rfl) hc (by simp only [List.length_map, k.root, List.length_drop, hz, List.length_cons, List.length_nil]; decide)]
  rw [fill_app (v := .agg d) (x := s.next.map vu8) (by rw [l2, List.length_append, l1]; rfl) hd (by simp only [List.length_map, k.root, k.next, List.length_drop, hz, List.length_cons, List.length_nil]; decide)]
  rw [fill_app (v := .agg e) (x := s.all.map vu8) (by rw [l3, List.length_append, List.length_append, l1, l2]; rfl) he (by simp only [List.length_map, k.root, k.next, k.all, List.length_drop, hz, List.length_cons, List.length_nil]; decide)]
  unfold Instr.fill
  congr 1
  rw [l1, l2, l3]
  rw [List.drop_of_length_le (by simp only [List.length_drop, hz, List.length_cons, List.length_nil]; decide)]
  unfold stC
  simp
theorem exec_loadAt {P : Program} {o : Oper} {a : Act} {w : World} {ty : TypeId} {x : Operand} {p v : Value} (ho : o.op = .load ty x) (hx : a.eval x = p) (hr : (Instr.loadAt ty p).run P w = .ok v w) : (execOp a.eval o).run P w = .ok (.value v) w := by
  unfold execOp
  rw [ho]
  show ((Instr.loadAt ty (a.eval x)) >>= _).run P w = _
  rw [Sem.run_bind, hx, hr]
  rfl
theorem hd_parts {h : Hd} (k : h.ok) {cs : Array Value} (hcs : cs.toList = hdC h) {w : World} {b : Nat} {t : TypeId} (hr : w.heap[b]? = some (.cells cs t (0, 0))) :
    w.cell? ⟨b, 0, none⟩ = some (.int .u64 (h.ht : Int)) ∧ w.cell? ⟨b, 1, none⟩ = some (.int .u64 (h.tm : Int)) ∧ w.rangeAt b 2 (h.root.map vu8) ∧ w.rangeAt b 34 (h.vals.map vu8) ∧ w.rangeAt b 66 (h.next.map vu8) ∧ w.rangeAt b 98 (h.sel.map vu8) := by
  have hc : ∀ (j : Nat) v, (hdC h)[j]? = some v → w.cell? ⟨b, j, none⟩ = some v := fun j v hj => row_cell hr (by rw [← hcs] at hj; simpa using hj)
  have hp := hdC_parts k
  exact ⟨hc 0 _ rfl, hc 1 _ rfl, part_range hc hp.1, part_range hc hp.2.1, part_range hc hp.2.2.1, part_range hc hp.2.2.2⟩
set_option maxHeartbeats 8000000 in
set_option maxRecDepth 100000 in
theorem of_calls (w : World) (h : Hd) (hk : h.ok) (cs : Array Value) (hcs : cs.toList = hdC h) (hg : LaidW w) (h1 : 3 < w.heap.size) :
    Calls Tryd.prog 66 #[.agg cs] w fun e w' => (∃ ds : Array Value, e = .returned (.agg ds) ∧ Fact (ds.toList = stC (ofH h))) ∧ Below w.heap.size w w' := by
  have HK := Fact.mk hk
  have HG := Fact.mk hg
  have H1 := Fact.mk h1
  have HCS := Fact.mk hcs
  have HN : Fact (cs.size = 130) := ⟨by rw [← Array.length_toList, hcs]; simp [hdC, hk.root, hk.vals, hk.next, hk.sel]⟩
  have HI : Fact ((Tryd.prog.info? 54).map (·.size) = some cs.size) := ⟨by rw [HN.out]; kernel_rfl⟩
  clear hk hg h1 hcs
  have HR0 : Fact (((w.alloc (.cells cs 54)).alloc (.cells zStA 122)).heap[w.heap.size]? = some (.cells cs 54 (0, 0))) := ⟨by rw [Below.heap_alloc _ _ _ (by simp)]; exact heap_alloc_new _ _⟩
  have HR1 : Fact (((w.alloc (.cells cs 54)).alloc (.cells zStA 122)).heap[w.heap.size + 1]? = some (.cells zStA 122 (0, 0))) := ⟨by have := heap_alloc_new (w.alloc (.cells cs 54)) (.cells zStA 122); simpa using this⟩
  have HB0 : Fact (Below w.heap.size w ((w.alloc (.cells cs 54)).alloc (.cells zStA 122))) := ⟨((Below.refl _ _).alloc (Nat.le_refl _) _).alloc (by simp) _⟩
  have HS0 : Fact (((w.alloc (.cells cs 54)).alloc (.cells zStA 122)).heap.size = w.heap.size + 2) := ⟨by simp⟩
  go_enter Tryd.func66, Tryd.ntmps66
  go_wp2_with (refine wpList_ok rfl (ShaB.exec_alloc rfl (alloc_st _)) ?_)
  generalize (w.alloc (.cells cs 54)).alloc (.cells zStA 122) = w2 at HR0 HR1 HB0 HS0 ⊢
  dsimp only [Act.put]
  simp only [List.setIfInBounds_toArray, List.set_cons_succ, List.set_cons_zero, size_alloc']
  have HP : Fact (∀ W, Below (w.heap.size + 1) w2 W → W.cell? ⟨w.heap.size, 0, none⟩ = some (.int .u64 (h.ht : Int)) ∧ W.cell? ⟨w.heap.size, 1, none⟩ = some (.int .u64 (h.tm : Int)) ∧ W.rangeAt w.heap.size 2 (h.root.map vu8) ∧ W.rangeAt w.heap.size 34 (h.vals.map vu8) ∧ W.rangeAt w.heap.size 66 (h.next.map vu8) ∧ W.rangeAt w.heap.size 98 (h.sel.map vu8)) := ⟨fun W hS => hd_parts HK.out HCS.out ((hS.block _ (by omega)).trans HR0.out)⟩
  obtain ⟨cr, hcr⟩ : ∃ cr : Array Value, cr = (h.root.map vu8).toArray := ⟨_, rfl⟩
  obtain ⟨cn, hcn⟩ : ∃ cn : Array Value, cn = (h.next.map vu8).toArray := ⟨_, rfl⟩
  have HCR : Fact (cr.toList = h.root.map vu8) := ⟨by rw [hcr]⟩
  have HCN : Fact (cn.toList = h.next.map vu8) := ⟨by rw [hcn]⟩
  have HLR : Fact (∀ W, Below (w.heap.size + 1) w2 W → (Instr.loadAt 52 (.pointer (some ⟨w.heap.size, 2, none⟩))).run Tryd.prog W = .ok (.agg cr) W) := ⟨fun W hS => by rw [hcr]; exact load_hash HK.out.root (HP.out W hS).2.2.1⟩
  have HLN : Fact (∀ W, Below (w.heap.size + 1) w2 W → (Instr.loadAt 52 (.pointer (some ⟨w.heap.size, 66, none⟩))).run Tryd.prog W = .ok (.agg cn) W) := ⟨fun W hS => by rw [hcn]; exact load_hash HK.out.next (HP.out W hS).2.2.2.2.1⟩
  clear hcr hcn
  refine wp_region_P (fun W => Below (w.heap.size + 1) w2 W) (.tell 0 (.tell 1 (.tell 2 (.tell 3 (.tell 4 (.tell 5 (.tell 6 (.tell 7 (.tell 8 (.one 9 (.tell 10 (.one 11 .done)))))))))))) (by kernel_rfl) (by kernel_rfl) (by kernel_rfl) (by intro c a d v w h; cases d <;> exact h) (Below.refl _ _).drew ?_
  have HS5 : Fact (Below (w.heap.size + 2) w2 w2.drew) := ⟨(Below.refl _ _).drew⟩
  generalize w2.drew = wd at HS5 ⊢
  refine plan_tell rfl rfl (fun W hS => by
    have p1 := (HP.out W hS).1
    have p2 := (HP.out W hS).2.1
    go_simp
    first | done | rfl) ?_
  simp only [List.getElem_toArray, List.getElem_cons_succ, List.getElem_cons_zero, Act.put, List.setIfInBounds_toArray, List.set_cons_succ, List.set_cons_zero]
  refine plan_tell rfl rfl (fun W hS => by
    have p1 := (HP.out W hS).1
    have p2 := (HP.out W hS).2.1
    go_simp
    first | done | rfl) ?_
  simp only [List.getElem_toArray, List.getElem_cons_succ, List.getElem_cons_zero, Act.put, List.setIfInBounds_toArray, List.set_cons_succ, List.set_cons_zero]
  refine plan_tell rfl rfl (fun W hS => by
    have p1 := (HP.out W hS).1
    have p2 := (HP.out W hS).2.1
    go_simp
    first | done | rfl) ?_
  simp only [List.getElem_toArray, List.getElem_cons_succ, List.getElem_cons_zero, Act.put, List.setIfInBounds_toArray, List.set_cons_succ, List.set_cons_zero]
  refine plan_tell rfl rfl (fun W hS => by
    have p1 := (HP.out W hS).1
    have p2 := (HP.out W hS).2.1
    go_simp
    first | done | rfl) ?_
  simp only [List.getElem_toArray, List.getElem_cons_succ, List.getElem_cons_zero, Act.put, List.setIfInBounds_toArray, List.set_cons_succ, List.set_cons_zero]
  refine plan_tell rfl rfl (fun W hS => by
    have p1 := (HP.out W hS).1
    have p2 := (HP.out W hS).2.1
    go_simp
    first | done | rfl) ?_
  simp only [List.getElem_toArray, List.getElem_cons_succ, List.getElem_cons_zero, Act.put, List.setIfInBounds_toArray, List.set_cons_succ, List.set_cons_zero]
  refine plan_tell rfl rfl (v := .agg cr) (fun W hS => exec_loadAt rfl rfl (HLR.out W hS)) ?_
  simp only [List.getElem_toArray, List.getElem_cons_succ, List.getElem_cons_zero, Act.put, List.setIfInBounds_toArray, List.set_cons_succ, List.set_cons_zero]
  refine plan_tell rfl rfl (fun W hS => by
    have p1 := (HP.out W hS).1
    have p2 := (HP.out W hS).2.1
    go_simp
    first | done | rfl) ?_
  simp only [List.getElem_toArray, List.getElem_cons_succ, List.getElem_cons_zero, Act.put, List.setIfInBounds_toArray, List.set_cons_succ, List.set_cons_zero]
  refine plan_tell rfl rfl (v := .agg cn) (fun W hS => exec_loadAt rfl rfl (HLN.out W hS)) ?_
  simp only [List.getElem_toArray, List.getElem_cons_succ, List.getElem_cons_zero, Act.put, List.setIfInBounds_toArray, List.set_cons_succ, List.set_cons_zero]
  refine plan_tell rfl rfl (v := .agg cs) (fun W hS => exec_loadRow (g := w.heap.size) rfl rfl ((hS.block _ (by omega)).trans HR0.out) Tryd.underlying54 rfl HI.out) ?_
  simp only [List.getElem_toArray, List.getElem_cons_succ, List.getElem_cons_zero, Act.put, List.setIfInBounds_toArray, List.set_cons_succ, List.set_cons_zero]
  refine turn_call (f := 69) (args := #[.agg cs]) rfl rfl rfl Tryd.func69 (by kernel_rfl) rfl (by simp only [List.map_toArray, List.map_cons, List.map_nil]; rfl) ?_
  refine (Seal_calls wd h HK.out cs HCS.out (laid_move HG.out (HB0.out.trans (HS5.out.mono (by omega))) H1.out) (by have := HS5.out.size; have := HS0.out; have := H1.out; omega)).mono ?_
  rintro e w3 ⟨⟨cs3, rfl, hc3⟩, hb3⟩
  have hb3' : Below (w.heap.size + 2) w2 w3 := HS5.out.trans (hb3.mono (by have := HS5.out.size; have := HS0.out; omega))
  refine ⟨_, rfl, hb3'.mono (by omega), ?_⟩
  simp only [List.getElem_toArray, List.getElem_cons_succ, List.getElem_cons_zero, Act.put, List.setIfInBounds_toArray, List.set_cons_succ, List.set_cons_zero]
  obtain ⟨da, hda⟩ : ∃ da : Array Value, da = (stC (ofH h)).toArray := ⟨_, rfl⟩
  have HDA : Fact (da.toList = stC (ofH h)) := ⟨by rw [hda]⟩
  have HBU : Fact (Tryd.prog.built 122 [(0, .int .u64 (h.ht : Int)), (1, .int .u64 (h.tm : Int)), (2, .agg cr), (3, .agg cn), (4, .agg cs3)] = some da) := ⟨by rw [hda]; exact built_st (ofH h) (ofH_ok HK.out) cr cn cs3 HCR.out HCN.out hc3.out⟩
  clear hda
  have HR3 : Fact (w3.heap[w.heap.size + 1]? = some (.cells zStA 122 (0, 0))) := ⟨(hb3'.block _ (by omega)).trans HR1.out⟩
  have HSA : Fact (zStA.size = da.size) := ⟨by rw [zStA_size, sizeA HDA.out (ofH_ok HK.out)]⟩
  have HIA : Fact ((Tryd.prog.info? 122).map (·.size) = some da.size) := ⟨infoA HDA.out (ofH_ok HK.out)⟩
  have HB3 : Fact (Below (w.heap.size + 1) w2 w3) := ⟨hb3'.mono (by omega)⟩
  clear hb3' hb3 hc3
  refine plan_tell rfl rfl (v := .agg da) (fun W hS => exec_build rfl (by simp only [List.map_toArray, List.map_cons, List.map_nil]; rfl) HBU.out) ?_
  simp only [List.getElem_toArray, List.getElem_cons_succ, List.getElem_cons_zero, Act.put, List.setIfInBounds_toArray, List.set_cons_succ, List.set_cons_zero]
  refine turn_mute rfl rfl (exec_storeRow (g := w.heap.size + 1) (old := zStA) (cells := da) rfl rfl rfl HR3.out HIA.out HSA.out (oneA HDA.out)) (below_setRow HB3.out (by omega) _) ?_
  have HB6 : Fact (Below w.heap.size w (w3.setRow (w.heap.size + 1) da)) := ⟨below_setRow (HB0.out.trans (HB3.out.mono (by omega))) (by omega) _⟩
  have HR6 : Fact ((w3.setRow (w.heap.size + 1) da).heap[w.heap.size + 1]? = some (.cells da 122 (0, 0))) := ⟨setRow_heap _ _ _ _ _ _ HR3.out⟩
  generalize w3.setRow (w.heap.size + 1) da = w6 at HB6 HR6 ⊢
  change wpPlan _ _ _ _ .done ⟨#[.agg cs, .pointer (some ⟨w.heap.size, 0, none⟩), .pointer (some ⟨w.heap.size + 1, 0, none⟩), _, _, _, _, _, _, _, _, _, _, _], []⟩ w6
  unfold wpPlan
  go_wp2_with fail
  refine bodyPost_ret (results_cell_row (fn := Tryd.f66) rfl _ _ (w.heap.size + 1) 122 da (0, 0) _ rfl HR6.out Tryd.underlying122 rfl HIA.out) rfl ?_
  exact ⟨⟨_, rfl, HDA⟩, HB6.out⟩
end Go.Proofs.YtkmcjokoinoahaaDoor.ClientA
