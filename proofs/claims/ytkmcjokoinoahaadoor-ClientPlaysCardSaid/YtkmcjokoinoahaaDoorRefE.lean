/- ferrymanref11's client in memory; know, Open: contracts over any world. -/
import Derived.Test.YtkmcjokoinoahaaDoorClientM
set_option linter.unusedVariables false
set_option linter.unusedSimpArgs false
namespace Go.Proofs.YtkmcjokoinoahaaDoor.RefE
open Go.RowKit Go.Proofs.YtkmcjokoinoahaaDoor.Lib Go.Proofs.YtkmcjokoinoahaaDoor.LibB Go.Proofs.YtkmcjokoinoahaaDoor.Reg Go.Proofs.YtkmcjokoinoahaaDoor.RegC Go.Proofs.YtkmcjokoinoahaaDoor.RegD Go.Proofs.YtkmcjokoinoahaaDoor.PlainS Go.Proofs.YtkmcjokoinoahaaDoor.ShaB Go.Proofs.YtkmcjokoinoahaaDoor.ShaC Go.Proofs.YtkmcjokoinoahaaDoor.ShaD Go.Proofs.YtkmcjokoinoahaaDoor.ShaDS Go.Proofs.YtkmcjokoinoahaaDoor.ShaE Go.Proofs.YtkmcjokoinoahaaDoor.PlainP Go.Proofs.YtkmcjokoinoahaaDoor.ParcelB Go.Proofs.YtkmcjokoinoahaaDoor.SealA Go.Proofs.YtkmcjokoinoahaaDoor.SealB Go.Proofs.YtkmcjokoinoahaaDoor.ClientA Go.Proofs.YtkmcjokoinoahaaDoor.ClientB Go.Proofs.YtkmcjokoinoahaaDoor.ClientK Go.Proofs.YtkmcjokoinoahaaDoor.RefD
/-- What is known: a header, its seal. -/
def knC (h : Hd) : List Value := hdC h ++ (shaL (sealB h)).map vu8
theorem knC_len {h : Hd} (k : h.ok) : (knC h).length = 162 := by
  unfold knC
  rw [List.length_append, HdKit.hdC_len k, List.length_map, sha_len]
theorem knC_one (h : Hd) : ∀ u ∈ knC h, u.oneCell' = true := by
  intro u hu
  unfold knC at hu
  rw [List.mem_append] at hu
  rcases hu with hu | hu
  · have := HdKit.hdC_one h
    rw [Array.all_eq_true_iff_forall_mem] at this
    exact this u (by simpa using hu)
  · rw [List.mem_map] at hu
    obtain ⟨b, -, rfl⟩ := hu
    rfl
def rKn : Rep Hd where
  sz := 162
  K := fun _ _ h cs => cs = knC h ∧ h.ok
  len := by rintro w F x cs ⟨rfl, h⟩; exact knC_len h
  one := by rintro w F x cs ⟨rfl, h⟩; exact knC_one x
  move := fun _ h => h
  mono := fun _ h => h
theorem oneK {h : Hd} {ds : Array Value} (e : ds.toList = knC h) : ds.all (·.oneCell') = true := by
  rw [Array.all_eq_true_iff_forall_mem]
  intro v hv
  exact knC_one h v (by rw [← e]; simpa using hv)
theorem sizeK {h : Hd} {ds : Array Value} (e : ds.toList = knC h) (k : h.ok) : ds.size = 162 := by rw [← Array.length_toList, e, knC_len k]
theorem infoK {h : Hd} {ds : Array Value} (e : ds.toList = knC h) (k : h.ok) : (Tryd.prog.info? 79).map (·.size) = some ds.size := by rw [sizeK e k]; kernel_rfl
def zKn : List Value := HdKit.zHd ++ List.replicate 32 (.int .u8 0)
def zKnA : Array Value := zKn.toArray
theorem zKn_len : zKn.length = 162 := by simp [zKn, HdKit.zHd_len]
theorem zKnA_size : zKnA.size = 162 := by rw [← Array.length_toList]; exact zKn_len
theorem alloc_kn (W : World) : (Instr.alloc 79 true (.tuple #[])).run Tryd.prog W = .ok (.pointer (some ⟨W.heap.size, 0, none⟩)) (W.alloc (.cells zKnA 79)) := by kernel_rfl
def plKn : Array (Nat × Nat) := #[(0, 130), (130, 32)]
theorem builtK_eq (ps : List (Nat × Value)) : Tryd.prog.built 79 ps = Instr.fill (plKn[·]?) zKnA ps := by kernel_rfl
theorem built_kn {h : Hd} (k : h.ok) {cs ds : Array Value} (hc : cs.toList = hdC h) (hd : ds.toList = (shaL (sealB h)).map vu8) :
    Tryd.prog.built 79 [(0, .agg cs), (1, .agg ds)] = some (knC h).toArray := by
  have l1 : (hdC h).length = 130 := HdKit.hdC_len k
  have l2 : ((shaL (sealB h)).map vu8).length = 32 := by rw [List.length_map, sha_len]
  rw [builtK_eq]
  have hz := zKn_len
  have e0 : zKnA = ([] ++ zKn).toArray := rfl
  rw [e0, HdKit.fill_app (v := .agg cs) (x := hdC h) (by rw [l1]; rfl) hc (by rw [l1, hz]; decide)]
  rw [HdKit.fill_app (v := .agg ds) (x := (shaL (sealB h)).map vu8) (by rw [l2, List.nil_append, l1]; rfl) hd (by rw [l2, List.length_drop, hz, l1]; decide)]
  unfold Instr.fill
  congr 1
  rw [l1, l2, List.drop_of_length_le (by rw [List.length_drop, hz]; decide)]
  unfold knC
  simp
theorem info_kn : (Tryd.prog.info? 79).map (fun i => (i.zero, i.size)) = some (some (.agg zKnA), 162) := by kernel_rfl
theorem info_kn3 : (Tryd.prog.info? 79).map (fun i => (i.zero, i.size, i.bytes)) = some (some (.agg zKnA), 162, 176) := by kernel_rfl
/-- The document's client: its block, the block of its list. -/
def Mc (w : World) (cm gm p : Nat) (l : List Hd) (fz : Bool) : Prop :=
  cm < w.heap.size ∧ gm < w.heap.size ∧ cm ≠ gm ∧ ∃ A c, w.heap[cm]? = some (.cells #[.int .u64 (p : Int), .slice A l.length c, .bool fz] 82 (0, 0)) ∧ Sl rKn w (fun k => k = gm) A l.length c l
theorem Mc.move {w w' : World} {cm gm p : Nat} {l : List Hd} {fz : Bool} (h : Mc w cm gm p l fz) (h1 : w'.heap[cm]? = w.heap[cm]?) (h2 : w'.heap[gm]? = w.heap[gm]?) (hs : w.heap.size ≤ w'.heap.size) : Mc w' cm gm p l fz := by
  obtain ⟨a1, a2, a3, A, c, hr, ho⟩ := h
  exact ⟨Nat.lt_of_lt_of_le a1 hs, Nat.lt_of_lt_of_le a2 hs, a3, A, c, h1.trans hr, ho.move (fun k hk => by rw [hk]; exact h2)⟩
theorem Mc.below {w w' : World} {cm gm p : Nat} {l : List Hd} {fz : Bool} (h : Mc w cm gm p l fz) (hb : Below w.heap.size w w') : Mc w' cm gm p l fz := h.move (hb.block _ h.1) (hb.block _ h.2.1) hb.size
set_option maxHeartbeats 4000000 in
set_option maxRecDepth 100000 in
theorem know_calls (w : World) (h : Hd) (hk : h.ok) (cs : Array Value) (hcs : cs.toList = hdC h) (hg : LaidR w) (h1 : 1 < w.heap.size) :
    Calls Tryd.prog 72 #[.agg cs] w fun e w' => (∃ ds : Array Value, e = .returned (.agg ds) ∧ Fact (ds.toList = knC h)) ∧ Below w.heap.size w w' := by
  have HK := Fact.mk hk
  have HG := Fact.mk hg
  have H1 := Fact.mk h1
  have HCS := Fact.mk hcs
  have HI : Fact ((Tryd.prog.info? 54).map (·.size) = some cs.size) := ⟨HdKit.hd_i (by rw [← Array.length_toList, hcs, HdKit.hdC_len hk])⟩
  clear hk hg h1 hcs
  have HB2 : Fact (Below w.heap.size w ((w.alloc (.cells cs 54)).alloc (.cells zKnA 79))) := ⟨((Below.refl _ _).alloc (Nat.le_refl _) _).alloc (by simp) _⟩
  have HR2 : Fact (((w.alloc (.cells cs 54)).alloc (.cells zKnA 79)).heap[w.heap.size]? = some (.cells cs 54 (0, 0))) := ⟨heap_alloc2_old w _ _⟩
  have HR3 : Fact (((w.alloc (.cells cs 54)).alloc (.cells zKnA 79)).heap[w.heap.size + 1]? = some (.cells zKnA 79 (0, 0))) := ⟨heap_alloc2_new w _ _⟩
  have HS2 : Fact (((w.alloc (.cells cs 54)).alloc (.cells zKnA 79)).heap.size = w.heap.size + 2) := ⟨by simp⟩
  go_enter Tryd.func72, Tryd.ntmps72
  go_wp2_with (refine wpList_ok rfl (ShaB.exec_alloc rfl (alloc_kn _)) ?_)
  generalize (w.alloc (.cells cs 54)).alloc (.cells zKnA 79) = w2 at HB2 HR2 HR3 HS2 ⊢
  rw [show (w.alloc (.cells cs 54)).heap.size = w.heap.size + 1 by simp]
  simp only [Act.put, List.setIfInBounds_toArray, List.set_cons_succ, List.set_cons_zero]
  refine wp_region_P (fun W => Below (w.heap.size + 1) w2 W) (.tell 0 (.tell 1 (.one 2 (.tell 3 (.one 4 .done))))) (by kernel_rfl) (by kernel_rfl) (by kernel_rfl) (by intro c a d v w h; cases d <;> exact h) (Below.refl _ _).drew ?_
  have HBd : Fact (Below (w.heap.size + 2) w2 w2.drew) := ⟨(Below.refl _ _).drew⟩
  have HSd : Fact (w2.drew.heap.size = w.heap.size + 2) := ⟨HS2.out⟩
  generalize w2.drew = wd at HBd HSd ⊢
  refine plan_tell rfl rfl (v := .agg cs) (fun W hS => exec_loadRow rfl rfl ((hS.block _ (by omega)).trans HR2.out) Tryd.underlying54 rfl HI.out) ?_
  simp only [List.getElem_toArray, List.getElem_cons_succ, List.getElem_cons_zero, Act.put, List.setIfInBounds_toArray, List.set_cons_succ, List.set_cons_zero]
  refine plan_tell rfl rfl (v := .agg cs) (fun W hS => exec_loadRow rfl rfl ((hS.block _ (by omega)).trans HR2.out) Tryd.underlying54 rfl HI.out) ?_
  simp only [List.getElem_toArray, List.getElem_cons_succ, List.getElem_cons_zero, Act.put, List.setIfInBounds_toArray, List.set_cons_succ, List.set_cons_zero]
  have HBW : Fact (Below w.heap.size w wd) := ⟨HB2.out.trans (HBd.out.mono (by omega))⟩
  refine turn_call (f := 32) (args := #[.agg cs]) rfl rfl rfl Tryd.func32 (by kernel_rfl) rfl (by simp only [List.map_toArray, List.map_cons, List.map_nil]; rfl) ?_
  refine (RSeal_calls wd h HK.out cs HCS.out (laidR_move HG.out HBW.out H1.out) (Nat.lt_of_lt_of_le H1.out HBW.out.size)).mono ?_
  rintro e w3 ⟨⟨ds, rfl, hds⟩, hb3⟩
  have hb3' : Below (w.heap.size + 2) w2 w3 := HBd.out.trans (hb3.mono (by have := HSd.out; omega))
  refine ⟨_, rfl, hb3'.mono (by omega), ?_⟩
  simp only [List.getElem_toArray, List.getElem_cons_succ, List.getElem_cons_zero, Act.put, List.setIfInBounds_toArray, List.set_cons_succ, List.set_cons_zero]
  obtain ⟨kn, hkn⟩ : ∃ kn : Array Value, kn = (knC h).toArray := ⟨_, rfl⟩
  have HKN : Fact (kn.toList = knC h) := ⟨by rw [hkn]⟩
  have HBU : Fact (Tryd.prog.built 79 [(0, .agg cs), (1, .agg ds)] = some kn) := ⟨by rw [hkn]; exact built_kn HK.out HCS.out hds.out⟩
  clear hkn
  refine plan_tell rfl rfl (v := .agg kn) (fun W hS => HdKit.exec_build rfl (by simp only [List.map_toArray, List.map_cons, List.map_nil]; rfl) HBU.out) ?_
  simp only [List.getElem_toArray, List.getElem_cons_succ, List.getElem_cons_zero, Act.put, List.setIfInBounds_toArray, List.set_cons_succ, List.set_cons_zero]
  have HR3' : Fact (w3.heap[w.heap.size + 1]? = some (.cells zKnA 79 (0, 0))) := ⟨(hb3'.block _ (by omega)).trans HR3.out⟩
  refine turn_mute rfl rfl (exec_storeRow (g := w.heap.size + 1) (old := zKnA) (cells := kn) rfl rfl rfl HR3'.out (infoK HKN.out HK.out) (by rw [zKnA_size, sizeK HKN.out HK.out]) (oneK HKN.out)) ?_ ?_
  · exact (hb3'.mono (by omega)).trans (below_setRow (Below.refl _ _) (by omega) _)
  have HB6 : Fact (Below w.heap.size w (w3.setRow (w.heap.size + 1) kn)) := ⟨below_setRow (HB2.out.trans (hb3'.mono (by omega))) (by omega) _⟩
  have HR6 : Fact ((w3.setRow (w.heap.size + 1) kn).heap[w.heap.size + 1]? = some (.cells kn 79 (0, 0))) := ⟨setRow_heap _ _ _ _ _ _ HR3'.out⟩
  have HIK := Fact.mk (infoK HKN.out HK.out)
  clear hb3' hb3 hds HR3' HBU
  generalize w3.setRow (w.heap.size + 1) kn = w6 at HB6 HR6 ⊢
  change wpPlan _ _ _ _ .done ⟨#[_, .pointer (some ⟨w.heap.size, 0, none⟩), .pointer (some ⟨w.heap.size + 1, 0, none⟩), _, _, _, _], []⟩ w6
  unfold wpPlan
  go_wp2_with fail
  refine bodyPost_ret (results_cell_row (fn := Tryd.f72) rfl _ _ (w.heap.size + 1) 79 kn (0, 0) _ rfl HR6.out Tryd.underlying79 rfl HIK.out) rfl ?_
  exact ⟨⟨kn, rfl, HKN⟩, HB6.out⟩
theorem mc_new {ds : Array Value} {h : Hd} (W : World) (p : Nat) (e : ds.toList = knC h) (k : h.ok) :
    Mc ((W.alloc (.cells ds 79)).alloc (.cells #[.int .u64 (p : Int), .slice (some ⟨W.heap.size, 0, none⟩) 1 1, .bool false] 82)) (W.heap.size + 1) W.heap.size p [h] false := by
  refine ⟨by simp, by simp; omega, by omega, some ⟨W.heap.size, 0, none⟩, 1, heap_alloc2_new W _ _, ?_⟩
  have h1 : Sl rKn (W.alloc (.cells ds 79)) (fun k => False ∨ k = W.heap.size) (some ⟨W.heap.size, 0, none⟩) 1 1 [h] := Sl.box (r := rKn) (F := fun _ => False) W 79 (xs := [h]) (Els.one_ (r := rKn) (show rKn.K _ _ h ds.toList from ⟨e, k⟩)) (by simp)
  exact (h1.mono (F' := fun k => k = W.heap.size) (fun k hk => by simpa using hk)).move (fun k hk => Below.heap_alloc _ _ _ (by rw [hk]; simp))
set_option maxHeartbeats 4000000 in
set_option maxRecDepth 100000 in
theorem Open_calls (w : World) (h : Hd) (hk : h.ok) (cs : Array Value) (hcs : cs.toList = hdC h) (p : Nat) (hp : p < 18446744073709551616) (hg : LaidR w) (h1 : 1 < w.heap.size) :
    Calls Tryd.prog 39 #[.agg cs, .int .u64 (p : Int)] w fun e w' => (newE h p ≠ 0 ∧ e = .returned (.tuple #[.pointer none, .int .i64 (newE h p)]) ∨ newE h p = 0 ∧ ∃ cm gm, e = .returned (.tuple #[.pointer (some ⟨cm, 0, none⟩), .int .i64 0]) ∧ w.heap.size ≤ cm ∧ w.heap.size ≤ gm ∧ Fact (Mc w' cm gm p [h] false)) ∧ Below w.heap.size w w' := by
  have HK := Fact.mk hk
  have HG := Fact.mk hg
  have H1 := Fact.mk h1
  have HCS := Fact.mk hcs
  have HI : Fact ((Tryd.prog.info? 54).map (·.size) = some cs.size) := ⟨HdKit.hd_i (by rw [← Array.length_toList, hcs, HdKit.hdC_len hk])⟩
  have HR0 : Fact ((w.alloc (.cells cs 54)).heap[w.heap.size]? = some (.cells cs 54 (0, 0))) := ⟨heap_alloc_new _ _⟩
  have HB0 : Fact (Below w.heap.size w (w.alloc (.cells cs 54))) := ⟨(Below.refl _ _).alloc (Nat.le_refl _) _⟩
  have hh := hd_parts hk hcs HR0.out
  have c0 := hh.1
  have c1 := hh.2.1
  clear hh hk hg h1 hcs
  unfold newE
  by_cases q1 : p < 1
  · rw [if_pos (.inl q1)]
    have d0 : decide (((p : Int) : Int) < 1) = true := by rw [decide_eq_true_eq]; omega
    go_enter Tryd.func39, Tryd.ntmps39
    go_wp2_with fail
    go_ret2
    exact ⟨.inl ⟨by decide, rfl⟩, HB0.out⟩
  by_cases q2 : 4294967296 < p
  · rw [if_pos (.inr q2)]
    have d0 : decide (((p : Int) : Int) < 1) = false := by rw [decide_eq_false_iff_not]; omega
    have d1 : decide ((4294967296 : Int) < (p : Int)) = true := by rw [decide_eq_true_eq]; omega
    go_enter Tryd.func39, Tryd.ntmps39
    go_wp2_with fail
    go_ret2
    exact ⟨.inl ⟨by decide, rfl⟩, HB0.out⟩
  rw [if_neg (by omega)]
  by_cases q3 : h.ht < 1
  · rw [if_pos (.inl q3)]
    have d0 : decide (((p : Int) : Int) < 1) = false := by rw [decide_eq_false_iff_not]; omega
    have d1 : decide ((4294967296 : Int) < (p : Int)) = false := by rw [decide_eq_false_iff_not]; omega
    have d2 : decide (((h.ht : Int) : Int) < 1) = true := by rw [decide_eq_true_eq]; omega
    go_enter Tryd.func39, Tryd.ntmps39
    go_wp2_with fail
    go_ret2
    exact ⟨.inl ⟨by decide, rfl⟩, HB0.out⟩
  by_cases q4 : 1099511627776 < h.ht
  · rw [if_pos (.inr q4)]
    have d0 : decide (((p : Int) : Int) < 1) = false := by rw [decide_eq_false_iff_not]; omega
    have d1 : decide ((4294967296 : Int) < (p : Int)) = false := by rw [decide_eq_false_iff_not]; omega
    have d2 : decide (((h.ht : Int) : Int) < 1) = false := by rw [decide_eq_false_iff_not]; omega
    have d3 : decide ((1099511627776 : Int) < (h.ht : Int)) = true := by rw [decide_eq_true_eq]; omega
    go_enter Tryd.func39, Tryd.ntmps39
    go_wp2_with fail
    go_ret2
    exact ⟨.inl ⟨by decide, rfl⟩, HB0.out⟩
  rw [if_neg (by omega)]
  by_cases q5 : 1099511627776 < h.tm
  · rw [if_pos q5]
    have d0 : decide (((p : Int) : Int) < 1) = false := by rw [decide_eq_false_iff_not]; omega
    have d1 : decide ((4294967296 : Int) < (p : Int)) = false := by rw [decide_eq_false_iff_not]; omega
    have d2 : decide (((h.ht : Int) : Int) < 1) = false := by rw [decide_eq_false_iff_not]; omega
    have d3 : decide ((1099511627776 : Int) < (h.ht : Int)) = false := by rw [decide_eq_false_iff_not]; omega
    have d4 : decide ((1099511627776 : Int) < (h.tm : Int)) = true := by rw [decide_eq_true_eq]; omega
    go_enter Tryd.func39, Tryd.ntmps39
    go_wp2_with fail
    go_ret2
    exact ⟨.inl ⟨by decide, rfl⟩, HB0.out⟩
  rw [if_neg q5]
  have d0 : decide (((p : Int) : Int) < 1) = false := by rw [decide_eq_false_iff_not]; omega
  have d1 : decide ((4294967296 : Int) < (p : Int)) = false := by rw [decide_eq_false_iff_not]; omega
  have d2 : decide (((h.ht : Int) : Int) < 1) = false := by rw [decide_eq_false_iff_not]; omega
  have d3 : decide ((1099511627776 : Int) < (h.ht : Int)) = false := by rw [decide_eq_false_iff_not]; omega
  have d4 : decide ((1099511627776 : Int) < (h.tm : Int)) = false := by rw [decide_eq_false_iff_not]; omega
  go_enter Tryd.func39, Tryd.ntmps39
  go_wp2_with (first
    | (refine wpList_load_row rfl 54 (.tmp 2) rfl w.heap.size rfl 54 cs (0, 0) _ HR0.out Tryd.underlying54 rfl HI.out ?_)
    | (go_at_call 72; fail))
  refine (know_calls _ h HK.out cs HCS.out (laidR_move HG.out HB0.out H1.out) (Nat.lt_of_lt_of_le H1.out HB0.out.size)).mono ?_
  rintro e w3 ⟨⟨ds, rfl, hds⟩, hb3⟩
  have HDS := Fact.mk hds.out
  have HB3 : Fact (Below w.heap.size w w3) := ⟨HB0.out.trans (hb3.mono (by simp))⟩
  clear c0 c1 hds hb3
  go_wp2_with (refine wpList_ok rfl (exec_box1 rfl rfl Tryd.underlying80 info_kn zKnA_size (sizeK HDS.out HK.out) (by decide) (by decide)) ?_)
  go_ret2
  exact ⟨.inr ⟨trivial, _, _, rfl, by have := HB3.out.size; simp; omega, HB3.out.size, ⟨mc_new _ _ HDS.out HK.out⟩⟩, (HB3.out.alloc HB3.out.size _).alloc (Nat.le_trans HB3.out.size (by simp)) _⟩
end Go.Proofs.YtkmcjokoinoahaaDoor.RefE
