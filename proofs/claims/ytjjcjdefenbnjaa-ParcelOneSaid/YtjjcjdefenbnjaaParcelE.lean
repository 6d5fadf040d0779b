/- Packets, answers, headers are read: contracts over any world. -/
import Derived.Test.YtjjcjdefenbnjaaParcelD
import Derived.Test.YtjjcjdefenbnjaaRegB
import Derived.Great.FillDense
set_option linter.unusedVariables false
set_option linter.unusedSimpArgs false
namespace Go.Proofs.Ytjjcjdefenbnjaa.ParcelE
open Go.RowKit Go.Proofs.Ytjjcjdefenbnjaa.Lib Go.Proofs.Ytjjcjdefenbnjaa.Reg Go.Proofs.Ytjjcjdefenbnjaa.RegB Go.Proofs.Ytjjcjdefenbnjaa.TlvA Go.Proofs.Ytjjcjdefenbnjaa.TlvC Go.Proofs.Ytjjcjdefenbnjaa.TlvF Go.Proofs.Ytjjcjdefenbnjaa.TlvI Go.Proofs.Ytjjcjdefenbnjaa.LawNums Go.Proofs.Ytjjcjdefenbnjaa.PlainP Go.Proofs.Ytjjcjdefenbnjaa.LawOne Go.Proofs.Ytjjcjdefenbnjaa.DenomA Go.Proofs.Ytjjcjdefenbnjaa.ParcelA Go.Proofs.Ytjjcjdefenbnjaa.ParcelB Go.Proofs.Ytjjcjdefenbnjaa.ParcelC Go.Proofs.Ytjjcjdefenbnjaa.ParcelD

theorem results_cell_tmp {P : Program} {fn : Func} {p q : Tmp} {ty : TypeId} (h : fn.results = #[.cell p ty, .tmp q]) (tmps : Array Value) (w : World) (g : Nat) (t : TypeId) (cs : Array Value) (fr : Nat × Nat) (d : TypeDesc)
    (hp : tmps.getD p undef = .pointer (some ⟨g, 0, none⟩)) (hg : w.heap[g]? = some (.cells cs t fr))
    (hu : P.underlying ty = some d) (hd : (match d with | .struct _ | .array _ _ => true | _ => false) = true) (hi : (P.info? ty).map (·.size) = some cs.size) :
    (results fn tmps).run P w = .ok (.tuple #[.agg cs, tmps.getD q undef]) w := by
  have hp' : tmps[p]?.getD undef = .pointer (some ⟨g, 0, none⟩) := by simpa using hp
  simp [results, h, hp', asAddr, run_loadVar_row w g t ty cs fr d hg hu hd hi]
theorem exec_alloc {P : Program} {o : Oper} {a : Act} {w : World} {t : TypeId} {z : Array Value} (ho : o.op = .alloc t) (h : (Instr.alloc t true (.tuple #[])).run P w = .ok (.pointer (some ⟨w.heap.size, 0, none⟩)) (w.alloc (.cells z t))) : (execOp a.eval o).run P w = .ok (.value (.pointer (some ⟨w.heap.size, 0, none⟩))) (w.alloc (.cells z t)) := by
  unfold execOp
  simp only [ho, Sem.run_bind, h, Result.andThen_ok, Sem.run_pure]
theorem exec_build {P : Program} {o : Oper} {a : Act} {w : World} {t : TypeId} {parts : Array (Nat × Operand)} {ps : List (Nat × Value)} {cells : Array Value} (ho : o.op = .build t parts) (hp : (parts.map fun (i, x) => (i, a.eval x)).toList = ps) (hb : P.built t ps = some cells) : (execOp a.eval o).run P w = .ok (.value (.agg cells)) w := by
  unfold execOp
  simp only [ho, Sem.run_bind, run_build w t _ cells (by rw [hp]; exact hb), Result.andThen_ok, Sem.run_pure]
/-- A part goes in behind others. -/
theorem fill_app {place : Nat → Option (Nat × Nat)} {pre tail x : List Value} {i : Nat} {v : Value} {rest : List (Nat × Value)} (hp : place i = some (pre.length, x.length)) (hv : v.cells.toList = x) (ht : x.length ≤ tail.length) :
    Instr.fill place (pre ++ tail).toArray ((i, v) :: rest) = Instr.fill place ((pre ++ x) ++ tail.drop x.length).toArray rest := by
  have hs : v.cells.size = x.length := by rw [← Array.length_toList, hv]
  conv => lhs; unfold Instr.fill
  simp only [hp]
  rw [if_neg (by simp [hs]; omega)]
  congr 1
  have e1 : (v.cells.zipIdx.foldl (fun (cs : Array Value) (y : Value × Nat) => cs.setIfInBounds (pre.length + y.2) y.1) (pre ++ tail).toArray) = ((v.cells.toList.zipIdx 0).foldl (fun (cs : Array Value) (y : Value × Nat) => cs.setIfInBounds (pre.length + y.2) y.1) (pre ++ tail).toArray) := by
    rw [← Array.foldl_toList, Array.toList_zipIdx]
  refine Eq.trans e1 ?_
  obtain ⟨h1, h2⟩ := Go.Great.foldl_set pre.length v.cells.toList 0 (pre ++ tail).toArray
  apply Array.ext_getElem?
  intro k
  rw [h2 k, hv]
  simp only [List.size_toArray, List.length_append, Nat.add_zero, List.getElem?_toArray]
  by_cases hk : k < pre.length
  · rw [if_neg (by omega), List.append_assoc, List.getElem?_append_left hk, List.getElem?_append_left hk]
  · by_cases hx : k < pre.length + x.length
    · rw [if_pos (by omega), List.getElem?_append_left (by simp; omega), List.getElem?_append_right (by omega)]
    · rw [if_neg (by omega), List.getElem?_append_right (by omega), List.getElem?_append_right (by simp; omega), List.getElem?_drop]
      congr 1
      simp
      omega
def zHd : List Value := [.int .u64 0, .int .u64 0] ++ List.replicate 128 (.int .u8 0)
def zHdA : Array Value := zHd.toArray
def plHd : Array (Nat × Nat) := #[(0, 1), (1, 1), (2, 32), (34, 32), (66, 32), (98, 32)]
theorem built_eq (ps : List (Nat × Value)) : Try.prog.built 91 ps = Instr.fill (plHd[·]?) zHdA ps := by kernel_rfl
theorem zHd_len : zHd.length = 130 := by simp [zHd]
theorem built_zero : Try.prog.built 91 [] = some zHdA := by rw [built_eq]; rfl
theorem built_hd (h : Hd) (k : h.ok) (c d e f : Array Value) (hc : c.toList = h.root.map vu8) (hd : d.toList = h.vals.map vu8) (he : e.toList = h.next.map vu8) (hf : f.toList = h.sel.map vu8) :
    Try.prog.built 91 [(0, .int .u64 (h.ht : Int)), (1, .int .u64 (h.tm : Int)), (2, .agg c), (3, .agg d), (4, .agg e), (5, .agg f)] = some (hdC h).toArray := by
  have l1 : (h.root.map vu8).length = 32 := by rw [List.length_map, k.root]
  have l2 : (h.vals.map vu8).length = 32 := by rw [List.length_map, k.vals]
  have l3 : (h.next.map vu8).length = 32 := by rw [List.length_map, k.next]
  have l4 : (h.sel.map vu8).length = 32 := by rw [List.length_map, k.sel]
  rw [built_eq]
  have hz := zHd_len
  have e0 : zHdA = ([] ++ zHd).toArray := rfl
  rw [e0, fill_app (x := [.int .u64 (h.ht : Int)]) (by rfl) (by rfl) (by simp [hz])]
  rw [fill_app (x := [.int .u64 (h.tm : Int)]) (by rfl) (by rfl) (by simp [hz])]
  rw [fill_app (v := .agg c) (x := h.root.map vu8) (by rw [l1]; rfl) hc (by simp only [List.length_map, k.root, k.vals, k.next, k.sel, List.length_drop, hz, List.length_cons, List.length_nil]; decide)]
  rw [fill_app (v := .agg d) (x := h.vals.map vu8) (by rw [l2, List.length_append, l1]; rfl) hd (by simp only [List.length_map, k.root, k.vals, k.next, k.sel, List.length_drop, hz, List.length_cons, List.length_nil]; decide)]
  rw [fill_app (v := .agg e) (x := h.next.map vu8) (by rw [l3, List.length_append, List.length_append, l1, l2]; rfl) he (by simp only [List.length_map, k.root, k.vals, k.next, k.sel, List.length_drop, hz, List.length_cons, List.length_nil]; decide)]
  rw [fill_app (v := .agg f) (x := h.sel.map vu8) (by rw [l4, List.length_append, List.length_append, List.length_append, l1, l2, l3]; rfl) hf (by simp only [List.length_map, k.root, k.vals, k.next, k.sel, List.length_drop, hz, List.length_cons, List.length_nil]; decide)]
  unfold Instr.fill
  congr 1
  rw [l1, l2, l3, l4]
  rw [List.drop_of_length_le (by simp only [List.length_drop, hz, List.length_cons, List.length_nil]; decide)]
  unfold hdC
  simp
theorem hdC_len {h : Hd} (k : h.ok) : (hdC h).length = 130 := by
  unfold hdC
  simp [k.root, k.vals, k.next, k.sel]
theorem hdC_one (h : Hd) : (hdC h).toArray.all (·.oneCell') = true := by
  rw [Array.all_eq_true_iff_forall_mem]
  intro v hv
  unfold hdC at hv
  simp at hv
  rcases hv with rfl | rfl | ⟨_, _, rfl⟩ | ⟨_, _, rfl⟩ | ⟨_, _, rfl⟩ | ⟨_, _, rfl⟩ <;> rfl
theorem zHd_eq : zHd = hdC Hd.zero := by rfl
theorem zHd_one : zHdA.all (·.oneCell') = true := by unfold zHdA; rw [zHd_eq]; exact hdC_one _
theorem hd_i {cs : Array Value} (h : cs.size = 130) : (Try.prog.info? 91).map (·.size) = some cs.size := by rw [h]; kernel_rfl
theorem alloc_hd (W : World) : (Instr.alloc 91 true (.tuple #[])).run Try.prog W = .ok (.pointer (some ⟨W.heap.size, 0, none⟩)) (W.alloc (.cells zHdA 91)) := by kernel_rfl
theorem rH_len (s : St) (t : UInt8) : (rH s t).1.length = 32 := by
  unfold rH
  split
  · exact Z32_len
  · split
    · exact Z32_len
    · rename_i h; rw [not_or] at h; simp only; omega
theorem rN_lt (s : St) (t : UInt8) : (rN s t).1 < 18446744073709551616 := valN_lt _
set_option maxHeartbeats 4000000 in
set_option maxRecDepth 100000 in
theorem ReadHeader_calls (w : World) (F : Nat → Prop) (A : Option Addr) (n c : Nat) (l : List UInt8) (h : Sl rU8 w F A n c l) (hF : ∀ k, F k → k < w.heap.size) (hn : n ≤ 4294967296) :
    Calls Try.prog 57 #[.slice A n c] w fun e w' => (∃ cs : Array Value, e = .returned (.tuple #[.agg cs, .int .i64 (readHd l).2]) ∧ Fact (cs.toList = hdC (readHd l).1)) ∧ Below w.heap.size w w' := by
  have H := Fact.mk h
  have HF := Fact.mk hF
  have HN := Fact.mk hn
  clear h hF hn
  go_enter Try.func57, Try.ntmps57
  go_wp2_with (first
    | (go_at_call 70; fail)
    | (refine wpList_ok rfl (exec_alloc rfl (alloc_hd _)) ?_))
  refine (ROpen_calls _ F A n c l (H.out.move (Same.alloc (Same.refl _ _) HF.out _)) (fun k hk => by have := HF.out k hk; simp; omega) HN.out).mono ?_
  rintro e w0 ⟨pb, rfl, hpb, hr, hb⟩
  have HPB : Fact (w.heap.size < pb) := ⟨by have := hpb.out; simp at this; omega⟩
  have HR0 : Fact (w0.heap[w.heap.size]? = some (.cells zHdA 91)) := ⟨by rw [hb.block _ (by simp)]; exact heap_new _ _⟩
  have HB0 : Fact (Below w.heap.size w w0) := ⟨((Below.refl _ _).alloc (Nat.le_refl _) (.cells zHdA 91)).trans (hb.mono (by simp))⟩
  have HX : Fact (readHd l = if rEnd (rdHd (parseG l (-1))).2 = 0 then ((rdHd (parseG l (-1))).1, 0) else (Hd.zero, rEnd (rdHd (parseG l (-1))).2)) := ⟨rfl⟩
  have HRd0 := Fact.mk hr.out
  obtain ⟨s0, hs0⟩ : ∃ s, parseG l (-1) = s := ⟨_, rfl⟩
  rw [hs0] at HX HRd0
  clear hpb hr hb hs0
  go_wp2_with (go_at_call 71; fail)
  refine (RNum_calls _ pb s0 HRd0.out _ 1 rfl).mono ?_
  rintro e w1 ⟨rfl, hr, hb⟩
  replace hb := hb.1
  have HRd1 := Fact.mk hr.out
  have HB1 : Fact (Below w.heap.size w w1) := ⟨HB0.out.trans (hb.mono (Nat.le_of_lt HPB.out))⟩
  have HRz1 : Fact (w1.heap[w.heap.size]? = some (.cells zHdA 91)) := ⟨by rw [hb.block _ HPB.out]; exact HR0.out⟩
  clear hr hb
  obtain ⟨a, ha⟩ : ∃ x, rN s0 1 = x := ⟨_, rfl⟩
  have HQ1 := Fact.mk ha
  rw [ha] at HRd1 ⊢
  clear ha
  go_wp2_with (go_at_call 71; fail)
  refine (RNum_calls _ pb a.2 HRd1.out _ 2 rfl).mono ?_
  rintro e w2 ⟨rfl, hr, hb⟩
  replace hb := hb.1
  have HRd2 := Fact.mk hr.out
  have HB2 : Fact (Below w.heap.size w w2) := ⟨HB1.out.trans (hb.mono (Nat.le_of_lt HPB.out))⟩
  have HRz2 : Fact (w2.heap[w.heap.size]? = some (.cells zHdA 91)) := ⟨by rw [hb.block _ HPB.out]; exact HRz1.out⟩
  clear hr hb
  obtain ⟨b, hb⟩ : ∃ x, rN a.2 2 = x := ⟨_, rfl⟩
  have HQ2 := Fact.mk hb
  rw [hb] at HRd2 ⊢
  clear hb
  go_wp2_with (go_at_call 75; fail)
  refine (RHash_calls _ pb b.2 HRd2.out _ 3 rfl).mono ?_
  rintro e w3 ⟨⟨cs3, rfl, hcs⟩, hr, hb⟩
  have HCS3 := hcs
  clear hcs
  have HRd3 := Fact.mk hr.out
  have HB3 : Fact (Below w.heap.size w w3) := ⟨HB2.out.trans (hb.mono (Nat.le_of_lt HPB.out))⟩
  have HRz3 : Fact (w3.heap[w.heap.size]? = some (.cells zHdA 91)) := ⟨by rw [hb.block _ HPB.out]; exact HRz2.out⟩
  clear hr hb
  obtain ⟨c1, hc1⟩ : ∃ x, rH b.2 3 = x := ⟨_, rfl⟩
  have HQ3 := Fact.mk hc1
  rw [hc1] at HRd3 HCS3 
  clear hc1
  go_wp2_with (go_at_call 75; fail)
  refine (RHash_calls _ pb c1.2 HRd3.out _ 4 rfl).mono ?_
  rintro e w4 ⟨⟨cs4, rfl, hcs⟩, hr, hb⟩
  have HCS4 := hcs
  clear hcs
  have HRd4 := Fact.mk hr.out
  have HB4 : Fact (Below w.heap.size w w4) := ⟨HB3.out.trans (hb.mono (Nat.le_of_lt HPB.out))⟩
  have HRz4 : Fact (w4.heap[w.heap.size]? = some (.cells zHdA 91)) := ⟨by rw [hb.block _ HPB.out]; exact HRz3.out⟩
  clear hr hb
  obtain ⟨d1, hd1⟩ : ∃ x, rH c1.2 4 = x := ⟨_, rfl⟩
  have HQ4 := Fact.mk hd1
  rw [hd1] at HRd4 HCS4 
  clear hd1
  go_wp2_with (go_at_call 75; fail)
  refine (RHash_calls _ pb d1.2 HRd4.out _ 5 rfl).mono ?_
  rintro e w5 ⟨⟨cs5, rfl, hcs⟩, hr, hb⟩
  have HCS5 := hcs
  clear hcs
  have HRd5 := Fact.mk hr.out
  have HB5 : Fact (Below w.heap.size w w5) := ⟨HB4.out.trans (hb.mono (Nat.le_of_lt HPB.out))⟩
  have HRz5 : Fact (w5.heap[w.heap.size]? = some (.cells zHdA 91)) := ⟨by rw [hb.block _ HPB.out]; exact HRz4.out⟩
  clear hr hb
  obtain ⟨e1, he1⟩ : ∃ x, rH d1.2 5 = x := ⟨_, rfl⟩
  have HQ5 := Fact.mk he1
  rw [he1] at HRd5 HCS5 
  clear he1
  go_wp2_with (go_at_call 75; fail)
  refine (RHash_calls _ pb e1.2 HRd5.out _ 6 rfl).mono ?_
  rintro e w6 ⟨⟨cs6, rfl, hcs⟩, hr, hb⟩
  have HCS6 := hcs
  clear hcs
  have HRd6 := Fact.mk hr.out
  have HB6 : Fact (Below w.heap.size w w6) := ⟨HB5.out.trans (hb.mono (Nat.le_of_lt HPB.out))⟩
  have HRz6 : Fact (w6.heap[w.heap.size]? = some (.cells zHdA 91)) := ⟨by rw [hb.block _ HPB.out]; exact HRz5.out⟩
  clear hr hb
  obtain ⟨f1, hf1⟩ : ∃ x, rH e1.2 6 = x := ⟨_, rfl⟩
  have HQ6 := Fact.mk hf1
  rw [hf1] at HRd6 HCS6 
  clear hf1
  have HRD : Fact (rdHd s0 = (⟨a.1, b.1, c1.1, d1.1, e1.1, f1.1⟩, f1.2)) := ⟨by unfold rdHd; simp only [HQ1.out, HQ2.out, HQ3.out, HQ4.out, HQ5.out, HQ6.out]⟩
  have HOK : Fact (Hd.ok ⟨a.1, b.1, c1.1, d1.1, e1.1, f1.1⟩) := ⟨⟨by rw [← HQ1.out]; exact rN_lt _ _, by rw [← HQ2.out]; exact rN_lt _ _, by rw [← HQ3.out]; exact rH_len _ _, by rw [← HQ4.out]; exact rH_len _ _, by rw [← HQ5.out]; exact rH_len _ _, by rw [← HQ6.out]; exact rH_len _ _⟩⟩
  obtain ⟨hh, hhe⟩ : ∃ hh : Hd, hh = ⟨a.1, b.1, c1.1, d1.1, e1.1, f1.1⟩ := ⟨_, rfl⟩
  have HBU : Fact (Try.prog.built 91 [(0, .int .u64 (a.1 : Int)), (1, .int .u64 (b.1 : Int)), (2, .agg cs3), (3, .agg cs4), (4, .agg cs5), (5, .agg cs6)] = some (hdC hh).toArray) := ⟨by have := built_hd hh (by rw [hhe]; exact HOK.out) cs3 cs4 cs5 cs6 (by rw [hhe]; exact HCS3.out) (by rw [hhe]; exact HCS4.out) (by rw [hhe]; exact HCS5.out) (by rw [hhe]; exact HCS6.out); rw [hhe] at this ⊢; exact this⟩
  have HHL : Fact ((hdC hh).length = 130) := ⟨by rw [hhe]; exact hdC_len HOK.out⟩
  rw [← hhe] at HRD HOK
  have HH1 : Fact ((hdC hh).toArray.all (·.oneCell') = true) := ⟨hdC_one hh⟩
  obtain ⟨hc, hhc⟩ : ∃ hc, (hdC hh).toArray = hc := ⟨_, rfl⟩
  have HHC : Fact (hc.toList = hdC hh) := ⟨by rw [← hhc]⟩
  have HHS : Fact (hc.size = 130) := ⟨by rw [← Array.length_toList, HHC.out]; exact HHL.out⟩
  rw [hhc] at HBU HH1
  have HI := Fact.mk (hd_i HHS.out)
  have HIZ := Fact.mk (hd_i (show zHdA.size = 130 by unfold zHdA; rw [List.size_toArray]; exact zHd_len))
  have HSZ : Fact (zHdA.size = hc.size) := ⟨by rw [HHS.out]; unfold zHdA; rw [List.size_toArray]; exact zHd_len⟩
  clear hhc hhe
  have HBW : Fact (∀ (cs : Array Value), Below (pb + 1) w6 ((w6.alloc (.cells zHdA 91)).setRow w6.heap.size cs)) := ⟨fun cs => Below.row ((Below.refl _ _).alloc (by have := HRd6.out.1; omega) _) (by have := HRd6.out.1; omega) _⟩
  have HG6 : Fact ((w6.alloc (.cells zHdA 91)).heap[w6.heap.size]? = some (.cells zHdA 91)) := ⟨heap_new _ _⟩
  go_wp2_with (first
    | (go_at_call 74; fail)
    | (refine wpList_ok rfl (exec_build rfl (by simp only [List.map_toArray, List.map_cons, List.map_nil]; rfl) HBU.out) ?_)
    | (refine wpList_ok rfl (exec_alloc rfl (alloc_hd _)) ?_)
    | (refine wpList_store_row rfl 91 (.tmp 5) (.tmp 21) rfl w6.heap.size hc rfl rfl 91 zHdA HG6.out HI.out HSZ.out HH1.out ?_))
  refine (REnd_calls _ pb f1.2 (HRd6.out.moveLe (HBW.out _))).mono ?_
  rintro e w7 ⟨rfl, hb⟩
  have HG7 : Fact (w7.heap[w.heap.size]? = some (.cells zHdA 91)) := ⟨by rw [hb.1.block _ HPB.out, (HBW.out hc).block _ (by have := HPB.out; omega)]; exact HRz6.out⟩
  have HB7 : Fact (Below w.heap.size w w7) := ⟨HB6.out.trans (((HBW.out hc).mono (by have := HPB.out; omega)).trans (hb.1.mono (Nat.le_of_lt HPB.out)))⟩
  have HGX : Fact (w7.heap[w6.heap.size]? = some (.cells hc 91)) := ⟨by rw [hb.2 _ (by simp) (by have := HRd6.out.1; omega)]; exact setRow_heap _ _ _ _ _ _ HG6.out⟩
  obtain ⟨z, hz⟩ : ∃ z, rEnd f1.2 = z := ⟨_, rfl⟩
  have HZ := Fact.mk hz
  rw [hz]
  clear hz hb
  by_cases hz : z = 0
  · subst hz
    have z1 : ((0 : Int) != 0) = false := rfl
    go_wp2_with (first
      | (refine wpList_load_row rfl 91 (.tmp 5) rfl w6.heap.size rfl 91 hc (0, 0) _ HGX.out Try.underlying91 rfl HI.out ?_)
      | (refine wpList_store_row rfl 91 (.tmp 2) (.tmp 28) rfl w.heap.size hc rfl rfl 91 zHdA HG7.out HI.out HSZ.out HH1.out ?_))
    refine bodyPost_ret (results_cell_tmp (fn := Try.f57) rfl _ _ w.heap.size 91 hc (0, 0) _ rfl (setRow_heap _ _ _ _ _ _ HG7.out) Try.underlying91 rfl HI.out) rfl ?_
    rw [HX.out, HRD.out, if_pos HZ.out]
    exact ⟨⟨hc, rfl, HHC⟩, HB7.out.trans (Below.row (Below.refl _ _) (Nat.le_refl _) _)⟩
  · have z1 : (z != 0) = true := by simpa using hz
    have HZN := Fact.mk hz
    clear hz
    go_wp2_with (first
      | (refine wpList_ok rfl (exec_build rfl (by simp only [List.map_toArray, List.map_nil]) built_zero) ?_)
      | (refine wpList_store_row rfl 91 (.tmp 2) (.tmp 26) rfl w.heap.size zHdA rfl rfl 91 zHdA HG7.out HIZ.out rfl zHd_one ?_))
    refine bodyPost_ret (results_cell_tmp (fn := Try.f57) rfl _ _ w.heap.size 91 zHdA (0, 0) _ rfl (setRow_heap _ _ _ _ _ _ HG7.out) Try.underlying91 rfl HIZ.out) rfl ?_
    rw [HX.out, HRD.out, if_neg (by rw [HZ.out]; exact HZN.out)]
    exact ⟨⟨zHdA, by simp only [HZ.out]; rfl, ⟨by unfold zHdA; rw [← zHd_eq]⟩⟩, HB7.out.trans (Below.row (Below.refl _ _) (Nat.le_refl _) _)⟩
end Go.Proofs.Ytjjcjdefenbnjaa.ParcelE
