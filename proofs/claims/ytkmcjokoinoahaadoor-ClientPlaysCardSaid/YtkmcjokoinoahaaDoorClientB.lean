/- client: New, Latest, Status: contracts over any world. -/
import Derived.Test.YtkmcjokoinoahaaDoorClientA
import Derived.Test.YtkmcjokoinoahaaDoorFaultD
import Derived.Great.BuildSlice
set_option linter.unusedVariables false
set_option linter.unusedSimpArgs false
namespace Go.Proofs.YtkmcjokoinoahaaDoor.ClientB
open Go.RowKit Go.Proofs.YtkmcjokoinoahaaDoor.Lib Go.Proofs.YtkmcjokoinoahaaDoor.LibB Go.Proofs.YtkmcjokoinoahaaDoor.Reg Go.Proofs.YtkmcjokoinoahaaDoor.RegC Go.Proofs.YtkmcjokoinoahaaDoor.PlainS Go.Proofs.YtkmcjokoinoahaaDoor.ShaB Go.Proofs.YtkmcjokoinoahaaDoor.ShaC Go.Proofs.YtkmcjokoinoahaaDoor.ShaD Go.Proofs.YtkmcjokoinoahaaDoor.ShaDS Go.Proofs.YtkmcjokoinoahaaDoor.ShaE Go.Proofs.YtkmcjokoinoahaaDoor.PlainP Go.Proofs.YtkmcjokoinoahaaDoor.ParcelB Go.Proofs.YtkmcjokoinoahaaDoor.SealA Go.Proofs.YtkmcjokoinoahaaDoor.SealB Go.Proofs.YtkmcjokoinoahaaDoor.ClientA
/-- []T{x} of a struct. -/
theorem exec_box1 {P : Program} {o : Oper} {a : Act} {W : World} {t e : TypeId} {x : Operand} {ds : Array Value} {z : Value} {n : Nat} (ho : o.op = .buildSlice t 1 #[(0, x)]) (hx : a.eval x = .agg ds)
    (hu : P.underlying t = some (.slice e)) (hi : (P.info? e).map (fun i => (i.zero, i.size)) = some (some z, n)) (hz : z.cells.size = n) (hn : ds.size = n) (h0 : 0 < n) (hm : n ≤ 1000) :
    (execOp a.eval o).run P W = .ok (.value (.slice (some ⟨W.heap.size, 0, none⟩) 1 1)) (W.alloc (.cells ds e)) := by
  obtain ⟨ie, hie, hzz⟩ := Option.map_eq_some_iff.1 hi
  simp only [Prod.mk.injEq] at hzz
  obtain ⟨hz0, hz1⟩ := hzz
  have hl : ((Array.range (1 * ie.size)).map (z.cells[· % z.cells.size]!)).toList.length = n := by simp [hz1]
  have hr := run_buildSlice (P := P) W t e 1 #[(0, .agg ds)] ds ie z hu hie hz0 (by rw [hz1]; omega) (by rw [hz1]; omega) (by
    have hf := HdKit.fill_app (place := fun i => some (i * ie.size, ie.size)) (pre := []) (tail := ((Array.range (1 * ie.size)).map (z.cells[· % z.cells.size]!)).toList) (x := ds.toList) (i := 0) (v := .agg ds) (rest := []) (by simp [hz1, hn]) rfl (by rw [hl]; simp [hn])
    rw [List.nil_append, Array.toArray_toList] at hf
    refine hf.trans ?_
    unfold Instr.fill
    congr 1
    rw [List.drop_of_length_le (by rw [hl]; simp [hn])]
    simp)
  unfold execOp
  simp only [ho, List.map_toArray, List.map_cons, List.map_nil, hx, Sem.run_bind, hr, Result.andThen_ok, Sem.run_pure]
theorem info_st : (Tryd.prog.info? 122).map (fun i => (i.zero, i.size)) = some (some (.agg zStA), 98) := by kernel_rfl
/-- A client, its block and its row from B on. -/
def Cl (w : World) (B cb p : Nat) (l : List Stt) (fz : Bool) : Prop :=
  B ≤ cb ∧ cb < w.heap.size ∧ ∃ v, w.heap[cb]? = some (.cells #[.int .u64 (p : Int), v, .bool fz] 126 (0, 0)) ∧ Ow rSt 122 w B (fun _ => False) v l ∧ v.ownBlock ≠ some cb
/-- What New answers. -/
def newE (h : Hd) (p : Nat) : Int := if p < 1 ∨ 4294967296 < p then 2 else if h.ht < 1 ∨ 1099511627776 < h.ht then 32 else if 1099511627776 < h.tm then 33 else 0
theorem cl_new {ds : Array Value} {s : Stt} {B : Nat} (W : World) (p : Nat) (hB : B ≤ W.heap.size) (h : ds.toList = stC s) (k : s.ok) :
    Cl ((W.alloc (.cells ds 122)).alloc (.cells #[.int .u64 (p : Int), .slice (some ⟨W.heap.size, 0, none⟩) 1 1, .bool false] 126)) B (W.heap.size + 1) p [s] false := by
  have h1 : (W.alloc (.cells ds 122)).heap.size = W.heap.size + 1 := by simp
  refine ⟨by omega, by simp, .slice (some ⟨W.heap.size, 0, none⟩) 1 1, by rw [← h1]; exact heap_alloc_new _ _, ?_, by simp [Value.ownBlock]⟩
  have ho : Ow rSt 122 (W.alloc (.cells ds 122)) B (fun _ => False) (.slice (some ⟨W.heap.size, 0, none⟩) 1 1) [s] :=
    Ow.lit (r := rSt) (xs := [s]) W B _ hB (Els.one_ (r := rSt) (show rSt.K _ _ s ds.toList from ⟨h, k⟩)) (by simp)
  exact ho.below ((Below.refl _ _).alloc (Nat.le_refl _) _) (fun _ hk => hk.elim)
set_option maxHeartbeats 4000000 in
set_option maxRecDepth 100000 in
theorem New_calls (w : World) (h : Hd) (hk : h.ok) (cs : Array Value) (hcs : cs.toList = hdC h) (p : Nat) (hp : p < 18446744073709551616) (hg : LaidW w) (h1 : 3 < w.heap.size) :
    Calls Tryd.prog 30 #[.agg cs, .int .u64 (p : Int)] w fun e w' => (newE h p ≠ 0 ∧ e = .returned (.tuple #[.pointer none, .int .i64 (newE h p)]) ∨ newE h p = 0 ∧ ∃ cb, e = .returned (.tuple #[.pointer (some ⟨cb, 0, none⟩), .int .i64 0]) ∧ Fact (Cl w' w.heap.size cb p [ofH h] false)) ∧ Below w.heap.size w w' := by
  have HK := Fact.mk hk
  have HG := Fact.mk hg
  have H1 := Fact.mk h1
  have HCS := Fact.mk hcs
  have HN : Fact (cs.size = 130) := ⟨by rw [← Array.length_toList, hcs]; simp [hdC, hk.root, hk.vals, hk.next, hk.sel]⟩
  have HI : Fact ((Tryd.prog.info? 54).map (·.size) = some cs.size) := ⟨by rw [HN.out]; kernel_rfl⟩
  have HR0 : Fact ((w.alloc (.cells cs 54)).heap[w.heap.size]? = some (.cells cs 54 (0, 0))) := ⟨heap_alloc_new _ _⟩
  have HB0 : Fact (Below w.heap.size w (w.alloc (.cells cs 54))) := ⟨(Below.refl _ _).alloc (Nat.le_refl _) _⟩
  have hh := hd_parts hk hcs HR0.out
  have c0 := hh.1
  have c1 := hh.2.1
  clear hh hk hg h1 hcs
  unfold newE
  by_cases q1 : p < 1
  · rw [if_pos (.inl q1)]
    have d0 : decide (((p : Int) : Int) < 1) = true := by rw [decide_eq_true_eq]; omega
    go_enter Tryd.func30, Tryd.ntmps30
    go_wp2_with fail
    go_ret2
    exact ⟨.inl ⟨by decide, rfl⟩, HB0.out⟩
  by_cases q2 : 4294967296 < p
  · rw [if_pos (.inr q2)]
    have d0 : decide (((p : Int) : Int) < 1) = false := by rw [decide_eq_false_iff_not]; omega
    have d1 : decide ((4294967296 : Int) < (p : Int)) = true := by rw [decide_eq_true_eq]; omega
    go_enter Tryd.func30, Tryd.ntmps30
    go_wp2_with fail
    go_ret2
    exact ⟨.inl ⟨by decide, rfl⟩, HB0.out⟩
  rw [if_neg (by omega)]
  by_cases q3 : h.ht < 1
  · rw [if_pos (.inl q3)]
    have d0 : decide (((p : Int) : Int) < 1) = false := by rw [decide_eq_false_iff_not]; omega
    have d1 : decide ((4294967296 : Int) < (p : Int)) = false := by rw [decide_eq_false_iff_not]; omega
    have d2 : decide (((h.ht : Int) : Int) < 1) = true := by rw [decide_eq_true_eq]; omega
    go_enter Tryd.func30, Tryd.ntmps30
    go_wp2_with fail
    go_ret2
    exact ⟨.inl ⟨by decide, rfl⟩, HB0.out⟩
  by_cases q4 : 1099511627776 < h.ht
  · rw [if_pos (.inr q4)]
    have d0 : decide (((p : Int) : Int) < 1) = false := by rw [decide_eq_false_iff_not]; omega
    have d1 : decide ((4294967296 : Int) < (p : Int)) = false := by rw [decide_eq_false_iff_not]; omega
    have d2 : decide (((h.ht : Int) : Int) < 1) = false := by rw [decide_eq_false_iff_not]; omega
    have d3 : decide ((1099511627776 : Int) < (h.ht : Int)) = true := by rw [decide_eq_true_eq]; omega
    go_enter Tryd.func30, Tryd.ntmps30
    go_wp2_with fail
    go_ret2
    exact ⟨.inl ⟨by decide, rfl⟩, HB0.out⟩
  rw [if_neg (by omega)]
  by_cases q5 : 1099511627776 < h.tm
  · rw [if_pos q5]
    have d0 : decide (((p : Int) : Int) < 1) = false := by rw [decide_eq_false_iff_not]; omega
    have d1 : decide ((4294967296 : Int) < (p : Int)) = false := by rw [decide_eq_false_iff_not]; omega
    have d2 : decide (((h.ht : Int) : Int) < 1) = false := by rw [decide_eq_false_iff_not]; omega
    have d3 : decide ((1099511627776 : Int) < (h.ht : Int)) = false := by rw [decide_eq_false_iff_not]; omega
    have d4 : decide ((1099511627776 : Int) < (h.tm : Int)) = true := by rw [decide_eq_true_eq]; omega
    go_enter Tryd.func30, Tryd.ntmps30
    go_wp2_with fail
    go_ret2
    exact ⟨.inl ⟨by decide, rfl⟩, HB0.out⟩
  rw [if_neg q5]
  have d0 : decide (((p : Int) : Int) < 1) = false := by rw [decide_eq_false_iff_not]; omega
  have d1 : decide ((4294967296 : Int) < (p : Int)) = false := by rw [decide_eq_false_iff_not]; omega
  have d2 : decide (((h.ht : Int) : Int) < 1) = false := by rw [decide_eq_false_iff_not]; omega
  have d3 : decide ((1099511627776 : Int) < (h.ht : Int)) = false := by rw [decide_eq_false_iff_not]; omega
  have d4 : decide ((1099511627776 : Int) < (h.tm : Int)) = false := by rw [decide_eq_false_iff_not]; omega
  go_enter Tryd.func30, Tryd.ntmps30
  go_wp2_with (first
    | (refine wpList_load_row rfl 54 (.tmp 2) rfl w.heap.size rfl 54 cs (0, 0) _ HR0.out Tryd.underlying54 rfl HI.out ?_)
    | (go_at_call 66; fail))
  refine (of_calls _ h HK.out cs HCS.out (laid_move HG.out HB0.out H1.out) (Nat.lt_of_lt_of_le H1.out HB0.out.size)).mono ?_
  rintro e w3 ⟨⟨ds, rfl, hds⟩, hb3⟩
  have HDS := Fact.mk hds.out
  have HB3 : Fact (Below w.heap.size w w3) := ⟨HB0.out.trans (hb3.mono (by simp))⟩
  clear c0 c1 hds hb3
  go_wp2_with (refine wpList_ok rfl (exec_box1 rfl rfl Tryd.underlying124 info_st zStA_size (sizeA HDS.out (ofH_ok HK.out)) (by decide) (by decide)) ?_)
  go_ret2
  exact ⟨.inr ⟨trivial, _, rfl, ⟨cl_new _ _ HB3.out.size HDS.out (ofH_ok HK.out)⟩⟩, (HB3.out.alloc HB3.out.size _).alloc (Nat.le_trans HB3.out.size (by simp)) _⟩
end Go.Proofs.YtkmcjokoinoahaaDoor.ClientB
