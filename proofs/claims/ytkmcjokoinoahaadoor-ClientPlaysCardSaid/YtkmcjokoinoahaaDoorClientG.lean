/- client.at, Root, Heights: contracts over any world. -/
import Derived.Test.YtkmcjokoinoahaaDoorClientF
set_option linter.unusedVariables false
set_option linter.unusedSimpArgs false
namespace Go.Proofs.YtkmcjokoinoahaaDoor.ClientG
open Go.RowKit Go.Proofs.YtkmcjokoinoahaaDoor.Lib Go.Proofs.YtkmcjokoinoahaaDoor.LibB Go.Proofs.YtkmcjokoinoahaaDoor.Reg Go.Proofs.YtkmcjokoinoahaaDoor.RegC Go.Proofs.YtkmcjokoinoahaaDoor.PlainS Go.Proofs.YtkmcjokoinoahaaDoor.ShaB Go.Proofs.YtkmcjokoinoahaaDoor.ShaC Go.Proofs.YtkmcjokoinoahaaDoor.ShaD Go.Proofs.YtkmcjokoinoahaaDoor.ShaDS Go.Proofs.YtkmcjokoinoahaaDoor.ShaE Go.Proofs.YtkmcjokoinoahaaDoor.PlainP Go.Proofs.YtkmcjokoinoahaaDoor.ParcelB Go.Proofs.YtkmcjokoinoahaaDoor.SealA Go.Proofs.YtkmcjokoinoahaaDoor.SealB Go.Proofs.YtkmcjokoinoahaaDoor.ClientA Go.Proofs.YtkmcjokoinoahaaDoor.ClientB Go.Proofs.YtkmcjokoinoahaaDoor.ClientC Go.Proofs.YtkmcjokoinoahaaDoor.ClientD Go.Proofs.YtkmcjokoinoahaaDoor.ClientE Go.Proofs.YtkmcjokoinoahaaDoor.ClientF
/-- What 'at' answers. -/
def AtE (l : List Stt) (n : Nat) (v : Value) : Prop :=
  (∃ s ds, v = .tuple #[.agg ds, .bool true] ∧ ds.toList = stC s ∧ s.ok ∧ l.find? (qE n) = some s) ∨ (v = .tuple #[.agg zStA, .bool false] ∧ l.find? (qE n) = none)
theorem load_row {w : World} {g k : Nat} {s : Stt} {ds : Array Value} (hk : s.ok) (hr : w.rangeAt g (k * 98) (stC s)) (hds : ds.toList = stC s) : (Instr.loadAt 122 (.pointer (some ⟨g, k * 98, none⟩))).run Tryd.prog w = .ok (.agg ds) w := by
  have := run_loadAt_mid (P := Tryd.prog) w g (k * 98) 122 (stC s) _ hr Tryd.underlying122 rfl (by rw [stC_len hk]; kernel_rfl)
  rw [← hds, Array.toArray_toList] at this
  exact this
theorem range_below {w w' : World} {g o : Nat} {cs : List Value} (h : w.rangeAt g o cs) {B : Nat} (hb : Below B w w') (hg : g < B) : w'.rangeAt g o cs := fun j v hj => (hb.cell (p := ⟨g, o + j, none⟩) hg).trans (h j v hj)
set_option maxHeartbeats 4000000 in
set_option maxRecDepth 100000 in
theorem at_calls (w : World) (B cb p : Nat) (l : List Stt) (fz : Bool) (h : Cl w B cb p l fz) (hl : 0 < l.length) (hl2 : l.length ≤ 140737488355328) (n : Nat) :
    Calls Tryd.prog 70 #[.pointer (some ⟨cb, 0, none⟩), .int .u64 (n : Int)] w fun e w' => (∃ v, e = .returned v ∧ Fact (AtE l n v)) ∧ Below w.heap.size w w' := by
  obtain ⟨g, c, hgc, hBg, hgl, hr, hlc, hcm, hrow⟩ := Cl.row h hl
  have hcb : cb < w.heap.size := h.2.1
  have HROW := Fact.mk hrow
  obtain ⟨m, hm⟩ : ∃ m, l.length = m := ⟨_, rfl⟩
  rw [hm] at hr hlc hl2
  have HM := Fact.mk hm
  have HL := Fact.mk hl
  clear hrow h hm hl
  have HB1 : Fact (Below w.heap.size w ((w.alloc (.cells #[.int .u64 (n : Int)] 50)).alloc (.cells zStA 122))) := ⟨((Below.refl _ _).alloc (Nat.le_refl _) _).alloc (by simp) _⟩
  have HS1 : Fact (((w.alloc (.cells #[.int .u64 (n : Int)] 50)).alloc (.cells zStA 122)).heap.size = w.heap.size + 2) := ⟨by simp⟩
  have HR1 : Fact (((w.alloc (.cells #[.int .u64 (n : Int)] 50)).alloc (.cells zStA 122)).heap[w.heap.size + 1]? = some (.cells zStA 122 (0, 0))) := ⟨heap_alloc2_new _ _ _⟩
  have HN1 : Fact (((w.alloc (.cells #[.int .u64 (n : Int)] 50)).alloc (.cells zStA 122)).cell? ⟨w.heap.size, 0, none⟩ = some (.int .u64 (n : Int))) := ⟨row_cell (heap_alloc2_old _ _ _) rfl⟩
  have HC1 : Fact (∀ W, Below w.heap.size w W → W.cell? ⟨cb, 1, none⟩ = some (.slice (some ⟨g, 0, none⟩) m c)) := ⟨fun W hW => row_cell ((hW.block _ hcb).trans hr) rfl⟩
  clear hr
  go_enter Tryd.func70, Tryd.ntmps70
  have c0 := HC1.out _ HB1.out
  go_wp2_with (first
    | (refine wpList_ok rfl (ShaB.exec_alloc rfl (alloc_st _)) ?_)
    | (go_at_call 85; fail))
  generalize (w.alloc (.cells #[.int .u64 (n : Int)] 50)).alloc (.cells zStA 122) = w1 at c0 HB1 HS1 HR1 HN1 ⊢
  refine (IndexFunc_calls w1 g c m l HM.out hl2 (by have := HS1.out; omega) (fun i s hi => ⟨(HROW.out i s hi).1, range_below (HROW.out i s hi).2 HB1.out hgl⟩) w.heap.size n HN1.out).mono ?_
  rintro e w2 ⟨he, hb2⟩
  have HB2 : Fact (Below w.heap.size w w2) := ⟨HB1.out.trans (hb2.mono HB1.out.size)⟩
  have HR2 : Fact (w2.heap[w.heap.size + 1]? = some (.cells zStA 122 (0, 0))) := ⟨(hb2.block _ (by have := HS1.out; omega)).trans HR1.out⟩
  have c1 := HC1.out _ HB2.out
  clear hb2 c0 HN1 HR1
  rcases he with ⟨rfl, hf⟩ | ⟨k, s, rfl, hk, hf⟩
  · have HF := Fact.mk hf
    clear hf
    have hz : Tryd.prog.built 122 [] = some zStA := by kernel_rfl
    go_wp2_with (first
      | (refine wpList_ok rfl (HdKit.exec_build rfl (by simp only [List.map_toArray, List.map_cons, List.map_nil]; rfl) hz) ?_)
      | (refine wpList_store_row rfl 122 (.tmp 4) (.tmp 15) rfl (w.heap.size + 1) zStA rfl rfl 122 zStA HR2.out (infoA (s := zStt) rfl zStt_ok) rfl (oneA (s := zStt) rfl) ?_))
    have HR3 : Fact ((w2.setRow (w.heap.size + 1) zStA).heap[w.heap.size + 1]? = some (.cells zStA 122 (0, 0))) := ⟨setRow_heap _ _ _ _ _ _ HR2.out⟩
    refine bodyPost_ret (HdKit.results_cell_tmp (fn := Tryd.f70) rfl _ _ (w.heap.size + 1) 122 zStA (0, 0) _ rfl HR3.out Tryd.underlying122 rfl (infoA (s := zStt) rfl zStt_ok)) rfl ?_
    exact ⟨⟨_, rfl, ⟨.inr ⟨rfl, HF.out⟩⟩⟩, below_setRow HB2.out (by omega) _⟩
  · have HF := Fact.mk hf
    have hkm : k < m := by
      have := (List.getElem?_eq_some_iff.1 hk).1
      have := HM.out
      omega
    obtain ⟨ko, kr⟩ := HROW.out k s hk
    obtain ⟨ds, hds⟩ : ∃ ds : Array Value, ds = (stC s).toArray := ⟨_, rfl⟩
    have HDS : Fact (ds.toList = stC s) := ⟨by rw [hds]⟩
    have HKO := Fact.mk ko
    have HLD : Fact ((Instr.loadAt 122 (.pointer (some ⟨g, k * 98, none⟩))).run Tryd.prog w2 = .ok (.agg ds) w2) := ⟨load_row ko (range_below kr HB2.out hgl) HDS.out⟩
    have hap : (⟨g, 0, none⟩ : Addr).add (k * 98) = ⟨g, k * 98, none⟩ := add_plain' _ _
    have HII : Fact ((Tryd.prog.info? 122).map (·.size) = some ds.size) := ⟨infoA HDS.out ko⟩
    have HSZ : Fact (zStA.size = ds.size) := ⟨by rw [zStA_size, sizeA HDS.out ko]⟩
    clear hds hf ko kr hk
    go_wp2_with (first
      | (refine wpList_ok rfl (exec_loadAt rfl rfl HLD.out) ?_)
      | (refine wpList_store_row rfl 122 (.tmp 4) (.tmp 22) rfl (w.heap.size + 1) ds rfl rfl 122 zStA HR2.out HII.out HSZ.out (oneA HDS.out) ?_))
    have HR3 : Fact ((w2.setRow (w.heap.size + 1) ds).heap[w.heap.size + 1]? = some (.cells ds 122 (0, 0))) := ⟨setRow_heap _ _ _ _ _ _ HR2.out⟩
    refine bodyPost_ret (HdKit.results_cell_tmp (fn := Tryd.f70) rfl _ _ (w.heap.size + 1) 122 ds (0, 0) _ rfl HR3.out Tryd.underlying122 rfl HII.out) rfl ?_
    exact ⟨⟨_, rfl, ⟨.inl ⟨s, ds, rfl, HDS.out, HKO.out, HF.out⟩⟩⟩, below_setRow HB2.out (by omega) _⟩
end Go.Proofs.YtkmcjokoinoahaaDoor.ClientG
