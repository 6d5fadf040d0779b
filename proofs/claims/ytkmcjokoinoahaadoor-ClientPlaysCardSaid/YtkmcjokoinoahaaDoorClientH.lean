/- client.Root, Heights, slices.Clone of states: contracts over any world. -/
import Derived.Test.YtkmcjokoinoahaaDoorClientG
import Derived.WalkSpells
import Derived.Deep.WholeRow
set_option linter.unusedVariables false
set_option linter.unusedSimpArgs false
namespace Go.Proofs.YtkmcjokoinoahaaDoor.ClientH
open Go.RowKit Go.Proofs.YtkmcjokoinoahaaDoor.Lib Go.Proofs.YtkmcjokoinoahaaDoor.LibB Go.Proofs.YtkmcjokoinoahaaDoor.Reg Go.Proofs.YtkmcjokoinoahaaDoor.RegC Go.Proofs.YtkmcjokoinoahaaDoor.PlainS Go.Proofs.YtkmcjokoinoahaaDoor.ShaB Go.Proofs.YtkmcjokoinoahaaDoor.ShaC Go.Proofs.YtkmcjokoinoahaaDoor.ShaD Go.Proofs.YtkmcjokoinoahaaDoor.ShaDS Go.Proofs.YtkmcjokoinoahaaDoor.ShaE Go.Proofs.YtkmcjokoinoahaaDoor.PlainP Go.Proofs.YtkmcjokoinoahaaDoor.ParcelB Go.Proofs.YtkmcjokoinoahaaDoor.SealA Go.Proofs.YtkmcjokoinoahaaDoor.SealB Go.Proofs.YtkmcjokoinoahaaDoor.ClientA Go.Proofs.YtkmcjokoinoahaaDoor.ClientB Go.Proofs.YtkmcjokoinoahaaDoor.ClientC Go.Proofs.YtkmcjokoinoahaaDoor.ClientD Go.Proofs.YtkmcjokoinoahaaDoor.ClientE Go.Proofs.YtkmcjokoinoahaaDoor.ClientF Go.Proofs.YtkmcjokoinoahaaDoor.ClientG
/-- What Root answers. -/
def RootE (B : Nat) (l : List Stt) (n : Nat) (v : Value) (w : World) : Prop :=
  (∃ s ds, v = .tuple #[.agg ds, .nilIface] ∧ ds.toList = s.root.map vu8 ∧ l.find? (qE n) = some s) ∨ (l.find? (qE n) = none ∧ ∃ u, v = .tuple #[.agg (bArr []), u] ∧ Er B u w 32)
theorem st_root {w : World} {b : Nat} {ds : Array Value} {s : Stt} (hk : s.ok) (hds : ds.toList = stC s) (hr : w.heap[b]? = some (.cells ds 122 (0, 0))) : w.rangeAt b 2 (s.root.map vu8) := by
  intro j v hj
  refine row_cell hr ?_
  rw [← Array.getElem?_toList, hds]
  have hlt : j < (s.root.map vu8).length := (List.getElem?_eq_some_iff.1 hj).1
  unfold stC
  rw [List.getElem?_append_right (by simp)]
  rw [show 2 + j - [Value.int .u64 (s.ht : Int), .int .u64 (s.tm : Int)].length = j by simp, List.getElem?_append_left hlt]
  exact hj
set_option maxHeartbeats 1000000 in
set_option maxRecDepth 100000 in
theorem Root_calls (w : World) (B cb p : Nat) (l : List Stt) (fz : Bool) (h : Cl w B cb p l fz) (hl : 0 < l.length) (hl2 : l.length ≤ 140737488355328) (n : Nat) :
    Calls Tryd.prog 37 #[.pointer (some ⟨cb, 0, none⟩), .int .u64 (n : Int)] w fun e w' => (∃ v, e = .returned v ∧ Fact (RootE w.heap.size l n v w')) ∧ Below w.heap.size w w' := by
  have HCL := Fact.mk h
  have HL := Fact.mk hl
  clear h hl
  have HR0 : Fact ((w.alloc (.cells (bArr []) 52)).heap[w.heap.size]? = some (.cells (bArr []) 52 (0, 0))) := ⟨heap_alloc_new _ _⟩
  have HB0 : Fact (Below w.heap.size w (w.alloc (.cells (bArr []) 52))) := ⟨(Below.refl _ _).alloc (Nat.le_refl _) _⟩
  have HS0 : Fact ((w.alloc (.cells (bArr []) 52)).heap.size = w.heap.size + 1) := ⟨by simp⟩
  go_enter Tryd.func37, Tryd.ntmps37
  go_wp2_with (first
    | (refine wpList_ok rfl (ShaB.exec_alloc rfl (alloc_b _)) ?_)
    | (go_at_call 70; fail))
  generalize w.alloc (.cells (bArr []) 52) = w1 at HR0 HB0 HS0 ⊢
  refine (at_calls w1 B cb p l fz (Cl.below HCL.out HB0.out) HL.out hl2 n).mono ?_
  rintro e w2 ⟨⟨v, rfl, hv⟩, hb2⟩
  have HB2 : Fact (Below w.heap.size w w2) := ⟨HB0.out.trans (hb2.mono HB0.out.size)⟩
  have HR2 : Fact (w2.heap[w.heap.size]? = some (.cells (bArr []) 52 (0, 0))) := ⟨(hb2.block _ (by have := HS0.out; omega)).trans HR0.out⟩
  have HS2 : Fact (w.heap.size < w2.heap.size) := ⟨by have := HS0.out; have := hb2.size; omega⟩
  clear hb2 HR0 HB0 HS0
  have hBI : Fact ((Tryd.prog.info? 52).map (·.size) = some (bArr []).size) := ⟨hash_i (bArr_size (by decide))⟩
  obtain ⟨s, ds, rfl, hds, hko, hf⟩ | ⟨rfl, hf⟩ := hv.out
  · have HF := Fact.mk hf
    have HDS := Fact.mk hds
    have HKO := Fact.mk hko
    have HII : Fact ((Tryd.prog.info? 122).map (·.size) = some ds.size) := ⟨infoA hds hko⟩
    have HSZ : Fact (zStA.size = ds.size) := ⟨by rw [zStA_size, sizeA hds hko]⟩
    have HA : Fact ((w2.alloc (.cells zStA 122)).heap[w2.heap.size]? = some (.cells zStA 122 (0, 0))) := ⟨heap_alloc_new _ _⟩
    have HA3 : Fact ((w2.alloc (.cells ds 122)).heap[w2.heap.size]? = some (.cells ds 122 (0, 0))) := ⟨heap_alloc_new _ _⟩
    have HB3 : Fact (Below w.heap.size w (w2.alloc (.cells ds 122))) := ⟨HB2.out.alloc HB2.out.size _⟩
    have HR3 : Fact ((w2.alloc (.cells ds 122)).heap[w.heap.size]? = some (.cells (bArr []) 52 (0, 0))) := ⟨(Below.heap_alloc _ _ _ HS2.out).trans HR2.out⟩
    clear hf hds hko hv
    obtain ⟨cr, hcr⟩ : ∃ cr : Array Value, cr = (s.root.map vu8).toArray := ⟨_, rfl⟩
    have HCR : Fact (cr.toList = s.root.map vu8) := ⟨by rw [hcr]⟩
    have HLD : Fact ((Instr.loadAt 52 (.pointer (some ⟨w2.heap.size, 2, none⟩))).run Tryd.prog (w2.alloc (.cells ds 122)) = .ok (.agg cr) (w2.alloc (.cells ds 122))) := ⟨by rw [hcr]; exact load_hash HKO.out.root (st_root HKO.out HDS.out HA3.out)⟩
    have HCI : Fact ((Tryd.prog.info? 52).map (·.size) = some cr.size) := ⟨hash_i (bytes_size HCR.out HKO.out.root)⟩
    have HCS : Fact ((bArr []).size = cr.size) := ⟨by rw [bytes_size HCR.out HKO.out.root]; rfl⟩
    clear hcr
    go_wp2_with (first
      | (refine wpList_ok rfl (ShaB.exec_alloc rfl (alloc_st _)) ?_)
      | (refine wpList_store_row rfl 122 (.tmp 6) (.tmp 17) rfl w2.heap.size ds rfl rfl 122 zStA HA.out HII.out HSZ.out (oneA HDS.out) ?_
         rw [World.setRow_alloc_new]
         generalize w2.alloc (.cells ds 122) = w3 at HB3 HR3 HLD ⊢)
      | (refine wpList_ok rfl (exec_loadAt rfl rfl HLD.out) ?_)
      | (refine wpList_store_row rfl 52 (.tmp 4) (.tmp 25) rfl w.heap.size cr rfl rfl 52 (bArr []) HR3.out HCI.out HCS.out (bytes_one HCR.out) ?_))
    refine bodyPost_ret (HdKit.results_cell_tmp (fn := Tryd.f37) rfl _ _ w.heap.size 52 cr (0, 0) _ rfl (setRow_heap _ _ _ _ _ _ HR3.out) hash_u rfl HCI.out) rfl ?_
    exact ⟨⟨_, rfl, ⟨.inl ⟨s, cr, rfl, HCR.out, HF.out⟩⟩⟩, below_setRow HB3.out (Nat.le_refl _) _⟩
  · have HF := Fact.mk hf
    have HA : Fact ((w2.alloc (.cells zStA 122)).heap[w2.heap.size]? = some (.cells zStA 122 (0, 0))) := ⟨heap_alloc_new _ _⟩
    have HB3 : Fact (Below w.heap.size w (w2.alloc (.cells zStA 122))) := ⟨HB2.out.alloc HB2.out.size _⟩
    have HR3 : Fact ((w2.alloc (.cells zStA 122)).heap[w.heap.size]? = some (.cells (bArr []) 52 (0, 0))) := ⟨(Below.heap_alloc _ _ _ HS2.out).trans HR2.out⟩
    have HS3 : Fact (w.heap.size < (w2.alloc (.cells zStA 122)).heap.size) := ⟨by have := HS2.out; simp; omega⟩
    clear hf hv
    go_wp2_with (first
      | (refine wpList_ok rfl (ShaB.exec_alloc rfl (alloc_st _)) ?_)
      | (refine wpList_store_row rfl 122 (.tmp 6) (.tmp 17) rfl w2.heap.size zStA rfl rfl 122 zStA HA.out (infoA (s := zStt) rfl zStt_ok) rfl (oneA (s := zStt) rfl) ?_
         rw [World.setRow_alloc_new])
      | (go_at_call 23; fail))
    generalize w2.alloc (.cells zStA 122) = w3 at HB3 HR3 HS3 ⊢
    refine (At_num w3 _ _ 32 (by decide)).mono ?_
    rintro ev w4 ⟨u, rfl, he, hb⟩
    have HR4 : Fact (w4.heap[w.heap.size]? = some (.cells (bArr []) 52 (0, 0))) := ⟨(hb.block _ HS3.out).trans HR3.out⟩
    have HB4 : Fact (Below w.heap.size w w4) := ⟨HB3.out.trans (hb.mono HB3.out.size)⟩
    clear hb
    go_wp2_with (refine wpList_store_row rfl 52 (.tmp 4) (.tmp 21) rfl w.heap.size (bArr []) rfl rfl 52 (bArr []) HR4.out hBI.out rfl (bArr_one _) ?_)
    have hE : Er w.heap.size u (w4.setRow w.heap.size (bArr [])) 32 := (he.out.above (w' := w4.setRow w.heap.size (bArr [])) (fun k hk _ => setRow_other _ _ _ _ (by have := HS3.out; omega)) (by simp)).low (by have := HS3.out; omega)
    refine bodyPost_ret (HdKit.results_cell_tmp (fn := Tryd.f37) rfl _ _ w.heap.size 52 (bArr []) (0, 0) _ rfl (setRow_heap _ _ _ _ _ _ HR4.out) hash_u rfl hBI.out) rfl ?_
    exact ⟨⟨_, rfl, ⟨.inr ⟨HF.out, u, rfl, hE⟩⟩⟩, below_setRow HB4.out (Nat.le_refl _) _⟩
end Go.Proofs.YtkmcjokoinoahaaDoor.ClientH
