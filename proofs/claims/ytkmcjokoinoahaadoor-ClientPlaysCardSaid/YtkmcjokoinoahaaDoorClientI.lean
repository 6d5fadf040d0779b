/- client.Heights, slices.Clone of states: contracts over any world. -/
import Derived.Test.YtkmcjokoinoahaaDoorClientH
set_option linter.unusedVariables false
set_option linter.unusedSimpArgs false
namespace Go.Proofs.YtkmcjokoinoahaaDoor.ClientI
open Go.RowKit Go.Proofs.YtkmcjokoinoahaaDoor.Lib Go.Proofs.YtkmcjokoinoahaaDoor.LibB Go.Proofs.YtkmcjokoinoahaaDoor.Reg Go.Proofs.YtkmcjokoinoahaaDoor.RegC Go.Proofs.YtkmcjokoinoahaaDoor.PlainS Go.Proofs.YtkmcjokoinoahaaDoor.ShaB Go.Proofs.YtkmcjokoinoahaaDoor.ShaC Go.Proofs.YtkmcjokoinoahaaDoor.ShaD Go.Proofs.YtkmcjokoinoahaaDoor.ShaDS Go.Proofs.YtkmcjokoinoahaaDoor.ShaE Go.Proofs.YtkmcjokoinoahaaDoor.PlainP Go.Proofs.YtkmcjokoinoahaaDoor.ParcelB Go.Proofs.YtkmcjokoinoahaaDoor.SealA Go.Proofs.YtkmcjokoinoahaaDoor.SealB Go.Proofs.YtkmcjokoinoahaaDoor.ClientA Go.Proofs.YtkmcjokoinoahaaDoor.ClientB Go.Proofs.YtkmcjokoinoahaaDoor.ClientC Go.Proofs.YtkmcjokoinoahaaDoor.ClientD Go.Proofs.YtkmcjokoinoahaaDoor.ClientE Go.Proofs.YtkmcjokoinoahaaDoor.ClientF Go.Proofs.YtkmcjokoinoahaaDoor.ClientG Go.Proofs.YtkmcjokoinoahaaDoor.ClientH
def rNat : Rep Nat := Rep.flat (fun n => .int .u64 (n : Int)) (fun _ => rfl)
theorem info_u64 : (Tryd.prog.info? 50).map (fun i => (i.zero, i.size, i.bytes)) = some (some (.int .u64 0), 1, 8) := by kernel_rfl
theorem els_nat (w : World) (F : Nat → Prop) (n : Nat) : Els rNat w F [n] (#[Value.int .u64 (n : Int)] : Array Value).toList := Els.one_ (r := rNat) (show rNat.K w F n [Value.int .u64 (n : Int)] from rfl)
theorem map_take_snoc {l : List Stt} {k : Nat} {s : Stt} (h : l[k]? = some s) : (l.take (k + 1)).map Stt.ht = (l.take k).map Stt.ht ++ [s.ht] := by
  obtain ⟨hk, he⟩ := List.getElem?_eq_some_iff.1 h
  rw [List.take_succ_eq_append_getElem hk, he, List.map_append]
  rfl
set_option maxHeartbeats 1000000 in
set_option maxRecDepth 100000 in
theorem Heights_calls (w : World) (B cb p : Nat) (l : List Stt) (fz : Bool) (h : Cl w B cb p l fz) (hl : 0 < l.length) (hl2 : l.length ≤ 1000000) :
    Calls Tryd.prog 34 #[.pointer (some ⟨cb, 0, none⟩)] w fun e w' => (∃ A c, e = .returned (.slice A l.length c) ∧ Fact (Sl rNat w' (fun k => w.heap.size ≤ k ∧ k < w'.heap.size) A l.length c (l.map Stt.ht))) ∧ Below w.heap.size w w' := by
  obtain ⟨g, c, hgc, hBg, hgl, hr, hlc, hcm, hrow⟩ := Cl.row h hl
  have hcb : cb < w.heap.size := h.2.1
  have HROW := Fact.mk hrow
  obtain ⟨m, hm⟩ : ∃ m, l.length = m := ⟨_, rfl⟩
  rw [hm] at hr hlc hl2
  have HM := Fact.mk hm
  have HL := Fact.mk hl
  have c1 : w.cell? ⟨cb, 1, none⟩ = some (.slice (some ⟨g, 0, none⟩) m c) := row_cell hr rfl
  clear hrow h hm hl hr
  go_enter Tryd.func34, Tryd.ntmps34
  go_wp2_with fail
  go_loopg [3, 13] m (fun kq v i wr => ∃ k : Nat, i = .int .i64 (k : Int) ∧ Fact (k + kq = m) ∧ Fact (Ow rNat 50 wr w.heap.size (fun _ => False) v ((l.take k).map Stt.ht)) ∧ Fact (Below w.heap.size w wr))
  case atStart => exact ⟨0, rfl, ⟨by omega⟩, ⟨Ow.nil _ _ _ _ _⟩, ⟨Below.refl _ _⟩⟩
  case round =>
    obtain ⟨k, rfl, HK, HO, HB⟩ := hrel
    have hlen : ((l.take k).map Stt.ht).length = k := by rw [List.length_map, List.length_take]; have := HK.out; have := HM.out; omega
    obtain ⟨A1, cA, hv, hs1⟩ := HO.out.sl
    rw [hlen] at hv
    subst hv
    have HLEN := Fact.mk hlen
    clear hs1 hlen
    by_cases hlt : k < m
    · obtain ⟨s, hs⟩ : ∃ s, l[k]? = some s := ⟨_, List.getElem?_eq_getElem (by have := HM.out; omega)⟩
      have HTS := Fact.mk (map_take_snoc hs)
      obtain ⟨ko, kr⟩ := HROW.out k s hs
      obtain ⟨ds, hds⟩ : ∃ ds : Array Value, ds = (stC s).toArray := ⟨_, rfl⟩
      have HDS : Fact (ds.toList = stC s) := ⟨by rw [hds]⟩
      have HKO := Fact.mk ko
      have HLD : Fact ((Instr.loadAt 122 (.pointer (some ⟨g, k * 98, none⟩))).run Tryd.prog wr = .ok (.agg ds) wr) := ⟨load_row ko (range_below kr HB.out hgl) HDS.out⟩
      have hap : (⟨g, 0, none⟩ : Addr).add (k * 98) = ⟨g, k * 98, none⟩ := add_plain' _ _
      have HII : Fact ((Tryd.prog.info? 122).map (·.size) = some ds.size) := ⟨infoA HDS.out ko⟩
      have HSZ : Fact (zStA.size = ds.size) := ⟨by rw [zStA_size, sizeA HDS.out ko]⟩
      have HA : Fact ((wr.alloc (.cells zStA 122)).heap[wr.heap.size]? = some (.cells zStA 122 (0, 0))) := ⟨heap_alloc_new _ _⟩
      have hwk : IntKind.i64.wrap ((k : Int) + 1) = (k : Int) + 1 := by rw [IntKind.wrap_i64]; omega
      have HB2 : Fact (Below w.heap.size w (wr.alloc (.cells ds 122))) := ⟨HB.out.alloc HB.out.size _⟩
      have HO2 : Fact (Ow rNat 50 (wr.alloc (.cells ds 122)) w.heap.size (fun _ => False) (.slice A1 k cA) ((l.take k).map Stt.ht)) := ⟨HO.out.below ((Below.refl _ _).alloc (Nat.le_refl _) _) (fun _ h => h.elim)⟩
      have ch : (wr.alloc (.cells ds 122)).cell? ⟨wr.heap.size, 0, none⟩ = some (.int .u64 (s.ht : Int)) := row_cell (heap_alloc_new _ _) (by rw [← Array.getElem?_toList, HDS.out]; rfl)
      have HSB : Fact (Sl rNat ((wr.alloc (.cells ds 122)).alloc (.cells #[.int .u64 (s.ht : Int)] 50)) (fun k => k = wr.heap.size + 1) (some ⟨wr.heap.size + 1, 0, none⟩) 1 1 [s.ht]) := ⟨by
        have h1 := (Sl.box (F := fun _ => False) (wr.alloc (.cells ds 122)) 50 (els_nat _ _ s.ht) (by simp)).mono (F' := fun k => k = wr.heap.size + 1) (fun k hk => by simpa using hk)
        simpa using h1⟩
      clear hds hs ko kr
      go_wp2_with (first
        | (refine wpList_ok rfl (exec_loadAt rfl rfl HLD.out) ?_)
        | (refine wpList_ok rfl (ShaB.exec_alloc rfl (alloc_st _)) ?_)
        | (refine wpList_store_row rfl 122 (.tmp 5) (.tmp 16) rfl wr.heap.size ds rfl rfl 122 zStA HA.out HII.out HSZ.out (oneA HDS.out) ?_
           rw [World.setRow_alloc_new])
        | (at_builtin
           refine wpList_app rNat (w0 := w) w.heap.size rfl (.tmp 17) (.tmp 20) 61 50 (.int .u64 0) 8 rfl Tryd.underlying61 info_u64 rfl (by decide) (by decide) (fun _ => False) (fun k => k = wr.heap.size + 1) (.slice A1 k cA) ((l.take k).map Stt.ht) [s.ht] _ 1 1 rfl rfl (HO2.out.below ((Below.refl _ _).alloc (Nat.le_refl _) _) (fun _ h => h.elim)) HSB.out (HB2.out.alloc HB2.out.size _) (by have := HB2.out.size; simp at this ⊢; omega) (by rw [HLEN.out]; omega) (fun _ h => h.elim) (fun _ _ h => h) ?_
           intro v3 w3 ho3 hb3 hg3 hat3
           have HO3 := Fact.mk ho3
           have HB3 := Fact.mk hb3
           clear ho3 hb3 hg3 hat3))
      go_roundg (m - (k + 1))
      case measure => have := HK.out; omega
      case rel => exact ⟨k + 1, by go_num, ⟨by omega⟩, ⟨by rw [HTS.out]; exact HO3.out⟩, HB3⟩
    · obtain rfl : k = m := by have := HK.out; omega
      have HTF : Fact ((l.take k).map Stt.ht = l.map Stt.ht) := ⟨by rw [List.take_of_length_le (by rw [HM.out]; exact Nat.le_refl _)]⟩
      go_wp2_with fail
      go_ret
      have ho := HO.out
      rw [HTF.out] at ho
      have hs := ow_slF ho
      exact ⟨⟨A1, cA, by rw [HM.out]; rfl, ⟨by rw [HM.out]; exact hs⟩⟩, HB.out⟩
end Go.Proofs.YtkmcjokoinoahaaDoor.ClientI
