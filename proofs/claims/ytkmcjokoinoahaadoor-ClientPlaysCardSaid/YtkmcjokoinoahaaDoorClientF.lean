/- client.at and what it calls (slices.IndexFunc, the closure): contracts over any world. -/
import Derived.Test.YtkmcjokoinoahaaDoorClientE
set_option linter.unusedVariables false
set_option linter.unusedSimpArgs false
namespace Go.Proofs.YtkmcjokoinoahaaDoor.ClientF
open Go.RowKit Go.Proofs.YtkmcjokoinoahaaDoor.Lib Go.Proofs.YtkmcjokoinoahaaDoor.LibB Go.Proofs.YtkmcjokoinoahaaDoor.Reg Go.Proofs.YtkmcjokoinoahaaDoor.RegC Go.Proofs.YtkmcjokoinoahaaDoor.PlainS Go.Proofs.YtkmcjokoinoahaaDoor.ShaB Go.Proofs.YtkmcjokoinoahaaDoor.ShaC Go.Proofs.YtkmcjokoinoahaaDoor.ShaD Go.Proofs.YtkmcjokoinoahaaDoor.ShaDS Go.Proofs.YtkmcjokoinoahaaDoor.ShaE Go.Proofs.YtkmcjokoinoahaaDoor.PlainP Go.Proofs.YtkmcjokoinoahaaDoor.ParcelB Go.Proofs.YtkmcjokoinoahaaDoor.SealA Go.Proofs.YtkmcjokoinoahaaDoor.SealB Go.Proofs.YtkmcjokoinoahaaDoor.ClientA Go.Proofs.YtkmcjokoinoahaaDoor.ClientB Go.Proofs.YtkmcjokoinoahaaDoor.ClientC Go.Proofs.YtkmcjokoinoahaaDoor.ClientD Go.Proofs.YtkmcjokoinoahaaDoor.ClientE
/-- A client's list, its row in one block. -/
theorem Cl.row {w : World} {B cb p : Nat} {l : List Stt} {fz : Bool} (h : Cl w B cb p l fz) (hl : 0 < l.length) :
    ∃ g c, g ≠ cb ∧ B ≤ g ∧ g < w.heap.size ∧ w.heap[cb]? = some (.cells #[.int .u64 (p : Int), .slice (some ⟨g, 0, none⟩) l.length c, .bool fz] 126 (0, 0)) ∧ l.length ≤ c ∧ c ≤ 9223372036854775807 ∧ ∀ i s, l[i]? = some s → s.ok ∧ w.rangeAt g (i * 98) (stC s) := by
  obtain ⟨h1, h2, v, hr, ⟨cells, ho, he⟩, hn⟩ := h
  have hlt := ho.lt
  have hcells := fun g hv => ho.cells (g := g) hv
  rcases ho.2 with ⟨-, h0⟩ | ⟨g, cap, cur, rfl, hg, hh, hnc, hcm, -, -⟩
  · omega
  have hg2 := hlt g (by simp [Value.ownBlock])
  refine ⟨g, cap, fun e => hn (by simp [Value.ownBlock, e]), hg2.1, hg2.2, hr, hnc, by simpa [maxLen] using hcm, fun i s hi => ?_⟩
  have hk : (cells.drop (i * 98)).take 98 = stC s ∧ s.ok := he.2 i s hi
  refine ⟨hk.2, fun j v hj => ?_⟩
  rw [← hk.1, List.getElem?_take] at hj
  split at hj
  · rw [List.getElem?_drop] at hj
    have := hcells g rfl _ v hj
    rwa [add_plain'] at this
  · cases hj
set_option maxRecDepth 100000 in
theorem at1_calls (w : World) (ds : Array Value) (s : Stt) (hds : ds.toList = stC s) (a : Addr) (n : Nat) (ha : w.cell? a = some (.int .u64 (n : Int))) (b : Bool) (hb : ((s.ht : Int) == (n : Int)) = b) :
    Calls Tryd.prog 86 #[.agg ds, .pointer (some a)] w fun e w' => e = .returned (.bool b) ∧ Below w.heap.size w w' := by
  have hal := lt_of_cell ha
  have HR0 : (w.alloc (.cells ds 122)).cell? ⟨w.heap.size, 0, none⟩ = some (.int .u64 (s.ht : Int)) := row_cell (heap_alloc_new _ _) (by rw [← Array.getElem?_toList, hds]; rfl)
  have ha' : (w.alloc (.cells ds 122)).cell? a = some (.int .u64 (n : Int)) := (cell_same (Below.heap_alloc _ _ _ hal)).trans ha
  have HB0 : Fact (Below w.heap.size w (w.alloc (.cells ds 122))) := ⟨(Below.refl _ _).alloc (Nat.le_refl _) _⟩
  clear ha hds
  go_enter Tryd.func86, Tryd.ntmps86
  go_wp2_with fail
  go_ret
  exact ⟨rfl, HB0.out⟩
def qE (n : Nat) (s : Stt) : Bool := s.ht == n
theorem find_step {l : List Stt} {n k : Nat} {s : Stt} (h : l[k]? = some s) : (l.drop k).find? (qE n) = if s.ht = n then some s else (l.drop (k + 1)).find? (qE n) := by
  obtain ⟨hk, he⟩ := List.getElem?_eq_some_iff.1 h
  rw [List.drop_eq_getElem_cons hk, he, List.find?_cons]
  by_cases hn : s.ht = n
  · rw [if_pos hn]
    have h2 : (s.ht == n) = true := by simpa using hn
    simp only [qE, h2]
  · rw [if_neg hn]
    have h2 : (s.ht == n) = false := by simpa using hn
    simp only [qE, h2]
set_option maxHeartbeats 4000000 in
set_option maxRecDepth 100000 in
theorem IndexFunc_calls (w : World) (g c m : Nat) (l : List Stt) (hm : l.length = m) (hmm : m ≤ 140737488355328) (hg : g < w.heap.size) (hl : ∀ i s, l[i]? = some s → s.ok ∧ w.rangeAt g (i * 98) (stC s)) (b : Nat) (n : Nat) (hb : w.cell? ⟨b, 0, none⟩ = some (.int .u64 (n : Int))) :
    Calls Tryd.prog 85 #[.slice (some ⟨g, 0, none⟩) m c, .func (.func 86) #[] #[.pointer (some ⟨b, 0, none⟩)]] w
      fun e w' => (e = .returned (.int .i64 (-1)) ∧ l.find? (qE n) = none ∨ ∃ (k : Nat) (s : Stt), e = .returned (.int .i64 (k : Int)) ∧ l[k]? = some s ∧ l.find? (qE n) = some s) ∧ Below w.heap.size w w' := by
  have hbl : b < w.heap.size := lt_of_cell hb
  have HL := Fact.mk hl
  have HM := Fact.mk hm
  have HB := Fact.mk hb
  clear hl hm hb
  go_enter Tryd.func85, Tryd.ntmps85
  go_wp2_with fail
  go_loopg [8] m (fun kq i wr => ∃ k : Nat, i = .int .i64 (k : Int) ∧ Fact (k + kq = m) ∧ Fact (l.find? (qE n) = (l.drop k).find? (qE n)) ∧ Fact (Below w.heap.size w wr))
  case atStart => exact ⟨0, rfl, ⟨by omega⟩, ⟨rfl⟩, ⟨Below.refl _ _⟩⟩
  case round =>
    obtain ⟨k, rfl, HK, HFD, HBW⟩ := hrel
    by_cases hlt : k < m
    · obtain ⟨s, hs⟩ : ∃ s, l[k]? = some s := ⟨_, List.getElem?_eq_getElem (by have := HM.out; omega)⟩
      have HST := Fact.mk (find_step (n := n) hs)
      have HSG := Fact.mk hs
      obtain ⟨ds, hds⟩ : ∃ ds : Array Value, ds = (stC s).toArray := ⟨_, rfl⟩
      have HDS : Fact (ds.toList = stC s) := ⟨by rw [hds]⟩
      have HLD : Fact ((Instr.loadAt 122 (.pointer (some ⟨g, k * 98, none⟩))).run Tryd.prog wr = .ok (.agg ds) wr) := ⟨by
        obtain ⟨ko, kr⟩ := HL.out k s hs
        have := run_loadAt_mid (P := Tryd.prog) wr g (k * 98) 122 (stC s) _ (fun j v hj => (HBW.out.cell (p := ⟨g, k * 98 + j, none⟩) hg).trans (kr j v hj)) Tryd.underlying122 rfl (by rw [stC_len ko]; kernel_rfl)
        rw [hds]
        exact this⟩
      have hcb : wr.cell? ⟨b, 0, none⟩ = some (.int .u64 (n : Int)) := (HBW.out.cell (p := ⟨b, 0, none⟩) hbl).trans HB.out
      have hwk : IntKind.i64.wrap ((k : Int) + 1) = (k : Int) + 1 := by rw [IntKind.wrap_i64]; omega
      have hap : (⟨g, 0, none⟩ : Addr).add (k * 98) = ⟨g, k * 98, none⟩ := add_plain' _ _
      clear hds hs
      by_cases hq : s.ht = n
      · have hq' : ((s.ht : Int) == (n : Int)) = true := by simp; omega
        have HFI : Fact (l.find? (qE n) = some s) := ⟨by rw [HFD.out, HST.out, if_pos hq]⟩
        clear hq
        go_wp2_with (first
          | (refine wpList_ok rfl (exec_loadAt rfl rfl HLD.out) ?_)
          | (go_at_call 86; fail))
        refine (at1_calls wr ds s HDS.out ⟨b, 0, none⟩ n hcb true hq').mono ?_
        rintro e w2 ⟨rfl, hb2⟩
        have HB2 : Fact (Below w.heap.size w w2) := ⟨HBW.out.trans (hb2.mono HBW.out.size)⟩
        clear hb2 hcb HLD
        go_wp2_with fail
        go_ret
        exact ⟨.inr ⟨k, s, rfl, HSG.out, HFI.out⟩, HB2.out⟩
      · have hq' : ((s.ht : Int) == (n : Int)) = false := by simp; omega
        have HFI : Fact (l.find? (qE n) = (l.drop (k + 1)).find? (qE n)) := ⟨by rw [HFD.out, HST.out, if_neg hq]⟩
        clear hq
        go_wp2_with (first
          | (refine wpList_ok rfl (exec_loadAt rfl rfl HLD.out) ?_)
          | (go_at_call 86; fail))
        refine (at1_calls wr ds s HDS.out ⟨b, 0, none⟩ n hcb false hq').mono ?_
        rintro e w2 ⟨rfl, hb2⟩
        have HB2 : Fact (Below w.heap.size w w2) := ⟨HBW.out.trans (hb2.mono HBW.out.size)⟩
        clear hb2 hcb HLD
        go_wp2_with fail
        go_roundg (m - (k + 1))
        case measure => have := HK.out; omega
        case rel => exact ⟨k + 1, by go_num, ⟨by omega⟩, HFI, HB2⟩
    · obtain rfl : k = m := by have := HK.out; omega
      have HFI : Fact (l.find? (qE n) = none) := ⟨by rw [HFD.out, List.drop_of_length_le (by rw [HM.out]; exact Nat.le_refl _)]; rfl⟩
      go_wp2_with fail
      go_ret
      exact ⟨.inl ⟨rfl, HFI.out⟩, HBW.out⟩
end Go.Proofs.YtkmcjokoinoahaaDoor.ClientF
