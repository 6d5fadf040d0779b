/- ClientNil: for every input the law answers true; what was in memory before is as it was. -/
import Derived.Test.YtkmcjokoinoahaaDoorClientE
import Derived.Deep.WholeRow
set_option linter.unusedVariables false
set_option linter.unusedSimpArgs false
namespace Go.Proofs.YtkmcjokoinoahaaDoor.LawCNil
open Go.RowKit Go.Proofs.YtkmcjokoinoahaaDoor.Lib Go.Proofs.YtkmcjokoinoahaaDoor.LibB Go.Proofs.YtkmcjokoinoahaaDoor.Reg Go.Proofs.YtkmcjokoinoahaaDoor.RegC Go.Proofs.YtkmcjokoinoahaaDoor.PlainS Go.Proofs.YtkmcjokoinoahaaDoor.ShaB Go.Proofs.YtkmcjokoinoahaaDoor.ShaC Go.Proofs.YtkmcjokoinoahaaDoor.ShaD Go.Proofs.YtkmcjokoinoahaaDoor.ShaDS Go.Proofs.YtkmcjokoinoahaaDoor.ShaE Go.Proofs.YtkmcjokoinoahaaDoor.PlainP Go.Proofs.YtkmcjokoinoahaaDoor.ParcelB Go.Proofs.YtkmcjokoinoahaaDoor.SealA Go.Proofs.YtkmcjokoinoahaaDoor.SealB Go.Proofs.YtkmcjokoinoahaaDoor.ClientA Go.Proofs.YtkmcjokoinoahaaDoor.ClientB Go.Proofs.YtkmcjokoinoahaaDoor.ClientC Go.Proofs.YtkmcjokoinoahaaDoor.ClientD Go.Proofs.YtkmcjokoinoahaaDoor.ClientE Go.Proofs.YtkmcjokoinoahaaDoor.FaultB Go.Proofs.YtkmcjokoinoahaaDoor.FaultC Go.Proofs.YtkmcjokoinoahaaDoor.FaultD
theorem bnil : (bArr []).toList = Z32.map vu8 := rfl
set_option maxHeartbeats 8000000 in
set_option maxRecDepth 100000 in
theorem ClientNil_calls (w : World) (hg : Laid w) (hl : LaidW w) (h1 : 3 < w.heap.size) (cs : Array Value) (k : Hd) (hk : k.ok) (hcs : cs.toList = hdC k) (n : Nat) :
    Calls Tryd.prog 13 #[.agg cs, .int .u64 (n : Int)] w fun ev w' => ev = .returned (.bool true) ∧ Below w.heap.size w w' := by
  have HG := Fact.mk hg
  have HL := Fact.mk hl
  have H1 := Fact.mk h1
  have HN : Fact (cs.size = 130) := ⟨by rw [← Array.length_toList, hcs]; simp [hdC, hk.root, hk.vals, hk.next, hk.sel]⟩
  have HI : Fact ((Tryd.prog.info? 54).map (·.size) = some cs.size) := ⟨by rw [HN.out]; kernel_rfl⟩
  clear hg hl h1 hk hcs
  have heq : ∀ W, (Op.equalIn 10000 52 (.agg (bArr [])) (.agg ParcelA.zA)).run Tryd.prog W = .ok true W := fun W => by
    have h := eq_hash hash_u hash_c hash_k (bArr []) ParcelA.zA Z32 Z32 bnil ParcelA.zA_list Z32_len Z32_len W
    rw [beq_self_eq_true] at h
    exact h
  unfold ParcelA.zA at heq
  have HBI : Fact ((Tryd.prog.info? 52).map (·.size) = some (bArr []).size) := ⟨hash_i (bArr_size (by decide))⟩
  have HR0 : Fact ((w.alloc (.cells cs 54)).heap[w.heap.size]? = some (.cells cs 54 (0, 0))) := ⟨heap_alloc_new _ _⟩
  have HB0 : Fact (Below w.heap.size w (w.alloc (.cells cs 54))) := ⟨(Below.refl _ _).alloc (Nat.le_refl _) _⟩
  have HS0 : Fact ((w.alloc (.cells cs 54)).heap.size = w.heap.size + 1) := ⟨by simp⟩
  go_enter Tryd.func13, Tryd.ntmps13
  go_wp2_with (go_at_call 29; fail)
  generalize w.alloc (.cells cs 54) = w0 at HR0 HB0 HS0 ⊢
  refine (ClientE.Awake_calls w0 (HG.out.below HB0.out HG.out.lt) (laid_move HL.out HB0.out H1.out) (Nat.lt_of_lt_of_le H1.out HB0.out.size)).mono ?_
  rintro e w1 ⟨rfl, hb⟩
  have HR1 : Fact (w1.heap[w.heap.size]? = some (.cells cs 54 (0, 0))) := ⟨(hb.block _ (by have := HS0.out; omega)).trans HR0.out⟩
  have HB1 : Fact (Below w.heap.size w w1) := ⟨HB0.out.trans (hb.mono HB0.out.size)⟩
  have HS1 : Fact (w.heap.size + 1 ≤ w1.heap.size) := ⟨by have := HS0.out; have := hb.size; omega⟩
  clear hb HR0 HB0 HS0
  go_wp2_with (go_at_call 37; fail)
  refine (Root_nil w1 n).mono ?_
  rintro e w2 ⟨v, rfl, he, hb⟩
  have HE : Fact (Er w.heap.size v (w2.alloc (.cells (bArr []) 52)) 1) := ⟨(he.out.low HB1.out.size).move ((Below.refl _ _).alloc (Nat.le_refl _) _)⟩
  have HR2 : Fact ((w2.alloc (.cells (bArr []) 52)).heap[w.heap.size]? = some (.cells cs 54 (0, 0))) := ⟨by rw [Below.heap_alloc _ _ _ (by have := HS1.out; have := hb.size; omega)]; exact (hb.block _ (by have := HS1.out; omega)).trans HR1.out⟩
  have HB2 : Fact (Below w.heap.size w (w2.alloc (.cells (bArr []) 52))) := ⟨(HB1.out.trans (hb.mono HB1.out.size)).alloc (Nat.le_trans HB1.out.size hb.size) _⟩
  have HA2 : Fact ((w2.alloc (.cells (bArr []) 52)).heap[w2.heap.size]? = some (.cells (bArr []) 52 (0, 0))) := ⟨heap_alloc_new _ _⟩
  have HS2 : Fact (w.heap.size < w2.heap.size ∧ w2.heap.size < (w2.alloc (.cells (bArr []) 52)).heap.size) := ⟨by have := HS1.out; have := hb.size; omega, by simp⟩
  clear hb he HR1 HB1 HS1
  go_wp2_with (first
    | (refine wpList_ok rfl (ShaB.exec_alloc rfl (alloc_b _)) ?_)
    | (refine wpList_store_row rfl 52 (.tmp 6) (.tmp 14) rfl w2.heap.size (bArr []) rfl rfl 52 (bArr []) HA2.out HBI.out rfl (bArr_one _) ?_)
    | (go_at_call 35; fail))
  rw [World.setRow_alloc_new]
  generalize w2.heap.size = g at HA2 HS2 ⊢
  generalize w2.alloc (.cells (bArr []) 52) = w3 at HE HR2 HB2 HA2 HS2 ⊢
  refine (Latest_nil w3).mono ?_
  rintro e w4 ⟨rfl, rfl⟩
  go_wp2_with (go_at_call 36; fail)
  refine (Status_nil w4 n).mono ?_
  rintro e w5 ⟨v2, rfl, he2, hb5⟩
  have HB5 : Fact (Below w4.heap.size w4 w5) := Fact.mk hb5
  clear hb5
  go_wp2_with (go_at_call 19; fail)
  have HBw5 : Fact (Below w.heap.size w w5) := ⟨HB2.out.trans (HB5.out.mono HB2.out.size)⟩
  refine (he2.out.code (HG.out.below HBw5.out HG.out.lt)).mono ?_
  rintro e w6 ⟨rfl, hb6⟩
  have HB6 : Fact (Below w4.heap.size w4 w6) := ⟨HB5.out.trans (hb6.mono HB5.out.size)⟩
  have HE6 : Fact (Er w.heap.size v w6 1) := ⟨HE.out.move HB6.out⟩
  have HA6 : Fact (w6.heap[g]? = some (.cells (bArr []) 52 (0, 0))) := ⟨(HB6.out.block _ HS2.out.2).trans HA2.out⟩
  have HR6 : Fact (w6.heap[w.heap.size]? = some (.cells cs 54 (0, 0))) := ⟨(HB6.out.block _ (Nat.lt_trans HS2.out.1 HS2.out.2)).trans HR2.out⟩
  have HBw6 : Fact (Below w.heap.size w w6) := ⟨HB2.out.trans (HB6.out.mono HB2.out.size)⟩
  clear hb6 he2 HB5 HBw5
  go_wp2_with (first
    | (refine wpList_okG (o := ⟨some 27, _, _, _, _, _⟩) rfl (HdKit.exec_loadR rfl rfl HA6.out hash_u rfl HBI.out) ?_)
    | (go_at_call 19; fail))
  refine (HE6.out.code (HG.out.below HBw6.out HG.out.lt)).mono ?_
  rintro e w7 ⟨rfl, hb7⟩
  have HR7 : Fact (w7.heap[w.heap.size]? = some (.cells cs 54 (0, 0))) := ⟨(hb7.block _ (by have := HB6.out.size; have := HS2.out; omega)).trans HR6.out⟩
  have HBw7 : Fact (Below w.heap.size w w7) := ⟨HBw6.out.trans (hb7.mono HBw6.out.size)⟩
  clear hb7 HA6 HE6 HR6 HB6
  go_wp2_with (first
    | (refine wpList_okG (o := ⟨some 38, _, _, _, _, _⟩) rfl (HdKit.exec_loadR rfl rfl HR7.out Tryd.underlying54 rfl HI.out) ?_)
    | (go_at_call 33; fail))
  refine (Update_nil w7 cs n).mono ?_
  rintro e w8 ⟨v3, rfl, he3, hb8⟩
  have HBw8 : Fact (Below w.heap.size w w8) := ⟨HBw7.out.trans (hb8.mono HBw7.out.size)⟩
  clear hb8 HR7
  go_wp2_with (go_at_call 19; fail)
  refine (he3.out.code (HG.out.below HBw8.out HG.out.lt)).mono ?_
  rintro e w9 ⟨rfl, hb9⟩
  have HBw9 : Fact (Below w.heap.size w w9) := ⟨HBw8.out.trans (hb9.mono HBw8.out.size)⟩
  clear hb9 he3
  go_wp2_with (go_at_call 34; fail)
  refine (Heights_nil w9).mono ?_
  rintro e w10 ⟨rfl, rfl⟩
  go_wp2_with fail
  go_ret
  exact ⟨rfl, HBw9.out⟩
end Go.Proofs.YtkmcjokoinoahaaDoor.LawCNil
