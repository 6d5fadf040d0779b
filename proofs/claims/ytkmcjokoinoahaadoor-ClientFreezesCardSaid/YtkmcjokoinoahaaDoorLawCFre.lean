/- ClientFreezes: for every input the law answers true; what was in memory before is as it was. -/
import Derived.Test.YtkmcjokoinoahaaDoorClientL
set_option linter.unusedVariables false
set_option linter.unusedSimpArgs false
namespace Go.Proofs.YtkmcjokoinoahaaDoor.LawCFre
open Go.RowKit Go.Proofs.YtkmcjokoinoahaaDoor.Lib Go.Proofs.YtkmcjokoinoahaaDoor.LibB Go.Proofs.YtkmcjokoinoahaaDoor.Reg Go.Proofs.YtkmcjokoinoahaaDoor.RegC Go.Proofs.YtkmcjokoinoahaaDoor.RegD Go.Proofs.YtkmcjokoinoahaaDoor.PlainS Go.Proofs.YtkmcjokoinoahaaDoor.ShaB Go.Proofs.YtkmcjokoinoahaaDoor.ShaC Go.Proofs.YtkmcjokoinoahaaDoor.ShaD Go.Proofs.YtkmcjokoinoahaaDoor.ShaDS Go.Proofs.YtkmcjokoinoahaaDoor.ShaE Go.Proofs.YtkmcjokoinoahaaDoor.PlainP Go.Proofs.YtkmcjokoinoahaaDoor.ParcelB Go.Proofs.YtkmcjokoinoahaaDoor.SealA Go.Proofs.YtkmcjokoinoahaaDoor.SealB Go.Proofs.YtkmcjokoinoahaaDoor.ClientA Go.Proofs.YtkmcjokoinoahaaDoor.ClientB Go.Proofs.YtkmcjokoinoahaaDoor.ClientC Go.Proofs.YtkmcjokoinoahaaDoor.ClientD Go.Proofs.YtkmcjokoinoahaaDoor.ClientE Go.Proofs.YtkmcjokoinoahaaDoor.ClientF Go.Proofs.YtkmcjokoinoahaaDoor.ClientG Go.Proofs.YtkmcjokoinoahaaDoor.ClientH Go.Proofs.YtkmcjokoinoahaaDoor.ClientI Go.Proofs.YtkmcjokoinoahaaDoor.ClientJ Go.Proofs.YtkmcjokoinoahaaDoor.RefD Go.Proofs.YtkmcjokoinoahaaDoor.ClientK Go.Proofs.YtkmcjokoinoahaaDoor.FaultB Go.Proofs.YtkmcjokoinoahaaDoor.FaultC Go.Proofs.YtkmcjokoinoahaaDoor.FaultD
theorem set_ht {h : Hd} {cs : Array Value} (hcs : cs.toList = hdC h) (n : Nat) : (cs.setIfInBounds 0 (.int .u64 (n : Int))).toList = hdC { h with ht := n } := by
  rw [Array.toList_setIfInBounds, hcs]; rfl
theorem set_tm {h : Hd} {cs : Array Value} (hcs : cs.toList = hdC h) (n : Nat) : (cs.setIfInBounds 1 (.int .u64 (n : Int))).toList = hdC { h with tm := n } := by
  rw [Array.toList_setIfInBounds, hcs]; rfl
/-- A header that lies in a block. -/
def HdAt (w : World) (b : Nat) (h : Hd) : Prop := h.ok ∧ ∃ cs : Array Value, cs.toList = hdC h ∧ w.heap[b]? = some (.cells cs 54 (0, 0))
theorem HdAt.below {w w' : World} {b : Nat} {h : Hd} (k : HdAt w b h) {B : Nat} (hb : Below B w w') (hlt : b < B) : HdAt w' b h := by
  obtain ⟨ko, cs, hcs, hr⟩ := k
  exact ⟨ko, cs, hcs, (hb.block _ hlt).trans hr⟩
set_option maxHeartbeats 1000000 in
set_option maxRecDepth 100000 in
theorem ClientFreezes_calls (w : World) (hg : Laid w) (hl : LaidW w) (h1 : 3 < w.heap.size) (hlr : LaidR w) (h2 : 1 < w.heap.size)
    (ca cb0 cc : Array Value) (ka kb kc : Hd) (hka : ka.ok) (hkb : kb.ok) (hkc : kc.ok) (hca : ca.toList = hdC ka) (hcb : cb0.toList = hdC kb) (hcc : cc.toList = hdC kc) (now : Nat) (hn : now < 18446744073709551616) :
    Calls Tryd.prog 10 #[.agg ca, .agg cb0, .agg cc, .int .u64 (now : Int)] w fun ev w' => ev = .returned (.bool true) ∧ Below w.heap.size w w' := by
  have HG := Fact.mk hg
  have HL := Fact.mk hl
  have H1 := Fact.mk h1
  have HLR := Fact.mk hlr
  have H2 := Fact.mk h2
  have HKA := Fact.mk hka
  have HKB := Fact.mk hkb
  have HKC := Fact.mk hkc
  have HCA := Fact.mk hca
  have HCB := Fact.mk hcb
  have HCC := Fact.mk hcc
  clear hg hl h1 hlr h2 hka hkb hkc hca hcb hcc
  have HB0 : Fact (Below w.heap.size w (((w.alloc (.cells ca 54)).alloc (.cells cb0 54)).alloc (.cells cc 54))) := ⟨(((Below.refl _ _).alloc (Nat.le_refl _) _).alloc (by simp) _).alloc (by simp; omega) _⟩
  have HS0 : Fact ((((w.alloc (.cells ca 54)).alloc (.cells cb0 54)).alloc (.cells cc 54)).heap.size = w.heap.size + 3) := ⟨by simp⟩
  have HRA0 : Fact ((((w.alloc (.cells ca 54)).alloc (.cells cb0 54)).alloc (.cells cc 54)).heap[w.heap.size]? = some (.cells ca 54 (0, 0))) := ⟨by rw [Below.heap_alloc _ _ _ (by simp; omega), Below.heap_alloc _ _ _ (by simp)]; exact heap_alloc_new _ _⟩
  have HRB0 : Fact ((((w.alloc (.cells ca 54)).alloc (.cells cb0 54)).alloc (.cells cc 54)).heap[w.heap.size + 1]? = some (.cells cb0 54 (0, 0))) := ⟨by rw [Below.heap_alloc _ _ _ (by simp)]; exact heap_alloc2_new w _ _⟩
  have HRC0 : Fact ((((w.alloc (.cells ca 54)).alloc (.cells cb0 54)).alloc (.cells cc 54)).heap[w.heap.size + 2]? = some (.cells cc 54 (0, 0))) := ⟨by have := heap_alloc_new ((w.alloc (.cells ca 54)).alloc (.cells cb0 54)) (.cells cc 54); simpa using this⟩
  go_enter Tryd.func10, Tryd.ntmps10
  go_wp2_with (go_at_call 29; fail)
  generalize ((w.alloc (.cells ca 54)).alloc (.cells cb0 54)).alloc (.cells cc 54) = w0 at HB0 HS0 HRA0 HRB0 HRC0 ⊢
  refine (ClientE.Awake_calls w0 (HG.out.below HB0.out HG.out.lt) (laid_move HL.out HB0.out H1.out) (Nat.lt_of_lt_of_le H1.out HB0.out.size)).mono ?_
  rintro e w1 ⟨rfl, hb⟩
  have HB1 : Fact (Below w.heap.size w w1) := ⟨HB0.out.trans (hb.mono HB0.out.size)⟩
  have HS1 : Fact (w.heap.size + 3 ≤ w1.heap.size) := ⟨by have := HS0.out; have := hb.size; omega⟩
  have HRA1 : Fact (w1.heap[w.heap.size]? = some (.cells ca 54 (0, 0))) := ⟨(hb.block _ (by have := HS0.out; omega)).trans HRA0.out⟩
  have HRB1 : Fact (w1.heap[w.heap.size + 1]? = some (.cells cb0 54 (0, 0))) := ⟨(hb.block _ (by have := HS0.out; omega)).trans HRB0.out⟩
  have HRC1 : Fact (w1.heap[w.heap.size + 2]? = some (.cells cc 54 (0, 0))) := ⟨(hb.block _ (by have := HS0.out; omega)).trans HRC0.out⟩
  clear hb HB0 HS0 HRA0 HRB0 HRC0
  have p0 := (hd_parts HKA.out HCA.out HRA1.out).1
  have p1 := (hd_parts HKA.out HCA.out HRA1.out).2.1
  have f0 : w1.frozen? ⟨w.heap.size, 0, none⟩ = false := row_free HRA1.out
  have f1 : w1.frozen? ⟨w.heap.size, 1, none⟩ = false := row_free HRA1.out
  have hm1 : ((ka.ht : Int)).tmod 1000 = ((ka.ht % 1000 : Nat) : Int) := by rw [Int.tmod_eq_emod_of_nonneg (by omega)]; omega
  have hm1' : (ka.ht : Int) % 1000 = ((ka.ht % 1000 : Nat) : Int) := by omega
  have hm2 : ((ka.tm : Int)).tmod 1000 = ((ka.tm % 1000 : Nat) : Int) := by rw [Int.tmod_eq_emod_of_nonneg (by omega)]; omega
  have hm2' : (ka.tm : Int) % 1000 = ((ka.tm % 1000 : Nat) : Int) := by omega
  obtain ⟨x, hx⟩ : ∃ x, ka.ht % 1000 = x := ⟨_, rfl⟩
  obtain ⟨y, hy⟩ : ∃ y, ka.tm % 1000 = y := ⟨_, rfl⟩
  have hxl : x < 1000 := by omega
  have hyl : y < 1000 := by omega
  rw [hx] at hm1 hm1'
  rw [hy] at hm2 hm2'
  have HX := Fact.mk hx
  have HY := Fact.mk hy
  clear hx hy
  obtain ⟨fst, hfst⟩ : ∃ fst : Hd, fst = { ka with ht := 1 + x, tm := y } := ⟨_, rfl⟩
  obtain ⟨c2, hc2⟩ : ∃ c2 : Array Value, c2 = (ca.setIfInBounds 0 (.int .u64 (1 + (x : Int)))).setIfInBounds 1 (.int .u64 (y : Int)) := ⟨_, rfl⟩
  have HC2 : Fact (c2.toList = hdC fst) := ⟨by rw [hc2, hfst]; have := set_tm (set_ht HCA.out (1 + x)) y; simpa using this⟩
  have HKF : Fact fst.ok := ⟨by rw [hfst]; exact ⟨by simp; omega, by simp; omega, HKA.out.root, HKA.out.vals, HKA.out.next, HKA.out.sel⟩⟩
  have HFH : Fact (fst.ht = 1 + x ∧ fst.tm = y) := ⟨by rw [hfst]; exact ⟨rfl, rfl⟩⟩
  have HRA2 : Fact (((w1.setCell ⟨w.heap.size, 0, none⟩ (.int .u64 (1 + (x : Int)))).setCell ⟨w.heap.size, 1, none⟩ (.int .u64 (y : Int))).heap[w.heap.size]? = some (.cells c2 54 (0, 0))) := ⟨by rw [hc2]; exact row_set _ (row_set _ HRA1.out)⟩
  have HRB2 : Fact (((w1.setCell ⟨w.heap.size, 0, none⟩ (.int .u64 (1 + (x : Int)))).setCell ⟨w.heap.size, 1, none⟩ (.int .u64 (y : Int))).heap[w.heap.size + 1]? = some (.cells cb0 54 (0, 0))) := ⟨by rw [heap_setCell_other _ _ _ _ (by simp), heap_setCell_other _ _ _ _ (by simp)]; exact HRB1.out⟩
  have HRC2 : Fact (((w1.setCell ⟨w.heap.size, 0, none⟩ (.int .u64 (1 + (x : Int)))).setCell ⟨w.heap.size, 1, none⟩ (.int .u64 (y : Int))).heap[w.heap.size + 2]? = some (.cells cc 54 (0, 0))) := ⟨by rw [heap_setCell_other _ _ _ _ (by simp), heap_setCell_other _ _ _ _ (by simp)]; exact HRC1.out⟩
  have HB2 : Fact (Below w.heap.size w ((w1.setCell ⟨w.heap.size, 0, none⟩ (.int .u64 (1 + (x : Int)))).setCell ⟨w.heap.size, 1, none⟩ (.int .u64 (y : Int)))) := ⟨(HB1.out.setCell (p := ⟨w.heap.size, 0, none⟩) (Nat.le_refl _) _).setCell (p := ⟨w.heap.size, 1, none⟩) (Nat.le_refl _) _⟩
  have HS2 : Fact (w.heap.size + 3 ≤ ((w1.setCell ⟨w.heap.size, 0, none⟩ (.int .u64 (1 + (x : Int)))).setCell ⟨w.heap.size, 1, none⟩ (.int .u64 (y : Int))).heap.size) := ⟨by simp; exact HS1.out⟩
  have hI2 : Fact ((Tryd.prog.info? 54).map (·.size) = some c2.size) := ⟨HdKit.hd_i (by rw [← Array.length_toList, HC2.out, HdKit.hdC_len HKF.out])⟩
  clear hc2 hfst
  go_wp2_with (first
    | (refine wpList_load_row rfl 54 (.tmp 4) rfl w.heap.size rfl 54 c2 (0, 0) _ HRA2.out Tryd.underlying54 rfl hI2.out ?_)
    | (go_at_call 30; fail))
  generalize (w1.setCell ⟨w.heap.size, 0, none⟩ (.int .u64 (1 + (x : Int)))).setCell ⟨w.heap.size, 1, none⟩ (.int .u64 (y : Int)) = w2 at HRA2 HRB2 HRC2 HB2 HS2 ⊢
  refine (New_calls w2 fst HKF.out c2 HC2.out 4294967296 (by decide) (laid_move HL.out HB2.out H1.out) (Nat.lt_of_lt_of_le H1.out HB2.out.size)).mono ?_
  rintro e w3 ⟨hr, hb⟩
  have hnew : newE fst 4294967296 = 0 := by
    have := HFH.out
    unfold newE
    rw [if_neg (by decide), if_neg (by omega), if_neg (by omega)]
  obtain ⟨hz, -⟩ | ⟨-, cb, rfl, hcl⟩ := hr
  · exact absurd hnew hz
  obtain ⟨g, hcg⟩ := Cl.cg hcl.out (by simp)
  have HCG3 := Fact.mk hcg
  have HB3 : Fact (Below w.heap.size w w3) := ⟨HB2.out.trans (hb.mono HB2.out.size)⟩
  have HRA3 : Fact (w3.heap[w.heap.size]? = some (.cells c2 54 (0, 0))) := ⟨(hb.block _ (by have := HS2.out; omega)).trans HRA2.out⟩
  have HRB3 : Fact (w3.heap[w.heap.size + 1]? = some (.cells cb0 54 (0, 0))) := ⟨(hb.block _ (by have := HS2.out; omega)).trans HRB2.out⟩
  have HRC3 : Fact (w3.heap[w.heap.size + 2]? = some (.cells cc 54 (0, 0))) := ⟨(hb.block _ (by have := HS2.out; omega)).trans HRC2.out⟩
  have HCB3 : Fact (w.heap.size + 3 ≤ cb ∧ w.heap.size + 3 ≤ g) := ⟨by have := hcg.1; have := hcg.lt; have := HS2.out; omega⟩
  have HS3 : Fact (w.heap.size + 3 ≤ w3.heap.size) := ⟨by have := HS2.out; have := hb.size; omega⟩
  generalize w2.heap.size = BB at HCG3
  clear hb hnew hcl hcg HRA2 HRB2 HRC2 HB2 HS2 p0 p1 f0 f1 HRA1 HRB1 HRC1 HB1 HS1
  clear w2 w1
  have p0 : w3.cell? ⟨w.heap.size, 0, none⟩ = some (.int .u64 (1 + (x : Int))) := by have := (hd_parts HKF.out HC2.out HRA3.out).1; rw [HFH.out.1] at this; simpa using this
  have p1 : w3.cell? ⟨w.heap.size + 1, 0, none⟩ = some (.int .u64 (kb.ht : Int)) := (hd_parts HKB.out HCB.out HRB3.out).1
  have f0 : w3.frozen? ⟨w.heap.size + 1, 0, none⟩ = false := row_free HRB3.out
  obtain ⟨ot, hot⟩ : ∃ ot : Hd, ot = { kb with ht := 1 + x } := ⟨_, rfl⟩
  obtain ⟨c3, hc3⟩ : ∃ c3 : Array Value, c3 = cb0.setIfInBounds 0 (.int .u64 (1 + (x : Int))) := ⟨_, rfl⟩
  have HC3 : Fact (c3.toList = hdC ot) := ⟨by rw [hc3, hot]; have := set_ht HCB.out (1 + x); simpa using this⟩
  have HKO : Fact ot.ok := ⟨by rw [hot]; exact ⟨by simp; omega, HKB.out.tm, HKB.out.root, HKB.out.vals, HKB.out.next, HKB.out.sel⟩⟩
  have HOH : Fact (ot.ht = 1 + x) := ⟨by rw [hot]⟩
  have HRB4 : Fact ((w3.setCell ⟨w.heap.size + 1, 0, none⟩ (.int .u64 (1 + (x : Int)))).heap[w.heap.size + 1]? = some (.cells c3 54 (0, 0))) := ⟨by rw [hc3]; exact row_set _ HRB3.out⟩
  have HRA4 : Fact ((w3.setCell ⟨w.heap.size + 1, 0, none⟩ (.int .u64 (1 + (x : Int)))).heap[w.heap.size]? = some (.cells c2 54 (0, 0))) := ⟨by rw [heap_setCell_other _ _ _ _ (by simp)]; exact HRA3.out⟩
  have HRC4 : Fact ((w3.setCell ⟨w.heap.size + 1, 0, none⟩ (.int .u64 (1 + (x : Int)))).heap[w.heap.size + 2]? = some (.cells cc 54 (0, 0))) := ⟨by rw [heap_setCell_other _ _ _ _ (by simp)]; exact HRC3.out⟩
  have HB4 : Fact (Below w.heap.size w (w3.setCell ⟨w.heap.size + 1, 0, none⟩ (.int .u64 (1 + (x : Int))))) := ⟨HB3.out.setCell (p := ⟨w.heap.size + 1, 0, none⟩) (by simp) _⟩
  have HCG4 : Fact (Cg (w3.setCell ⟨w.heap.size + 1, 0, none⟩ (.int .u64 (1 + (x : Int)))) BB cb g 4294967296 [ofH fst] false) := ⟨HCG3.out.move (heap_setCell_other _ _ _ _ (by have := HCB3.out; simp; omega)) (heap_setCell_other _ _ _ _ (by have := HCB3.out; simp; omega)) (by simp)⟩
  have HS4 : Fact (w.heap.size + 3 ≤ (w3.setCell ⟨w.heap.size + 1, 0, none⟩ (.int .u64 (1 + (x : Int)))).heap.size) := ⟨by simp; exact HS3.out⟩
  have hI3 : Fact ((Tryd.prog.info? 54).map (·.size) = some c3.size) := ⟨HdKit.hd_i (by rw [← Array.length_toList, HC3.out, HdKit.hdC_len HKO.out])⟩
  clear hot hc3
  go_wp2_with (first
    | (refine wpList_load_row rfl 54 (.tmp 5) rfl (w.heap.size + 1) rfl 54 c3 (0, 0) _ HRB4.out Tryd.underlying54 rfl hI3.out ?_)
    | (go_at_call 32; fail))
  generalize w3.setCell ⟨w.heap.size + 1, 0, none⟩ (.int .u64 (1 + (x : Int))) = w4 at HRA4 HRB4 HRC4 HB4 HCG4 HS4 ⊢
  clear p0 p1 f0 HRA3 HRB3 HRC3 HB3 HCG3 HS3
  clear w3
  refine (RSeal_calls w4 ot HKO.out c3 HC3.out (laidR_move HLR.out HB4.out H2.out) (Nat.lt_of_lt_of_le H2.out HB4.out.size)).mono ?_
  rintro e w5 ⟨⟨ds, rfl, hds⟩, hb⟩
  have HDS := Fact.mk hds.out
  have HB5 : Fact (Below w.heap.size w w5) := ⟨HB4.out.trans (hb.mono HB4.out.size)⟩
  have HRA5 : Fact (w5.heap[w.heap.size]? = some (.cells c2 54 (0, 0))) := ⟨(hb.block _ (by have := HS4.out; omega)).trans HRA4.out⟩
  have HRB5 : Fact (w5.heap[w.heap.size + 1]? = some (.cells c3 54 (0, 0))) := ⟨(hb.block _ (by have := HS4.out; omega)).trans HRB4.out⟩
  have HRC5 : Fact (w5.heap[w.heap.size + 2]? = some (.cells cc 54 (0, 0))) := ⟨(hb.block _ (by have := HS4.out; omega)).trans HRC4.out⟩
  have HCG5 : Fact (Cg w5 BB cb g 4294967296 [ofH fst] false) := ⟨HCG4.out.below hb⟩
  have HS5 : Fact (w.heap.size + 3 ≤ w5.heap.size) := ⟨by have := HS4.out; have := hb.size; omega⟩
  clear hb hds HRA4 HRB4 HRC4 HB4 HCG4 HS4
  clear w4
  have HT5 : Fact (w5.there (w.heap.size + 1) 98 ds.size) := ⟨by rw [bytes_size HDS.out (sha_len _)]; exact there_row HRB5.out (by rw [← Array.length_toList, HC3.out, HdKit.hdC_len HKO.out]) (by decide)⟩
  have hID : Fact ((Tryd.prog.info? 52).map (·.size) = some ds.size) := ⟨hash_i (bytes_size HDS.out (sha_len _))⟩
  obtain ⟨oth, hoth⟩ : ∃ oth : Hd, oth = { ot with sel := shaL (sealB ot) } := ⟨_, rfl⟩
  have HSO : Fact (shaL (sealB oth) = oth.sel) := ⟨by rw [hoth]; rfl⟩
  have HOT : Fact (oth.ht = 1 + x) := ⟨by rw [hoth]; exact HOH.out⟩
  have HKT : Fact oth.ok := ⟨by rw [hoth]; exact ⟨HKO.out.ht, HKO.out.tm, HKO.out.root, HKO.out.vals, HKO.out.next, sha_len _⟩⟩
  have HC4 : Fact ((setFrom c3 98 ds.toList).toList = hdC oth) := ⟨by rw [hoth, HDS.out]; exact hdC_seal HKO.out c3 HC3.out _ (sha_len _)⟩
  have HRB6 : Fact ((w5.setCells (w.heap.size + 1) 98 ds.toList).heap[w.heap.size + 1]? = some (.cells (setFrom c3 98 ds.toList) 54 (0, 0))) := ⟨row_setCells _ _ _ _ HRB5.out⟩
  have HRA6 : Fact ((w5.setCells (w.heap.size + 1) 98 ds.toList).heap[w.heap.size]? = some (.cells c2 54 (0, 0))) := ⟨(other_setCells (by omega) _ _ _).trans HRA5.out⟩
  have HRC6 : Fact ((w5.setCells (w.heap.size + 1) 98 ds.toList).heap[w.heap.size + 2]? = some (.cells cc 54 (0, 0))) := ⟨(other_setCells (by omega) _ _ _).trans HRC5.out⟩
  have HB6 : Fact (Below w.heap.size w (w5.setCells (w.heap.size + 1) 98 ds.toList)) := ⟨below_setCells _ _ HB5.out (by omega)⟩
  have HS6 : Fact (w.heap.size + 3 ≤ (w5.setCells (w.heap.size + 1) 98 ds.toList).heap.size) := ⟨by rw [size_setCells']; exact HS5.out⟩
  have HCG6 : Fact (Cg (w5.setCells (w.heap.size + 1) 98 ds.toList) BB cb g 4294967296 [ofH fst] false) := ⟨HCG5.out.move (other_setCells (by have := HCB3.out; omega) _ _ _) (other_setCells (by have := HCB3.out; omega) _ _ _) (by rw [size_setCells']; exact Nat.le_refl _)⟩
  have hIC : Fact ((Tryd.prog.info? 54).map (·.size) = some cc.size) := ⟨HdKit.hd_i (by rw [← Array.length_toList, HCC.out, HdKit.hdC_len HKC.out])⟩
  go_wp2_with (first
    | (refine wpList_store_mid rfl 52 (.tmp 36) (.tmp 35) rfl (w.heap.size + 1) 98 ds rfl rfl HT5.out hID.out (bytes_one HDS.out) ?_)
    | (refine wpList_load_row rfl 54 (.tmp 6) rfl (w.heap.size + 1 + 1) rfl 54 cc (0, 0) _ HRC6.out Tryd.underlying54 rfl hIC.out ?_)
    | (go_at_call 32; fail))
  clear hoth HRA5 HRB5 HRC5 HB5 HCG5 HS5 HT5 hID HDS
  generalize w5.setCells (w.heap.size + 1) 98 ds.toList = w6 at HRA6 HRB6 HRC6 HB6 HS6 HCG6 ⊢
  generalize setFrom c3 98 ds.toList = c4 at HC4 HRB6
  clear w5
  refine (RSeal_calls w6 kc HKC.out cc HCC.out (laidR_move HLR.out HB6.out H2.out) (Nat.lt_of_lt_of_le H2.out HB6.out.size)).mono ?_
  rintro e w7 ⟨⟨dm, rfl, hdm⟩, hb⟩
  have HDM := Fact.mk hdm.out
  have HB7 : Fact (Below w.heap.size w w7) := ⟨HB6.out.trans (hb.mono HB6.out.size)⟩
  have HRA7 : Fact (w7.heap[w.heap.size]? = some (.cells c2 54 (0, 0))) := ⟨(hb.block _ (by have := HS6.out; omega)).trans HRA6.out⟩
  have HRB7 : Fact (w7.heap[w.heap.size + 1]? = some (.cells c4 54 (0, 0))) := ⟨(hb.block _ (by have := HS6.out; omega)).trans HRB6.out⟩
  have HRC7 : Fact (w7.heap[w.heap.size + 2]? = some (.cells cc 54 (0, 0))) := ⟨(hb.block _ (by have := HS6.out; omega)).trans HRC6.out⟩
  have HCG7 : Fact (Cg w7 BB cb g 4294967296 [ofH fst] false) := ⟨HCG6.out.below hb⟩
  have HS7 : Fact (w.heap.size + 3 ≤ w7.heap.size) := ⟨by have := HS6.out; have := hb.size; omega⟩
  clear hb hdm HRA6 HRB6 HRC6 HB6 HCG6 HS6
  clear w6
  have HT7 : Fact (w7.there (w.heap.size + 1 + 1) 98 dm.size) := ⟨by rw [bytes_size HDM.out (sha_len _)]; exact there_row HRC7.out (by rw [← Array.length_toList, HCC.out, HdKit.hdC_len HKC.out]) (by decide)⟩
  have hID : Fact ((Tryd.prog.info? 52).map (·.size) = some dm.size) := ⟨hash_i (bytes_size HDM.out (sha_len _))⟩
  have hn1 : ((now : Int)).tmod 1000 = ((now % 1000 : Nat) : Int) := by rw [Int.tmod_eq_emod_of_nonneg (by omega)]; omega
  have hn2 : (now : Int) % 1000 = ((now % 1000 : Nat) : Int) := by omega
  obtain ⟨z, hz⟩ : ∃ z, now % 1000 = z := ⟨_, rfl⟩
  have hzl : z < 1000 := by omega
  rw [hz] at hn1 hn2
  clear hz
  go_wp2_with (refine wpList_store_mid rfl 52 (.tmp 39) (.tmp 38) rfl (w.heap.size + 1 + 1) 98 dm rfl rfl HT7.out hID.out (bytes_one HDM.out) ?_)
  obtain ⟨mor, hmor⟩ : ∃ mor : Hd, mor = { kc with sel := shaL (sealB kc) } := ⟨_, rfl⟩
  have HKM : Fact mor.ok := ⟨by rw [hmor]; exact ⟨HKC.out.ht, HKC.out.tm, HKC.out.root, HKC.out.vals, HKC.out.next, sha_len _⟩⟩
  have HC5 : Fact ((setFrom cc 98 dm.toList).toList = hdC mor) := ⟨by rw [hmor, HDM.out]; exact hdC_seal HKC.out cc HCC.out _ (sha_len _)⟩
  have HRC8 : Fact ((w7.setCells (w.heap.size + 1 + 1) 98 dm.toList).heap[w.heap.size + 1 + 1]? = some (.cells (setFrom cc 98 dm.toList) 54 (0, 0))) := ⟨row_setCells _ _ _ _ HRC7.out⟩
  have HRA8 : Fact ((w7.setCells (w.heap.size + 1 + 1) 98 dm.toList).heap[w.heap.size]? = some (.cells c2 54 (0, 0))) := ⟨(other_setCells (by omega) _ _ _).trans HRA7.out⟩
  have HRB8 : Fact ((w7.setCells (w.heap.size + 1 + 1) 98 dm.toList).heap[w.heap.size + 1]? = some (.cells c4 54 (0, 0))) := ⟨(other_setCells (by omega) _ _ _).trans HRB7.out⟩
  have HB8 : Fact (Below w.heap.size w (w7.setCells (w.heap.size + 1 + 1) 98 dm.toList)) := ⟨below_setCells _ _ HB7.out (by omega)⟩
  have HS8 : Fact (w.heap.size + 3 ≤ (w7.setCells (w.heap.size + 1 + 1) 98 dm.toList).heap.size) := ⟨by rw [size_setCells']; exact HS7.out⟩
  have HCG8 : Fact (Cg (w7.setCells (w.heap.size + 1 + 1) 98 dm.toList) BB cb g 4294967296 [ofH fst] false) := ⟨HCG7.out.move (other_setCells (by have := HCB3.out; omega) _ _ _) (other_setCells (by have := HCB3.out; omega) _ _ _) (by rw [size_setCells']; exact Nat.le_refl _)⟩
  clear hmor HRA7 HRB7 HRC7 HB7 HCG7 HS7 HT7 hID HDM
  generalize w7.setCells (w.heap.size + 1 + 1) 98 dm.toList = w8 at HRA8 HRB8 HRC8 HB8 HS8 HCG8 ⊢
  generalize setFrom cc 98 dm.toList = c5 at HC5 HRC8
  clear w7
  obtain ⟨cx, hcx⟩ : ∃ cx : Array Value, cx = (oth.sel.map vu8).toArray := ⟨_, rfl⟩
  have HCX : Fact (cx.toList = oth.sel.map vu8) := ⟨by rw [hcx]⟩
  have HLX : Fact (∀ W, Below w8.heap.size w8 W → (Instr.loadAt 52 (.pointer (some ⟨w.heap.size + 1, 98, none⟩))).run Tryd.prog W = .ok (.agg cx) W) := ⟨fun W hS => by rw [hcx]; exact load_hash HKT.out.sel (hd_parts HKT.out HC4.out ((hS.block _ (by have := HS8.out; omega)).trans HRB8.out)).2.2.2.2.2⟩
  clear hcx
  refine wp_region_P (fun W => Below w8.heap.size w8 W) (.tell 0 (.tell 2 (.tell 3 (.one 1 (.tell 4 (.tell 5 .done)))))) (by kernel_rfl) (by kernel_rfl) (by kernel_rfl) (by intro c a d v w h; cases d <;> exact h) (Below.refl _ _).drew ?_
  have HBd : Fact (Below w8.heap.size w8 w8.drew) := ⟨(Below.refl _ _).drew⟩
  generalize w8.drew = wd8 at HBd ⊢
  refine plan_tell rfl rfl (v := .agg c2) (fun W hS => exec_loadRow (g := w.heap.size) rfl rfl ((hS.block _ (by have := HS8.out; omega)).trans HRA8.out) Tryd.underlying54 rfl hI2.out) ?_
  simp only [List.getElem_toArray, List.getElem_cons_succ, List.getElem_cons_zero, Act.put, List.setIfInBounds_toArray, List.set_cons_succ, List.set_cons_zero]
  refine plan_tell rfl rfl (fun W hS => by
    go_simp
    first | done | rfl) ?_
  simp only [List.getElem_toArray, List.getElem_cons_succ, List.getElem_cons_zero, Act.put, List.setIfInBounds_toArray, List.set_cons_succ, List.set_cons_zero]
  refine plan_tell rfl rfl (v := .agg cx) (fun W hS => exec_loadAt rfl rfl (HLX.out W hS)) ?_
  simp only [List.getElem_toArray, List.getElem_cons_succ, List.getElem_cons_zero, Act.put, List.setIfInBounds_toArray, List.set_cons_succ, List.set_cons_zero]
  refine turn_call (f := 32) (args := #[.agg c2]) rfl rfl rfl Tryd.func32 (by kernel_rfl) rfl (by simp only [List.map_toArray, List.map_cons, List.map_nil]; rfl) ?_
  refine (RSeal_calls wd8 fst HKF.out c2 HC2.out (laidR_move HLR.out (HB8.out.trans (HBd.out.mono HB8.out.size)) H2.out) (by have := HBd.out.size; have := HB8.out.size; have := H2.out; omega)).mono ?_
  rintro e w9 ⟨⟨cy, rfl, hcy⟩, hb9⟩
  have HB9' : Fact (Below w8.heap.size w8 w9) := ⟨HBd.out.trans (hb9.mono HBd.out.size)⟩
  have heq := eq_hash hash_u hash_c hash_k cy cx (shaL (sealB fst)) oth.sel hcy.out HCX.out (sha_len _) HKT.out.sel
  clear hb9 hcy HBd
  refine ⟨_, rfl, HB9'.out, ?_⟩
  simp only [List.getElem_toArray, List.getElem_cons_succ, List.getElem_cons_zero, Act.put, List.setIfInBounds_toArray, List.set_cons_succ, List.set_cons_zero]
  obtain ⟨bs, hbs⟩ : ∃ bs, (shaL (sealB fst) == oth.sel) = bs := ⟨_, rfl⟩
  rw [hbs] at heq
  refine plan_tell rfl rfl (v := .bool bs) (fun W hS => by
    have hq := heq W
    go_simp
    first | done | rfl) ?_
  simp only [List.getElem_toArray, List.getElem_cons_succ, List.getElem_cons_zero, Act.put, List.setIfInBounds_toArray, List.set_cons_succ, List.set_cons_zero]
  refine plan_tell rfl rfl (fun W hS => by
    go_simp
    first | done | rfl) ?_
  simp only [List.getElem_toArray, List.getElem_cons_succ, List.getElem_cons_zero, Act.put, List.setIfInBounds_toArray, List.set_cons_succ, List.set_cons_zero]
  unfold wpPlan
  have HB9 : Fact (Below w.heap.size w w9) := ⟨HB8.out.trans (HB9'.out.mono HB8.out.size)⟩
  have HRA9 : Fact (w9.heap[w.heap.size]? = some (.cells c2 54 (0, 0))) := ⟨(HB9'.out.block _ (by have := HS8.out; omega)).trans HRA8.out⟩
  have HRB9 : Fact (w9.heap[w.heap.size + 1]? = some (.cells c4 54 (0, 0))) := ⟨(HB9'.out.block _ (by have := HS8.out; omega)).trans HRB8.out⟩
  have HRC9 : Fact (w9.heap[w.heap.size + 1 + 1]? = some (.cells c5 54 (0, 0))) := ⟨(HB9'.out.block _ (by have := HS8.out; omega)).trans HRC8.out⟩
  have HCG9 : Fact (Cg w9 BB cb g 4294967296 [ofH fst] false) := ⟨HCG8.out.below HB9'.out⟩
  have HS9 : Fact (w.heap.size + 3 ≤ w9.heap.size) := ⟨by have := HS8.out; have := HB9'.out.size; omega⟩
  have HBS := Fact.mk hbs
  clear hbs heq HLX HRA8 HRB8 HRC8 HB8 HCG8 HS8 HB9' HCX
  clear w8
  have hI4 : Fact ((Tryd.prog.info? 54).map (·.size) = some c4.size) := ⟨HdKit.hd_i (by rw [← Array.length_toList, HC4.out, HdKit.hdC_len HKT.out])⟩
  go_wp2_with (first
    | (refine wpList_load_row rfl 54 (.tmp 5) rfl (w.heap.size + 1) rfl 54 c4 (0, 0) _ HRB9.out Tryd.underlying54 rfl hI4.out ?_)
    | (go_at_call 33; fail))
  refine (Update_calls w9 BB cb g 4294967296 [ofH fst] false HCG9.out 0 rfl (by decide) (ofH fst) rfl oth HKT.out c4 HC4.out z (by omega) (laid_move HL.out HB9.out H1.out) (Nat.lt_of_lt_of_le H1.out HB9.out.size)).mono ?_
  rintro e w10 ⟨v, g2, rfl, he, hcg, hgg, hmod⟩
  have hfh := HFH.out
  have hst : statE false 4294967296 (ofH fst) z = 0 := by
    unfold statE
    rw [if_neg (by decide), if_neg]
    have : (ofH fst).tm = fst.tm := rfl
    omega
  have HU : Fact (updM 4294967296 [ofH fst] false (ofH fst) oth z = (0, [ofH fst], !bs)) := ⟨by
    unfold updM
    have hq : [ofH fst].find? (qE oth.ht) = some (ofH fst) := by
      have : (ofH fst).ht = oth.ht := by show fst.ht = oth.ht; rw [HOT.out]; exact hfh.1
      rw [List.find?_cons]
      simp [qE, this]
    rw [if_neg (fun e => e hst), if_neg (fun e => e HSO.out.symm), hq]
    have hall : (ofH fst).all = shaL (sealB fst) := rfl
    simp only [hall]
    have hb := HBS.out
    cases bs with
    | true => rw [if_pos (by simpa using hb)]; rfl
    | false => rw [if_neg (by simpa using hb)]; rfl⟩
  rw [HU.out] at he hcg
  obtain ⟨-, rfl⟩ | ⟨h0, -⟩ := he.out
  rotate_left
  · exact absurd rfl h0
  have HCG10 := hcg
  have HB10 : Fact (Below w.heap.size w w10) := ⟨HB9.out.trans (hmod.out.below HB9.out.size (by have := HCB3.out; omega) (by have := HCB3.out; omega))⟩
  have HRA10 : Fact (w10.heap[w.heap.size]? = some (.cells c2 54 (0, 0))) := ⟨(hmod.out.block _ (by have := HS9.out; omega) (by have := HCB3.out; omega) (by have := HCB3.out; omega)).trans HRA9.out⟩
  have HRC10 : Fact (w10.heap[w.heap.size + 1 + 1]? = some (.cells c5 54 (0, 0))) := ⟨(hmod.out.block _ (by have := HS9.out; omega) (by have := HCB3.out; omega) (by have := HCB3.out; omega)).trans HRC9.out⟩
  have HGG : Fact (w.heap.size + 3 ≤ g2) := ⟨by have := HCB3.out; have := HS9.out; rcases hgg.out with rfl | h <;> omega⟩
  have HS10 : Fact (w.heap.size + 3 ≤ w10.heap.size) := ⟨by have := HS9.out; have := hmod.out.size; omega⟩
  clear hfh he hcg hgg hmod HU HRA9 HRB9 HRC9 HB9 HCG9 HS9 hI4
  clear w9
  cases bs with
  | true =>
    go_wp2_with (go_at_call 36; fail)
    refine (Status_calls w10 BB cb 4294967296 [ofH fst] false HCG10.out.cl 0 rfl (ofH fst) rfl z (by omega)).mono ?_
    rintro e w11 ⟨v, rfl, he, hb⟩
    rw [hst] at he
    have HB11 : Fact (Below w.heap.size w w11) := ⟨HB10.out.trans (hb.mono HB10.out.size)⟩
    clear hb
    obtain ⟨-, rfl⟩ | ⟨h0, -⟩ := he.out
    rotate_left
    · exact absurd rfl h0
    clear he hst
    go_wp2_with fail
    go_ret
    exact ⟨rfl, HB11.out⟩
  | false =>
    have hI5 : Fact ((Tryd.prog.info? 54).map (·.size) = some c5.size) := ⟨HdKit.hd_i (by rw [← Array.length_toList, HC5.out, HdKit.hdC_len HKM.out])⟩
    clear hst
    go_wp2_with (first
      | (refine wpList_load_row rfl 54 (.tmp 6) rfl (w.heap.size + 1 + 1) rfl 54 c5 (0, 0) _ HRC10.out Tryd.underlying54 rfl hI5.out ?_)
      | (go_at_call 33; fail))
    refine (Update_calls w10 BB cb g2 4294967296 [ofH fst] true HCG10.out 0 rfl (by decide) (ofH fst) rfl mor HKM.out c5 HC5.out z (by omega) (laid_move HL.out HB10.out H1.out) (Nat.lt_of_lt_of_le H1.out HB10.out.size)).mono ?_
    rintro e w11 ⟨v, g3, rfl, he, hcg, hgg, hmod⟩
    have hU : updM 4294967296 [ofH fst] true (ofH fst) mor z = (30, [ofH fst], true) := by
      unfold updM
      have : statE true 4294967296 (ofH fst) z = 30 := rfl
      rw [this, if_pos (by decide)]
    rw [hU] at he hcg
    have HCG11 := hcg
    have HB11 : Fact (Below w.heap.size w w11) := ⟨HB10.out.trans (hmod.out.below HB10.out.size (by have := HCB3.out; omega) (by have := HGG.out; omega))⟩
    have HRA11 : Fact (w11.heap[w.heap.size]? = some (.cells c2 54 (0, 0))) := ⟨(hmod.out.block _ (by have := HS10.out; omega) (by have := HCB3.out; omega) (by have := HGG.out; omega)).trans HRA10.out⟩
    have HS11 : Fact (w.heap.size + 3 ≤ w11.heap.size) := ⟨by have := HS10.out; have := hmod.out.size; omega⟩
    have HE11 : Fact (Er w.heap.size v w11 30) := ⟨he.out.low HB10.out.size⟩
    clear he hcg hgg hmod hU HRA10 HRC10 HB10 HCG10 HS10
    clear w10
    have p0 : w11.cell? ⟨w.heap.size, 0, none⟩ = some (.int .u64 (fst.ht : Int)) := (hd_parts HKF.out HC2.out HRA11.out).1
    go_wp2_with (go_at_call 37; fail)
    refine (Root_calls w11 BB cb 4294967296 [ofH fst] true HCG11.out.cl (by simp) (by simp) fst.ht).mono ?_
    rintro e w12 ⟨⟨vr, rfl, hv⟩, hb⟩
    have hq : [ofH fst].find? (qE fst.ht) = some (ofH fst) := by
      have : (ofH fst).ht = fst.ht := rfl
      rw [List.find?_cons]
      simp [qE, this]
    obtain ⟨s, dr, rfl, hdr, hf⟩ | ⟨hf, -⟩ := hv.out
    rotate_left
    · rw [hq] at hf; cases hf
    obtain rfl : ofH fst = s := by rw [hq] at hf; injection hf
    have HDR : Fact (dr.toList = fst.root.map vu8) := ⟨hdr⟩
    have HB12 : Fact (Below w.heap.size w (w12.alloc (.cells dr 52))) := ⟨(HB11.out.trans (hb.mono HB11.out.size)).alloc (Nat.le_trans HB11.out.size hb.size) _⟩
    have HRA12 : Fact ((w12.alloc (.cells dr 52)).heap[w.heap.size]? = some (.cells c2 54 (0, 0))) := ⟨(Below.heap_alloc _ _ _ (by have := HS11.out; have := hb.size; omega)).trans ((hb.block _ (by have := HS11.out; omega)).trans HRA11.out)⟩
    have HCG12 : Fact (Cg (w12.alloc (.cells dr 52)) BB cb g3 4294967296 [ofH fst] true) := ⟨(HCG11.out.below hb).below ((Below.refl _ _).alloc (Nat.le_refl _) _)⟩
    have HE12 : Fact (Er w.heap.size v (w12.alloc (.cells dr 52)) 30) := ⟨(HE11.out.move hb).move ((Below.refl _ _).alloc (Nat.le_refl _) _)⟩
    have HRD12 : Fact ((w12.alloc (.cells dr 52)).heap[w12.heap.size]? = some (.cells dr 52 (0, 0))) := ⟨heap_alloc_new _ _⟩
    have HS12 : Fact (w.heap.size + 3 ≤ (w12.alloc (.cells dr 52)).heap.size ∧ w12.heap.size < (w12.alloc (.cells dr 52)).heap.size) := ⟨by have := HS11.out; have := hb.size; simp; omega⟩
    have HA12 : Fact ((w12.alloc (.cells (bArr []) 52)).heap[w12.heap.size]? = some (.cells (bArr []) 52 (0, 0))) := ⟨heap_alloc_new _ _⟩
    have hIR : Fact ((Tryd.prog.info? 52).map (·.size) = some dr.size) := ⟨hash_i (bytes_size HDR.out HKF.out.root)⟩
    have hIZ : Fact ((bArr []).size = dr.size) := ⟨by rw [bytes_size HDR.out HKF.out.root]; rfl⟩
    clear hv hf hdr hq hb p0 HB11 HRA11 HS11 HCG11 HE11
    go_wp2_with (first
      | (refine wpList_ok rfl (ShaB.exec_alloc rfl (alloc_b _)) ?_)
      | (refine wpList_store_row rfl 52 (.tmp 13) (.tmp 66) rfl w12.heap.size dr rfl rfl 52 (bArr []) HA12.out hIR.out hIZ.out (bytes_one HDR.out) ?_
         rw [World.setRow_alloc_new]))
    generalize w12.heap.size = rb at HRD12 HS12 ⊢
    generalize w12.alloc (.cells dr 52) = w13 at HB12 HRA12 HCG12 HE12 HRD12 HS12 ⊢
    clear HA12
    clear w12 w11
    obtain ⟨cr, hcr⟩ : ∃ cr : Array Value, cr = (fst.root.map vu8).toArray := ⟨_, rfl⟩
    have HCR : Fact (cr.toList = fst.root.map vu8) := ⟨by rw [hcr]⟩
    have HP : Fact (∀ W, Below w13.heap.size w13 W → W.cell? ⟨w.heap.size, 0, none⟩ = some (.int .u64 (fst.ht : Int))) := ⟨fun W hS => (hd_parts HKF.out HC2.out ((hS.block _ (by have := HS12.out; omega)).trans HRA12.out)).1⟩
    have HLR : Fact (∀ W, Below w13.heap.size w13 W → (Instr.loadAt 52 (.pointer (some ⟨w.heap.size, 2, none⟩))).run Tryd.prog W = .ok (.agg cr) W) := ⟨fun W hS => by rw [hcr]; exact load_hash HKF.out.root (hd_parts HKF.out HC2.out ((hS.block _ (by have := HS12.out; omega)).trans HRA12.out)).2.2.1⟩
    clear hcr
    have heq := eq_hash hash_u hash_c hash_k dr cr fst.root fst.root HDR.out HCR.out HKF.out.root HKF.out.root
    rw [beq_self_eq_true] at heq
    refine wp_region_P (fun W => Below w13.heap.size w13 W) (.tell 0 (.tell 1 (.tell 2 (.tell 3 (.one 4 (.tell 5 (.tell 6 (.tell 7 (.tell 8 (.tell 9 (.one 10 (.one 11 (.tell 12 (.tell 13 (.tell 14 (.tell 15 (.tell 16 (.tell 17 (.tell 18 (.tell 19 (.tell 20 (.tell 21 (.tell 22 (.tell 23 (.tell 24 (.tell 25 (.tell 27 (.tell 28 (.one 26 (.tell 29 (.tell 30 (.tell 31 .done)))))))))))))))))))))))))))))))) (by kernel_rfl) (by kernel_rfl) (by kernel_rfl) (by intro c a d v w h; cases d <;> exact h) (Below.refl _ _).drew ?_
    have HBd : Fact (Below w13.heap.size w13 w13.drew) := ⟨(Below.refl _ _).drew⟩
    generalize w13.drew = wd at HBd ⊢
    refine plan_tell rfl rfl (fun W hS => by
      go_simp
      first | done | rfl) ?_
    simp only [List.getElem_toArray, List.getElem_cons_succ, List.getElem_cons_zero, Act.put, List.setIfInBounds_toArray, List.set_cons_succ, List.set_cons_zero]
    refine plan_tell rfl rfl (fun W hS => by
      go_simp
      first | done | rfl) ?_
    simp only [List.getElem_toArray, List.getElem_cons_succ, List.getElem_cons_zero, Act.put, List.setIfInBounds_toArray, List.set_cons_succ, List.set_cons_zero]
    refine plan_tell rfl rfl (fun W hS => by
      go_simp
      first | done | rfl) ?_
    simp only [List.getElem_toArray, List.getElem_cons_succ, List.getElem_cons_zero, Act.put, List.setIfInBounds_toArray, List.set_cons_succ, List.set_cons_zero]
    refine plan_tellG rfl rfl (fun W hS => by
      go_simp
      first | done | rfl) ?_
    simp only [List.getElem_toArray, List.getElem_cons_succ, List.getElem_cons_zero, Act.put, List.setIfInBounds_toArray, List.set_cons_succ, List.set_cons_zero]
    refine turn_callG (f := 19) (args := #[v]) rfl rfl rfl Tryd.func19 (by kernel_rfl) rfl (by simp only [List.map_toArray, List.map_cons, List.map_nil]; rfl) ?_
    refine ((HE12.out.move HBd.out).code (HG.out.below (HB12.out.trans (HBd.out.mono HB12.out.size)) HG.out.lt)).mono ?_
    rintro e v1 ⟨rfl, hb⟩
    have HB1 : Fact (Below w13.heap.size w13 v1) := ⟨HBd.out.trans (hb.mono HBd.out.size)⟩
    clear hb HBd
    refine ⟨_, rfl, HB1.out, ?_⟩
    simp only [List.getElem_toArray, List.getElem_cons_succ, List.getElem_cons_zero, Act.put, List.setIfInBounds_toArray, List.set_cons_succ, List.set_cons_zero]
    refine plan_tellG rfl rfl (fun W hS => by
      go_simp
      first | done | rfl) ?_
    simp only [List.getElem_toArray, List.getElem_cons_succ, List.getElem_cons_zero, Act.put, List.setIfInBounds_toArray, List.set_cons_succ, List.set_cons_zero]
    refine plan_tell rfl rfl (fun W hS => by
      go_simp
      first | done | rfl) ?_
    simp only [List.getElem_toArray, List.getElem_cons_succ, List.getElem_cons_zero, Act.put, List.setIfInBounds_toArray, List.set_cons_succ, List.set_cons_zero]
    refine plan_tell rfl rfl (fun W hS => by
      go_simp
      first | done | rfl) ?_
    simp only [List.getElem_toArray, List.getElem_cons_succ, List.getElem_cons_zero, Act.put, List.setIfInBounds_toArray, List.set_cons_succ, List.set_cons_zero]
    refine plan_tellG rfl rfl (fun W hS => by
      go_simp
      first | done | rfl) ?_
    simp only [List.getElem_toArray, List.getElem_cons_succ, List.getElem_cons_zero, Act.put, List.setIfInBounds_toArray, List.set_cons_succ, List.set_cons_zero]
    refine plan_tellG rfl rfl (fun W hS => by
      go_simp
      first | done | rfl) ?_
    simp only [List.getElem_toArray, List.getElem_cons_succ, List.getElem_cons_zero, Act.put, List.setIfInBounds_toArray, List.set_cons_succ, List.set_cons_zero]
    refine turn_callG (f := 36) (args := #[.pointer (some ⟨cb, 0, none⟩), .int .u64 (z : Int)]) rfl rfl rfl Tryd.func36 (by kernel_rfl) rfl (by simp only [List.map_toArray, List.map_cons, List.map_nil]; rfl) ?_
    refine (Status_calls v1 BB cb 4294967296 [ofH fst] true (HCG12.out.below HB1.out).cl 0 rfl (ofH fst) rfl z (by omega)).mono ?_
    rintro e v2 ⟨u, rfl, he, hb⟩
    have hst : statE true 4294967296 (ofH fst) z = 30 := rfl
    rw [hst] at he
    have HB2 : Fact (Below w13.heap.size w13 v2) := ⟨HB1.out.trans (hb.mono HB1.out.size)⟩
    clear hb hst
    refine ⟨_, rfl, HB2.out, ?_⟩
    simp only [List.getElem_toArray, List.getElem_cons_succ, List.getElem_cons_zero, Act.put, List.setIfInBounds_toArray, List.set_cons_succ, List.set_cons_zero]
    refine turn_callG (f := 19) (args := #[u]) rfl rfl rfl Tryd.func19 (by kernel_rfl) rfl (by simp only [List.map_toArray, List.map_cons, List.map_nil]; rfl) ?_
    refine (he.out.code (HG.out.below (HB12.out.trans (HB2.out.mono HB12.out.size)) HG.out.lt)).mono ?_
    rintro e v3 ⟨rfl, hb⟩
    have HB3 : Fact (Below w13.heap.size w13 v3) := ⟨HB2.out.trans (hb.mono HB2.out.size)⟩
    clear hb he
    refine ⟨_, rfl, HB3.out, ?_⟩
    simp only [List.getElem_toArray, List.getElem_cons_succ, List.getElem_cons_zero, Act.put, List.setIfInBounds_toArray, List.set_cons_succ, List.set_cons_zero]
    refine plan_tellG rfl rfl (fun W hS => by
      go_simp
      first | done | rfl) ?_
    simp only [List.getElem_toArray, List.getElem_cons_succ, List.getElem_cons_zero, Act.put, List.setIfInBounds_toArray, List.set_cons_succ, List.set_cons_zero]
    refine plan_tell rfl rfl (fun W hS => by
      go_simp
      first | done | rfl) ?_
    simp only [List.getElem_toArray, List.getElem_cons_succ, List.getElem_cons_zero, Act.put, List.setIfInBounds_toArray, List.set_cons_succ, List.set_cons_zero]
    refine plan_tell rfl rfl (fun W hS => by
      go_simp
      first | done | rfl) ?_
    simp only [List.getElem_toArray, List.getElem_cons_succ, List.getElem_cons_zero, Act.put, List.setIfInBounds_toArray, List.set_cons_succ, List.set_cons_zero]
    refine plan_tellG rfl rfl (fun W hS => by
      go_simp
      first | done | rfl) ?_
    simp only [List.getElem_toArray, List.getElem_cons_succ, List.getElem_cons_zero, Act.put, List.setIfInBounds_toArray, List.set_cons_succ, List.set_cons_zero]
    refine plan_tellG rfl rfl (fun W hS => by
      go_simp
      first | done | rfl) ?_
    simp only [List.getElem_toArray, List.getElem_cons_succ, List.getElem_cons_zero, Act.put, List.setIfInBounds_toArray, List.set_cons_succ, List.set_cons_zero]
    refine plan_tell rfl rfl (fun W hS => by
      go_simp
      first | done | rfl) ?_
    simp only [List.getElem_toArray, List.getElem_cons_succ, List.getElem_cons_zero, Act.put, List.setIfInBounds_toArray, List.set_cons_succ, List.set_cons_zero]
    refine plan_tell rfl rfl (fun W hS => by
      go_simp
      first | done | rfl) ?_
    simp only [List.getElem_toArray, List.getElem_cons_succ, List.getElem_cons_zero, Act.put, List.setIfInBounds_toArray, List.set_cons_succ, List.set_cons_zero]
    refine plan_tellG rfl rfl (v := .agg dr) (fun W hS => exec_loadRow (g := rb) rfl rfl ((hS.block _ HS12.out.2).trans HRD12.out) hash_u rfl hIR.out) ?_
    simp only [List.getElem_toArray, List.getElem_cons_succ, List.getElem_cons_zero, Act.put, List.setIfInBounds_toArray, List.set_cons_succ, List.set_cons_zero]
    refine plan_tellG rfl rfl (fun W hS => by
      go_simp
      first | done | rfl) ?_
    simp only [List.getElem_toArray, List.getElem_cons_succ, List.getElem_cons_zero, Act.put, List.setIfInBounds_toArray, List.set_cons_succ, List.set_cons_zero]
    refine plan_tellG rfl rfl (v := .agg cr) (fun W hS => exec_loadAt rfl rfl (HLR.out W hS)) ?_
    simp only [List.getElem_toArray, List.getElem_cons_succ, List.getElem_cons_zero, Act.put, List.setIfInBounds_toArray, List.set_cons_succ, List.set_cons_zero]
    refine plan_tellG rfl rfl (fun W hS => by
      have hq := heq W
      go_simp
      first | done | rfl) ?_
    simp only [List.getElem_toArray, List.getElem_cons_succ, List.getElem_cons_zero, Act.put, List.setIfInBounds_toArray, List.set_cons_succ, List.set_cons_zero]
    refine plan_tell rfl rfl (fun W hS => by
      go_simp
      first | done | rfl) ?_
    simp only [List.getElem_toArray, List.getElem_cons_succ, List.getElem_cons_zero, Act.put, List.setIfInBounds_toArray, List.set_cons_succ, List.set_cons_zero]
    refine plan_tell rfl rfl (fun W hS => by
      go_simp
      first | done | rfl) ?_
    simp only [List.getElem_toArray, List.getElem_cons_succ, List.getElem_cons_zero, Act.put, List.setIfInBounds_toArray, List.set_cons_succ, List.set_cons_zero]
    refine plan_tellG rfl rfl (fun W hS => by
      go_simp
      first | done | rfl) ?_
    simp only [List.getElem_toArray, List.getElem_cons_succ, List.getElem_cons_zero, Act.put, List.setIfInBounds_toArray, List.set_cons_succ, List.set_cons_zero]
    refine plan_tellG rfl rfl (fun W hS => by
      go_simp
      first | done | rfl) ?_
    simp only [List.getElem_toArray, List.getElem_cons_succ, List.getElem_cons_zero, Act.put, List.setIfInBounds_toArray, List.set_cons_succ, List.set_cons_zero]
    refine plan_tellG rfl rfl (fun W hS => by
      have p0 := HP.out W hS
      go_simp
      first | done | rfl) ?_
    simp only [List.getElem_toArray, List.getElem_cons_succ, List.getElem_cons_zero, Act.put, List.setIfInBounds_toArray, List.set_cons_succ, List.set_cons_zero]
    refine turn_callG (f := 35) (args := #[.pointer (some ⟨cb, 0, none⟩)]) rfl rfl rfl Tryd.func35 (by kernel_rfl) rfl (by simp only [List.map_toArray, List.map_cons, List.map_nil]; rfl) ?_
    refine (Latest_calls v3 BB cb 4294967296 [ofH fst] true (HCG12.out.below HB3.out).cl 0 rfl (ofH fst) rfl).mono ?_
    rintro e v4 ⟨rfl, q, rfl⟩
    have HB4 : Fact (Below w13.heap.size w13 (v3.drewN q)) := ⟨below_drewN' HB3.out q⟩
    refine ⟨_, rfl, HB4.out, ?_⟩
    simp only [List.getElem_toArray, List.getElem_cons_succ, List.getElem_cons_zero, Act.put, List.setIfInBounds_toArray, List.set_cons_succ, List.set_cons_zero]
    have hht : (ofH fst).ht = fst.ht := rfl
    rw [hht]
    refine plan_tellG rfl rfl (fun W hS => by
      go_simp
      first | done | rfl) ?_
    simp only [List.getElem_toArray, List.getElem_cons_succ, List.getElem_cons_zero, Act.put, List.setIfInBounds_toArray, List.set_cons_succ, List.set_cons_zero]
    refine plan_tell rfl rfl (fun W hS => by
      go_simp
      first | done | rfl) ?_
    simp only [List.getElem_toArray, List.getElem_cons_succ, List.getElem_cons_zero, Act.put, List.setIfInBounds_toArray, List.set_cons_succ, List.set_cons_zero]
    refine plan_tell rfl rfl (fun W hS => by
      go_simp
      first | done | rfl) ?_
    simp only [List.getElem_toArray, List.getElem_cons_succ, List.getElem_cons_zero, Act.put, List.setIfInBounds_toArray, List.set_cons_succ, List.set_cons_zero]
    unfold wpPlan
    go_wp2_with fail
    go_ret
    exact ⟨rfl, HB12.out.trans (HB4.out.mono HB12.out.size)⟩
end Go.Proofs.YtkmcjokoinoahaaDoor.LawCFre
