/- ClientRefuses: for every input the law answers true; what was in memory before is as it was. -/
import Derived.Test.YtkmcjokoinoahaaDoorClientM
set_option linter.unusedVariables false
set_option linter.unusedSimpArgs false
namespace Go.Proofs.YtkmcjokoinoahaaDoor.LawCRef
open Go.RowKit Go.Proofs.YtkmcjokoinoahaaDoor.Lib Go.Proofs.YtkmcjokoinoahaaDoor.LibB Go.Proofs.YtkmcjokoinoahaaDoor.Reg Go.Proofs.YtkmcjokoinoahaaDoor.RegC Go.Proofs.YtkmcjokoinoahaaDoor.RegD Go.Proofs.YtkmcjokoinoahaaDoor.PlainS Go.Proofs.YtkmcjokoinoahaaDoor.ShaB Go.Proofs.YtkmcjokoinoahaaDoor.ShaC Go.Proofs.YtkmcjokoinoahaaDoor.ShaD Go.Proofs.YtkmcjokoinoahaaDoor.ShaDS Go.Proofs.YtkmcjokoinoahaaDoor.ShaE Go.Proofs.YtkmcjokoinoahaaDoor.PlainP Go.Proofs.YtkmcjokoinoahaaDoor.ParcelB Go.Proofs.YtkmcjokoinoahaaDoor.SealA Go.Proofs.YtkmcjokoinoahaaDoor.SealB Go.Proofs.YtkmcjokoinoahaaDoor.ClientA Go.Proofs.YtkmcjokoinoahaaDoor.ClientB Go.Proofs.YtkmcjokoinoahaaDoor.ClientC Go.Proofs.YtkmcjokoinoahaaDoor.ClientD Go.Proofs.YtkmcjokoinoahaaDoor.ClientE Go.Proofs.YtkmcjokoinoahaaDoor.ClientF Go.Proofs.YtkmcjokoinoahaaDoor.ClientG Go.Proofs.YtkmcjokoinoahaaDoor.ClientH Go.Proofs.YtkmcjokoinoahaaDoor.ClientI Go.Proofs.YtkmcjokoinoahaaDoor.ClientJ Go.Proofs.YtkmcjokoinoahaaDoor.RefD Go.Proofs.YtkmcjokoinoahaaDoor.ClientK Go.Proofs.YtkmcjokoinoahaaDoor.ClientL Go.Proofs.YtkmcjokoinoahaaDoor.ClientM Go.Proofs.YtkmcjokoinoahaaDoor.FaultB Go.Proofs.YtkmcjokoinoahaaDoor.FaultC Go.Proofs.YtkmcjokoinoahaaDoor.FaultD
theorem eql_nil (e : Ch) (w : World) : (binOp .eql 27 (vOf e) .nilIface).run Tryd.prog w = .ok (.bool false) w := by
  obtain ⟨t, v, h⟩ := vOf_iface e
  rw [h]
  have hu := Tryd.underlying27
  have h : ∀ d : Nat, (Op.equalIn (d + 1) 27 (.iface t v) .nilIface).run Tryd.prog w = .ok false w := fun d => by simp [Op.equalIn, run_underlying hu]
  simp only [binOp]
  simp [Op.equal, Op.maxDepth, h 9999]
theorem guard_eql (e : Ch) (t : TypeId) (x y : Operand) : eqGuard .eql t x y (vOf e) .nilIface = pure () := by
  obtain ⟨u, v, h⟩ := vOf_iface e
  rw [h]
  rfl
theorem upd_refused {p : Nat} {l : List Stt} {fz : Bool} {s : Stt} {h : Hd} {now : Nat} (hc : (updM p l fz s h now).1 ≠ 0) : (updM p l fz s h now).2 = (l, fz) := by
  unfold updM at hc ⊢
  by_cases a1 : statE fz p s now ≠ 0
  · rw [if_pos a1]
  · rw [if_neg a1] at hc ⊢
    by_cases a2 : h.sel ≠ shaL (sealB h)
    · rw [if_pos a2]
    · rw [if_neg a2] at hc ⊢
      cases hf : l.find? (qE h.ht) with
      | some o =>
        rw [hf] at hc
        exfalso
        revert hc
        simp only
        split <;> simp
      | none =>
        rw [hf] at hc
        simp only at hc ⊢
        by_cases a3 : h.ht < s.ht ∨ 1099511627776 < h.ht
        · rw [if_pos a3]
        · rw [if_neg a3] at hc ⊢
          by_cases a4 : h.tm ≤ s.tm ∨ 1099511627776 < h.tm
          · rw [if_pos a4]
          · rw [if_neg a4] at hc ⊢
            by_cases a5 : h.vals ≠ s.next
            · rw [if_pos a5]
            · rw [if_neg a5] at hc
              exact absurd rfl hc
set_option maxHeartbeats 1000000 in
set_option maxRecDepth 100000 in
theorem ClientRefuses_calls (w : World) (hg : Laid w) (hl : LaidW w) (h1 : 3 < w.heap.size) (hlr : LaidR w) (h2 : 1 < w.heap.size)
    (ca cb0 cc : Array Value) (ka kb : Hd) (kc : Ac) (hka : ka.ok) (hkb : kb.ok) (hkc : kc.ok) (hca : ca.toList = hdC ka) (hcb : cb0.toList = hdC kb) (hcc : cc.toList = acC kc) (now : Nat) (hn : now < 18446744073709551616) :
    Calls Tryd.prog 11 #[.agg ca, .agg cb0, .agg cc, .int .u64 (now : Int)] w fun ev w' => ev = .returned (.bool true) ∧ Below w.heap.size w w' := by
  have HG := Fact.mk hg
  have HL := Fact.mk hl
  have H1 := Fact.mk h1
  have HLR := Fact.mk hlr
  have H2 := Fact.mk h2
  have HKA := Fact.mk hka
  have HKB := Fact.mk hkb
  have HKC := Fact.mk hkc
  have HCA := Fact.mk hca
  have HCB := Fact.mk hcb
  have HCC := Fact.mk hcc
  clear hg hl h1 hlr h2 hka hkb hkc hca hcb hcc
  have HB0 : Fact (Below w.heap.size w (((w.alloc (.cells ca 54)).alloc (.cells cb0 54)).alloc (.cells cc 70))) := ⟨(((Below.refl _ _).alloc (Nat.le_refl _) _).alloc (by simp) _).alloc (by simp; omega) _⟩
  have HS0 : Fact ((((w.alloc (.cells ca 54)).alloc (.cells cb0 54)).alloc (.cells cc 70)).heap.size = w.heap.size + 3) := ⟨by simp⟩
  have HRA0 : Fact ((((w.alloc (.cells ca 54)).alloc (.cells cb0 54)).alloc (.cells cc 70)).heap[w.heap.size]? = some (.cells ca 54 (0, 0))) := ⟨by rw [Below.heap_alloc _ _ _ (by simp; omega), Below.heap_alloc _ _ _ (by simp)]; exact heap_alloc_new _ _⟩
  have HRB0 : Fact ((((w.alloc (.cells ca 54)).alloc (.cells cb0 54)).alloc (.cells cc 70)).heap[w.heap.size + 1]? = some (.cells cb0 54 (0, 0))) := ⟨by rw [Below.heap_alloc _ _ _ (by simp)]; exact heap_alloc2_new w _ _⟩
  have HRC0 : Fact ((((w.alloc (.cells ca 54)).alloc (.cells cb0 54)).alloc (.cells cc 70)).heap[w.heap.size + 2]? = some (.cells cc 70 (0, 0))) := ⟨by have := heap_alloc_new ((w.alloc (.cells ca 54)).alloc (.cells cb0 54)) (.cells cc 70); simpa using this⟩
  go_enter Tryd.func11, Tryd.ntmps11
  go_wp2_with (go_at_call 29; fail)
  generalize ((w.alloc (.cells ca 54)).alloc (.cells cb0 54)).alloc (.cells cc 70) = w0 at HB0 HS0 HRA0 HRB0 HRC0 ⊢
  refine (ClientE.Awake_calls w0 (HG.out.below HB0.out HG.out.lt) (laid_move HL.out HB0.out H1.out) (Nat.lt_of_lt_of_le H1.out HB0.out.size)).mono ?_
  rintro e w1 ⟨rfl, hb⟩
  have HB1 : Fact (Below w.heap.size w w1) := ⟨HB0.out.trans (hb.mono HB0.out.size)⟩
  have HS1 : Fact (w.heap.size + 3 ≤ w1.heap.size) := ⟨by have := HS0.out; have := hb.size; omega⟩
  have HRA1 : Fact (w1.heap[w.heap.size]? = some (.cells ca 54 (0, 0))) := ⟨(hb.block _ (by have := HS0.out; omega)).trans HRA0.out⟩
  have HRB1 : Fact (w1.heap[w.heap.size + 1]? = some (.cells cb0 54 (0, 0))) := ⟨(hb.block _ (by have := HS0.out; omega)).trans HRB0.out⟩
  have HRC1 : Fact (w1.heap[w.heap.size + 2]? = some (.cells cc 70 (0, 0))) := ⟨(hb.block _ (by have := HS0.out; omega)).trans HRC0.out⟩
  clear hb HB0 HS0 HRA0 HRB0 HRC0
  have p0 := (hd_parts HKA.out HCA.out HRA1.out).1
  have p1 := (hd_parts HKA.out HCA.out HRA1.out).2.1
  have f0 : w1.frozen? ⟨w.heap.size, 0, none⟩ = false := row_free HRA1.out
  have f1 : w1.frozen? ⟨w.heap.size, 1, none⟩ = false := row_free HRA1.out
  have hm1 : ((ka.ht : Int)).tmod 1000 = ((ka.ht % 1000 : Nat) : Int) := by rw [Int.tmod_eq_emod_of_nonneg (by omega)]; omega
  have hm1' : (ka.ht : Int) % 1000 = ((ka.ht % 1000 : Nat) : Int) := by omega
  have hm2 : ((ka.tm : Int)).tmod 1000 = ((ka.tm % 1000 : Nat) : Int) := by rw [Int.tmod_eq_emod_of_nonneg (by omega)]; omega
  have hm2' : (ka.tm : Int) % 1000 = ((ka.tm % 1000 : Nat) : Int) := by omega
  obtain ⟨x, hx⟩ : ∃ x, ka.ht % 1000 = x := ⟨_, rfl⟩
  obtain ⟨y, hy⟩ : ∃ y, ka.tm % 1000 = y := ⟨_, rfl⟩
  have hxl : x < 1000 := by omega
  have hyl : y < 1000 := by omega
  rw [hx] at hm1 hm1'
  rw [hy] at hm2 hm2'
  have HX := Fact.mk hx
  have HY := Fact.mk hy
  clear hx hy
  obtain ⟨fst, hfst⟩ : ∃ fst : Hd, fst = { ka with ht := 1 + x, tm := y } := ⟨_, rfl⟩
  obtain ⟨c2, hc2⟩ : ∃ c2 : Array Value, c2 = (ca.setIfInBounds 0 (.int .u64 (1 + (x : Int)))).setIfInBounds 1 (.int .u64 (y : Int)) := ⟨_, rfl⟩
  have HC2 : Fact (c2.toList = hdC fst) := ⟨by rw [hc2, hfst]; have := set_tm (set_ht HCA.out (1 + x)) y; simpa using this⟩
  have HKF : Fact fst.ok := ⟨by rw [hfst]; exact ⟨by simp; omega, by simp; omega, HKA.out.root, HKA.out.vals, HKA.out.next, HKA.out.sel⟩⟩
  have HFH : Fact (fst.ht = 1 + x ∧ fst.tm = y) := ⟨by rw [hfst]; exact ⟨rfl, rfl⟩⟩
  have HRA2 : Fact (((w1.setCell ⟨w.heap.size, 0, none⟩ (.int .u64 (1 + (x : Int)))).setCell ⟨w.heap.size, 1, none⟩ (.int .u64 (y : Int))).heap[w.heap.size]? = some (.cells c2 54 (0, 0))) := ⟨by rw [hc2]; exact row_set _ (row_set _ HRA1.out)⟩
  have HRB2 : Fact (((w1.setCell ⟨w.heap.size, 0, none⟩ (.int .u64 (1 + (x : Int)))).setCell ⟨w.heap.size, 1, none⟩ (.int .u64 (y : Int))).heap[w.heap.size + 1]? = some (.cells cb0 54 (0, 0))) := ⟨by rw [heap_setCell_other _ _ _ _ (by simp), heap_setCell_other _ _ _ _ (by simp)]; exact HRB1.out⟩
  have HRC2 : Fact (((w1.setCell ⟨w.heap.size, 0, none⟩ (.int .u64 (1 + (x : Int)))).setCell ⟨w.heap.size, 1, none⟩ (.int .u64 (y : Int))).heap[w.heap.size + 2]? = some (.cells cc 70 (0, 0))) := ⟨by rw [heap_setCell_other _ _ _ _ (by simp), heap_setCell_other _ _ _ _ (by simp)]; exact HRC1.out⟩
  have HB2 : Fact (Below w.heap.size w ((w1.setCell ⟨w.heap.size, 0, none⟩ (.int .u64 (1 + (x : Int)))).setCell ⟨w.heap.size, 1, none⟩ (.int .u64 (y : Int)))) := ⟨(HB1.out.setCell (p := ⟨w.heap.size, 0, none⟩) (Nat.le_refl _) _).setCell (p := ⟨w.heap.size, 1, none⟩) (Nat.le_refl _) _⟩
  have HS2 : Fact (w.heap.size + 3 ≤ ((w1.setCell ⟨w.heap.size, 0, none⟩ (.int .u64 (1 + (x : Int)))).setCell ⟨w.heap.size, 1, none⟩ (.int .u64 (y : Int))).heap.size) := ⟨by simp; exact HS1.out⟩
  have hI2 : Fact ((Tryd.prog.info? 54).map (·.size) = some c2.size) := ⟨HdKit.hd_i (by rw [← Array.length_toList, HC2.out, HdKit.hdC_len HKF.out])⟩
  clear hc2 hfst
  go_wp2_with (first
    | (refine wpList_load_row rfl 54 (.tmp 4) rfl w.heap.size rfl 54 c2 (0, 0) _ HRA2.out Tryd.underlying54 rfl hI2.out ?_)
    | (go_at_call 30; fail))
  generalize (w1.setCell ⟨w.heap.size, 0, none⟩ (.int .u64 (1 + (x : Int)))).setCell ⟨w.heap.size, 1, none⟩ (.int .u64 (y : Int)) = w2 at HRA2 HRB2 HRC2 HB2 HS2 ⊢
  refine (New_calls w2 fst HKF.out c2 HC2.out 500 (by decide) (laid_move HL.out HB2.out H1.out) (Nat.lt_of_lt_of_le H1.out HB2.out.size)).mono ?_
  rintro e w3 ⟨hr, hb⟩
  have hnew : newE fst 500 = 0 := by
    have := HFH.out
    unfold newE
    rw [if_neg (by decide), if_neg (by omega), if_neg (by omega)]
  obtain ⟨hz, -⟩ | ⟨-, cb, rfl, hcl⟩ := hr
  · exact absurd hnew hz
  obtain ⟨g, hcg⟩ := Cl.cg hcl.out (by simp)
  have HCG3 := Fact.mk hcg
  have HB3 : Fact (Below w.heap.size w w3) := ⟨HB2.out.trans (hb.mono HB2.out.size)⟩
  have HRA3 : Fact (w3.heap[w.heap.size]? = some (.cells c2 54 (0, 0))) := ⟨(hb.block _ (by have := HS2.out; omega)).trans HRA2.out⟩
  have HRB3 : Fact (w3.heap[w.heap.size + 1]? = some (.cells cb0 54 (0, 0))) := ⟨(hb.block _ (by have := HS2.out; omega)).trans HRB2.out⟩
  have HRC3 : Fact (w3.heap[w.heap.size + 2]? = some (.cells cc 70 (0, 0))) := ⟨(hb.block _ (by have := HS2.out; omega)).trans HRC2.out⟩
  have HCB3 : Fact (w.heap.size + 3 ≤ cb ∧ w.heap.size + 3 ≤ g) := ⟨by have := hcg.1; have := hcg.lt; have := HS2.out; omega⟩
  have HS3 : Fact (w.heap.size + 3 ≤ w3.heap.size) := ⟨by have := HS2.out; have := hb.size; omega⟩
  generalize w2.heap.size = BB at HCG3
  clear hb hnew hcl hcg HRA2 HRB2 HRC2 HB2 HS2 p0 p1 f0 f1 HRA1 HRB1 HRC1 HB1 HS1
  clear w2 w1
  have hIA : Fact ((Tryd.prog.info? 70).map (·.size) = some cc.size) := ⟨ac_i HKC.out HCC.out⟩
  have hIB : Fact ((Tryd.prog.info? 54).map (·.size) = some cb0.size) := ⟨HdKit.hd_i (by rw [← Array.length_toList, HCB.out, HdKit.hdC_len HKB.out])⟩
  go_wp2_with (first
    | (refine wpList_load_row rfl 54 (.tmp 4) rfl w.heap.size rfl 54 c2 (0, 0) _ HRA3.out Tryd.underlying54 rfl hI2.out ?_)
    | (refine wpList_load_row rfl 70 (.tmp 6) rfl (w.heap.size + 1 + 1) rfl 70 cc (0, 0) _ HRC3.out Tryd.underlying70 rfl hIA.out ?_)
    | (go_at_call 38; fail))
  refine (follow_calls w3 fst HKF.out c2 HC2.out kc HKC.out cc HCC.out (by have := HFH.out; omega) (by have := HFH.out; omega) (laidR_move HLR.out HB3.out H2.out) (Nat.lt_of_lt_of_le H2.out HB3.out.size)).mono ?_
  rintro e w4 ⟨⟨dg, rfl, hdg⟩, hb4⟩
  have HKG : Fact (folH fst kc).ok := ⟨folH_ok HKF.out HKC.out (by have := HFH.out; omega) (by have := HFH.out; omega)⟩
  have HDG := Fact.mk hdg.out
  have hIG : Fact ((Tryd.prog.info? 54).map (·.size) = some dg.size) := ⟨HdKit.hd_i (by rw [← Array.length_toList, HDG.out, HdKit.hdC_len HKG.out])⟩
  have hZG : Fact (HdKit.zHdA.size = dg.size) := ⟨by rw [show dg.size = 130 by rw [← Array.length_toList, HDG.out, HdKit.hdC_len HKG.out]]; rfl⟩
  have hOG : Fact (dg.all (·.oneCell') = true) := ⟨by
    have := HdKit.hdC_one (folH fst kc)
    rw [← HDG.out] at this
    simpa using this⟩
  have hOB : Fact (cb0.all (·.oneCell') = true) := ⟨by
    have := HdKit.hdC_one kb
    rw [← HCB.out] at this
    simpa using this⟩
  have hZB : Fact (dg.size = cb0.size) := ⟨by rw [show dg.size = 130 by rw [← Array.length_toList, HDG.out, HdKit.hdC_len HKG.out], show cb0.size = 130 by rw [← Array.length_toList, HCB.out, HdKit.hdC_len HKB.out]]⟩
  have HA5 : Fact ((w4.alloc (.cells HdKit.zHdA 54)).heap[w4.heap.size]? = some (.cells HdKit.zHdA 54 (0, 0))) := ⟨heap_alloc_new _ _⟩
  have HR5 : Fact ((w4.alloc (.cells dg 54)).heap[w4.heap.size]? = some (.cells dg 54 (0, 0))) := ⟨heap_alloc_new _ _⟩
  have HS4 : Fact (w.heap.size + 3 ≤ w4.heap.size) := ⟨by have := HS3.out; have := hb4.size; omega⟩
  have HB45 : Fact (Below w3.heap.size w3 (w4.alloc (.cells dg 54))) := ⟨hb4.alloc hb4.size _⟩
  have HB5 : Fact (Below w.heap.size w (w4.alloc (.cells dg 54))) := ⟨HB3.out.trans (HB45.out.mono HB3.out.size)⟩
  have HRA5 : Fact ((w4.alloc (.cells dg 54)).heap[w.heap.size]? = some (.cells c2 54 (0, 0))) := ⟨(HB45.out.block _ (by have := HS3.out; omega)).trans HRA3.out⟩
  have HRB5 : Fact ((w4.alloc (.cells dg 54)).heap[w.heap.size + 1]? = some (.cells cb0 54 (0, 0))) := ⟨(HB45.out.block _ (by have := HS3.out; omega)).trans HRB3.out⟩
  have HCG5 : Fact (Cg (w4.alloc (.cells dg 54)) BB cb g 500 [ofH fst] false) := ⟨HCG3.out.below HB45.out⟩
  have hn1 : ((now : Int)).tmod 2000 = ((now % 2000 : Nat) : Int) := by rw [Int.tmod_eq_emod_of_nonneg (by omega)]; omega
  have hn2 : (now : Int) % 2000 = ((now % 2000 : Nat) : Int) := by omega
  obtain ⟨z, hz⟩ : ∃ z, now % 2000 = z := ⟨_, rfl⟩
  have hzl : z < 2000 := by omega
  rw [hz] at hn1 hn2
  have k5 : (w4.alloc (.cells dg 54)).cell? ⟨w.heap.size + 1 + 1, 133, none⟩ = some (.bool kc.sl) := (ac_parts HKC.out HCC.out ((HB45.out.block _ (by have := HS3.out; omega)).trans HRC3.out)).2.2.2.2.2.2.2.2.2
  have k4 : w4.cell? ⟨w.heap.size + 1 + 1, 133, none⟩ = some (.bool kc.sl) := (ac_parts HKC.out HCC.out ((hb4.block _ (by have := HS3.out; omega)).trans HRC3.out)).2.2.2.2.2.2.2.2.2
  clear hz hdg
  have HW34 : Fact (w3.heap.size ≤ w4.heap.size) := ⟨hb4.size⟩
  clear hb4
  obtain ⟨sl, hsl⟩ : ∃ sl, kc.sl = sl := ⟨_, rfl⟩
  rw [hsl] at k4 k5
  cases sl with
  | true =>
    have HB6 : Fact (Below w3.heap.size w3 (w4.alloc (.cells cb0 54))) := ⟨by
      have := HB45.out
      refine ⟨this.os, this.tape, this.output, by simpa using this.size, fun k hk => ?_⟩
      have h1 := this.block k hk
      have hk4 : k < w4.heap.size := Nat.lt_of_lt_of_le hk HW34.out
      rw [Below.heap_alloc _ _ _ hk4] at h1 ⊢
      exact h1⟩
    have HBW6 : Fact (Below w.heap.size w (w4.alloc (.cells cb0 54))) := ⟨HB3.out.trans (HB6.out.mono HB3.out.size)⟩
    have HRG6 : Fact ((w4.alloc (.cells cb0 54)).heap[w4.heap.size]? = some (.cells cb0 54 (0, 0))) := ⟨heap_alloc_new _ _⟩
    have HRA6 : Fact ((w4.alloc (.cells cb0 54)).heap[w.heap.size]? = some (.cells c2 54 (0, 0))) := ⟨(HB6.out.block _ (by have := HS3.out; omega)).trans HRA3.out⟩
    have HCG6 : Fact (Cg (w4.alloc (.cells cb0 54)) BB cb g 500 [ofH fst] false) := ⟨HCG3.out.below HB6.out⟩
    have HS6 : Fact ((w4.alloc (.cells cb0 54)).heap.size = w4.heap.size + 1) := ⟨by simp⟩
    go_wp2_with (first
      | (refine wpList_ok rfl (ShaB.exec_alloc rfl (HdKit.alloc_hd _)) ?_)
      | (refine wpList_store_row rfl 54 (.tmp 11) (.tmp 33) rfl w4.heap.size dg rfl rfl 54 HdKit.zHdA HA5.out hIG.out hZG.out hOG.out ?_
         rw [World.setRow_alloc_new])
      | (refine wpList_load_row rfl 54 (.tmp 5) rfl (w.heap.size + 1) rfl 54 cb0 (0, 0) _ HRB5.out Tryd.underlying54 rfl hIB.out ?_)
      | (refine wpList_store_row rfl 54 (.tmp 11) (.tmp 36) rfl w4.heap.size cb0 rfl rfl 54 dg HR5.out hIB.out hZB.out hOB.out ?_
         rw [World.setRow_alloc_new])
      | (go_at_call 36; fail))
    generalize w4.heap.size = gb at HRG6 HS6 HS4 ⊢
    generalize w4.alloc (.cells cb0 54) = w6 at HB6 HBW6 HRG6 HRA6 HCG6 HS6 ⊢
    obtain ⟨c0, hc0⟩ : ∃ c0, statE false 500 (ofH fst) z = c0 := ⟨_, rfl⟩
    have HC0 := Fact.mk hc0
    have hst := Status_calls w6 BB cb 500 [ofH fst] false HCG6.out.cl 0 rfl (ofH fst) rfl z (by omega)
    rw [hc0] at hst
    clear hc0
    refine hst.mono ?_
    rintro e w7 ⟨v7, rfl, he7, hb7⟩
    obtain ⟨N6, hN6⟩ : ∃ N6, w6.heap.size = N6 := ⟨_, rfl⟩
    have HN6 : Fact (cb < N6 ∧ g < N6) := ⟨by rw [← hN6]; exact ⟨HCG6.out.2.1, HCG6.out.lt.2⟩⟩
    have HE7 : Fact (Er N6 v7 w7 c0) := ⟨by rw [← hN6]; exact he7.out⟩
    clear hN6
    have HB7 : Fact (Below w.heap.size w w7) := ⟨HBW6.out.trans (hb7.mono HBW6.out.size)⟩
    have HRG7 : Fact (w7.heap[gb]? = some (.cells cb0 54 (0, 0))) := ⟨(hb7.block _ (by have := HS6.out; omega)).trans HRG6.out⟩
    have HRA7 : Fact (w7.heap[w.heap.size]? = some (.cells c2 54 (0, 0))) := ⟨(hb7.block _ (by have := HS6.out; have := HS4.out; omega)).trans HRA6.out⟩
    have HCG7 : Fact (Cg w7 BB cb g 500 [ofH fst] false) := ⟨HCG6.out.below hb7⟩
    have HS7 : Fact (w.heap.size + 3 < w7.heap.size) := ⟨by have := HS6.out; have := HS4.out; have := hb7.size; omega⟩
    have hIX : Fact ((Tryd.prog.info? 54).map (·.size) = some cb0.size) := ⟨HdKit.hd_i (by rw [← Array.length_toList, HCB.out, HdKit.hdC_len HKB.out])⟩
    clear hst he7 hb7 HB6 HBW6 HRG6 HRA6 HCG6 HS6
    clear w6
    go_wp2_with (first
      | (refine wpList_load_row rfl 54 (.tmp 11) rfl gb rfl 54 cb0 (0, 0) _ HRG7.out Tryd.underlying54 rfl hIX.out ?_)
      | (go_at_call 33; fail))
    refine (Update_calls w7 BB cb g 500 [ofH fst] false HCG7.out 0 rfl (by decide) (ofH fst) rfl (kb) HKB.out cb0 HCB.out z (by omega) (laid_move HL.out HB7.out H1.out) (Nat.lt_of_lt_of_le H1.out HB7.out.size)).mono ?_
    rintro e w8 ⟨v8, g2, rfl, he8, hcg8, hgg8, hmod8⟩
    have HB8 : Fact (Below w.heap.size w w8) := ⟨HB7.out.trans (hmod8.out.below HB7.out.size (by have := HCB3.out; omega) (by have := HCB3.out; omega))⟩
    have HRA8 : Fact (w8.heap[w.heap.size]? = some (.cells c2 54 (0, 0))) := ⟨(hmod8.out.block _ (by have := HS7.out; omega) (by have := HCB3.out; omega) (by have := HCB3.out; omega)).trans HRA7.out⟩
    have HS8 : Fact (w.heap.size + 3 < w8.heap.size) := ⟨by have := HS7.out; have := hmod8.out.size; omega⟩
    obtain ⟨c1, hc1⟩ : ∃ c1, (updM 500 [ofH fst] false (ofH fst) (kb) z).1 = c1 := ⟨_, rfl⟩
    rw [hc1] at he8
    by_cases hz : c1 = 0
    · obtain ⟨-, rfl⟩ | ⟨h0, -⟩ := he8.out
      rotate_left
      · exact absurd hz h0
      clear he8 hcg8 hgg8 hmod8 hc1 hz
      go_wp2_with fail
      go_ret
      exact ⟨rfl, HB8.out⟩
    · have hu := upd_refused (p := 500) (l := [ofH fst]) (fz := false) (s := ofH fst) (h := kb) (now := z) (by rw [hc1]; exact hz)
      rw [hu] at hcg8
      have HCG8 := hcg8
      have HE8 : Fact (Er N6 v7 w8 c0) := ⟨HE7.out.above (fun k hk hlt => hmod8.out.block k hlt (by have := HN6.out; omega) (by have := HN6.out; omega)) hmod8.out.size⟩
      obtain ⟨h0, -⟩ | ⟨-, b, s, n, hbb, rfl, hi⟩ := he8.out
      · exact absurd h0 hz
      have en := eql_nil (.step b s n (.num c1))
      have gn := guard_eql (.step b s n (.num c1))
      clear hu hbb hi he8 hgg8 hmod8 hc1 hz
      generalize vOf (.step b s n (.num c1)) = v8 at en gn ⊢
      go_wp2_with (go_at_call 34; fail)
      refine (Heights_calls w8 BB cb 500 [ofH fst] false HCG8.out.cl (by simp) (by simp)).mono ?_
      rintro e w9 ⟨⟨A9, c9, rfl, hsl9⟩, hb9⟩
      obtain ⟨ad, ds9, rfl, hf9, hk9, hcell9⟩ := hsl9.out.at_ (i := 0) (x := fst.ht) rfl
      have hk9' : ds9 = [.int .u64 (fst.ht : Int)] := hk9
      subst hk9'
      have hc0 := hcell9 0 _ rfl
      have e00 : ad.add (0 * 1 + 0) = ad := by simp [Addr.add]
      have hc9 : w9.cell? ad = some (.int .u64 (fst.ht : Int)) := by
        have h := hc0
        rw [show (0 * rNat.sz + 0) = 0 from rfl, add_zero'] at h
        exact h
      have hl1 : ([ofH fst] : List Stt).length = 1 := rfl
      rw [hl1]
      have HB9 : Fact (Below w.heap.size w w9) := ⟨HB8.out.trans (hb9.mono HB8.out.size)⟩
      have HCG9 : Fact (Cg w9 BB cb g2 500 [ofH fst] false) := ⟨HCG8.out.below hb9⟩
      have HE9 : Fact (Er N6 v7 w9 c0) := ⟨HE8.out.move hb9⟩
      have HRA9 : Fact (w9.heap[w.heap.size]? = some (.cells c2 54 (0, 0))) := ⟨(hb9.block _ (by have := HS8.out; omega)).trans HRA8.out⟩
      have HS9 : Fact (w.heap.size + 3 < w9.heap.size) := ⟨by have := HS8.out; have := hb9.size; omega⟩
      have hlt9 := lt_of_cell hc9
      have HP : Fact (∀ W, Below w9.heap.size w9 W → W.cell? ⟨w.heap.size, 0, none⟩ = some (.int .u64 (fst.ht : Int)) ∧ W.cell? ad = some (.int .u64 (fst.ht : Int))) := ⟨fun W hS => ⟨(hd_parts HKF.out HC2.out ((hS.block _ (by have := HS9.out; omega)).trans HRA9.out)).1, (hS.cell (p := ad) hlt9).trans hc9⟩⟩
      clear e00 hc0 hk9 hcell9 hf9 hsl9 hb9 hl1 en gn
      go_wp2_with fail
      refine wp_region_P (fun W => Below w9.heap.size w9 W) (.tell 0 (.tell 1 (.tell 2 (.tell 3 (.tell 4 (.tell 5 (.tell 6 (.tell 7 (.tell 8 (.tell 9 (.tell 10 (.tell 11 (.tell 12 (.tell 13 (.tell 14 (.tell 15 (.tell 16 (.tell 17 (.tell 20 (.one 18 (.one 19 (.one 21 (.tell 22 (.tell 23 (.tell 24 .done))))))))))))))))))))))))) (by kernel_rfl) (by kernel_rfl) (by kernel_rfl) (by intro c a d v w h; cases d <;> exact h) (Below.refl _ _).drew ?_
      have HBd : Fact (Below w9.heap.size w9 w9.drew) := ⟨(Below.refl _ _).drew⟩
      generalize w9.drew = wd at HBd ⊢
      refine plan_tell rfl rfl (fun W hS => by
        go_simp
        first | done | rfl) ?_
      simp only [List.getElem_toArray, List.getElem_cons_succ, List.getElem_cons_zero, Act.put, List.setIfInBounds_toArray, List.set_cons_succ, List.set_cons_zero]
      refine plan_tell rfl rfl (fun W hS => by
        go_simp
        first | done | rfl) ?_
      simp only [List.getElem_toArray, List.getElem_cons_succ, List.getElem_cons_zero, Act.put, List.setIfInBounds_toArray, List.set_cons_succ, List.set_cons_zero]
      refine plan_tell rfl rfl (fun W hS => by
        go_simp
        first | done | rfl) ?_
      simp only [List.getElem_toArray, List.getElem_cons_succ, List.getElem_cons_zero, Act.put, List.setIfInBounds_toArray, List.set_cons_succ, List.set_cons_zero]
      refine plan_tellG rfl rfl (fun W hS => by
        go_simp
        first | done | rfl) ?_
      simp only [List.getElem_toArray, List.getElem_cons_succ, List.getElem_cons_zero, Act.put, List.setIfInBounds_toArray, List.set_cons_succ, List.set_cons_zero]
      refine plan_tellG rfl rfl (fun W hS => by
        go_simp
        first | done | rfl) ?_
      simp only [List.getElem_toArray, List.getElem_cons_succ, List.getElem_cons_zero, Act.put, List.setIfInBounds_toArray, List.set_cons_succ, List.set_cons_zero]
      refine plan_tellG rfl rfl (fun W hS => by
        go_simp
        first | done | rfl) ?_
      simp only [List.getElem_toArray, List.getElem_cons_succ, List.getElem_cons_zero, Act.put, List.setIfInBounds_toArray, List.set_cons_succ, List.set_cons_zero]
      refine plan_tell rfl rfl (fun W hS => by
        go_simp
        first | done | rfl) ?_
      simp only [List.getElem_toArray, List.getElem_cons_succ, List.getElem_cons_zero, Act.put, List.setIfInBounds_toArray, List.set_cons_succ, List.set_cons_zero]
      refine plan_tell rfl rfl (fun W hS => by
        go_simp
        first | done | rfl) ?_
      simp only [List.getElem_toArray, List.getElem_cons_succ, List.getElem_cons_zero, Act.put, List.setIfInBounds_toArray, List.set_cons_succ, List.set_cons_zero]
      refine plan_tellG rfl rfl (fun W hS => by
        go_simp
        first | done | rfl) ?_
      simp only [List.getElem_toArray, List.getElem_cons_succ, List.getElem_cons_zero, Act.put, List.setIfInBounds_toArray, List.set_cons_succ, List.set_cons_zero]
      refine plan_tellG rfl rfl (fun W hS => by
        go_simp
        first | done | rfl) ?_
      simp only [List.getElem_toArray, List.getElem_cons_succ, List.getElem_cons_zero, Act.put, List.setIfInBounds_toArray, List.set_cons_succ, List.set_cons_zero]
      refine plan_tellG rfl rfl (fun W hS => by
        have p0 := (HP.out W hS).1
        have p1 := (HP.out W hS).2
        go_simp
        first | done | rfl) ?_
      simp only [List.getElem_toArray, List.getElem_cons_succ, List.getElem_cons_zero, Act.put, List.setIfInBounds_toArray, List.set_cons_succ, List.set_cons_zero]
      refine plan_tellG rfl rfl (fun W hS => by
        go_simp
        first | done | rfl) ?_
      simp only [List.getElem_toArray, List.getElem_cons_succ, List.getElem_cons_zero, Act.put, List.setIfInBounds_toArray, List.set_cons_succ, List.set_cons_zero]
      refine plan_tellG rfl rfl (fun W hS => by
        have p0 := (HP.out W hS).1
        have p1 := (HP.out W hS).2
        go_simp
        first | done | rfl) ?_
      simp only [List.getElem_toArray, List.getElem_cons_succ, List.getElem_cons_zero, Act.put, List.setIfInBounds_toArray, List.set_cons_succ, List.set_cons_zero]
      refine plan_tellG rfl rfl (fun W hS => by
        go_simp
        first | done | rfl) ?_
      simp only [List.getElem_toArray, List.getElem_cons_succ, List.getElem_cons_zero, Act.put, List.setIfInBounds_toArray, List.set_cons_succ, List.set_cons_zero]
      refine plan_tell rfl rfl (fun W hS => by
        go_simp
        first | done | rfl) ?_
      simp only [List.getElem_toArray, List.getElem_cons_succ, List.getElem_cons_zero, Act.put, List.setIfInBounds_toArray, List.set_cons_succ, List.set_cons_zero]
      refine plan_tell rfl rfl (fun W hS => by
        go_simp
        first | done | rfl) ?_
      simp only [List.getElem_toArray, List.getElem_cons_succ, List.getElem_cons_zero, Act.put, List.setIfInBounds_toArray, List.set_cons_succ, List.set_cons_zero]
      refine plan_tellG rfl rfl (fun W hS => by
        go_simp
        first | done | rfl) ?_
      simp only [List.getElem_toArray, List.getElem_cons_succ, List.getElem_cons_zero, Act.put, List.setIfInBounds_toArray, List.set_cons_succ, List.set_cons_zero]
      refine plan_tellG rfl rfl (fun W hS => by
        go_simp
        first | done | rfl) ?_
      simp only [List.getElem_toArray, List.getElem_cons_succ, List.getElem_cons_zero, Act.put, List.setIfInBounds_toArray, List.set_cons_succ, List.set_cons_zero]
      refine plan_tellG rfl rfl (fun W hS => by
        go_simp
        first | done | rfl) ?_
      simp only [List.getElem_toArray, List.getElem_cons_succ, List.getElem_cons_zero, Act.put, List.setIfInBounds_toArray, List.set_cons_succ, List.set_cons_zero]
      have hst := Status_calls wd BB cb 500 [ofH fst] false (HCG9.out.below HBd.out).cl 0 rfl (ofH fst) rfl z (by omega)
      rw [HC0.out] at hst
      refine turn_callG (f := 36) (args := #[.pointer (some ⟨cb, 0, none⟩), .int .u64 (z : Int)]) rfl rfl rfl Tryd.func36 (by kernel_rfl) rfl (by simp only [List.map_toArray, List.map_cons, List.map_nil]; rfl) ?_
      refine hst.mono ?_
      rintro e u1 ⟨va, rfl, hea, hb⟩
      have HU1 : Fact (Below w9.heap.size w9 u1) := ⟨HBd.out.trans (hb.mono HBd.out.size)⟩
      clear hst hb
      refine ⟨_, rfl, HU1.out, ?_⟩
      simp only [List.getElem_toArray, List.getElem_cons_succ, List.getElem_cons_zero, Act.put, List.setIfInBounds_toArray, List.set_cons_succ, List.set_cons_zero]
      refine turn_callG (f := 19) (args := #[va]) rfl rfl rfl Tryd.func19 (by kernel_rfl) rfl (by simp only [List.map_toArray, List.map_cons, List.map_nil]; rfl) ?_
      refine (hea.out.code (HG.out.below (HB9.out.trans (HU1.out.mono HB9.out.size)) HG.out.lt)).mono ?_
      rintro e u2 ⟨rfl, hb⟩
      have HU2 : Fact (Below w9.heap.size w9 u2) := ⟨HU1.out.trans (hb.mono HU1.out.size)⟩
      clear hb hea
      refine ⟨_, rfl, HU2.out, ?_⟩
      simp only [List.getElem_toArray, List.getElem_cons_succ, List.getElem_cons_zero, Act.put, List.setIfInBounds_toArray, List.set_cons_succ, List.set_cons_zero]
      refine turn_callG (f := 19) (args := #[v7]) rfl rfl rfl Tryd.func19 (by kernel_rfl) rfl (by simp only [List.map_toArray, List.map_cons, List.map_nil]; rfl) ?_
      refine ((HE9.out.move HU2.out).code (HG.out.below (HB9.out.trans (HU2.out.mono HB9.out.size)) HG.out.lt)).mono ?_
      rintro e u3 ⟨rfl, hb⟩
      have HU3 : Fact (Below w9.heap.size w9 u3) := ⟨HU2.out.trans (hb.mono HU2.out.size)⟩
      clear hb
      refine ⟨_, rfl, HU3.out, ?_⟩
      simp only [List.getElem_toArray, List.getElem_cons_succ, List.getElem_cons_zero, Act.put, List.setIfInBounds_toArray, List.set_cons_succ, List.set_cons_zero]
      refine plan_tellG rfl rfl (fun W hS => by
        go_simp
        first | done | rfl) ?_
      simp only [List.getElem_toArray, List.getElem_cons_succ, List.getElem_cons_zero, Act.put, List.setIfInBounds_toArray, List.set_cons_succ, List.set_cons_zero]
      refine plan_tell rfl rfl (fun W hS => by
        go_simp
        first | done | rfl) ?_
      simp only [List.getElem_toArray, List.getElem_cons_succ, List.getElem_cons_zero, Act.put, List.setIfInBounds_toArray, List.set_cons_succ, List.set_cons_zero]
      refine plan_tell rfl rfl (fun W hS => by
        go_simp
        first | done | rfl) ?_
      simp only [List.getElem_toArray, List.getElem_cons_succ, List.getElem_cons_zero, Act.put, List.setIfInBounds_toArray, List.set_cons_succ, List.set_cons_zero]
      unfold wpPlan
      go_wp2_with fail
      go_ret
      exact ⟨rfl, HB9.out.trans (HU3.out.mono HB9.out.size)⟩
  | false =>
    have HB6 : Fact (Below w3.heap.size w3 (w4.alloc (.cells dg 54))) := ⟨by
      have := HB45.out
      refine ⟨this.os, this.tape, this.output, by simpa using this.size, fun k hk => ?_⟩
      have h1 := this.block k hk
      have hk4 : k < w4.heap.size := Nat.lt_of_lt_of_le hk HW34.out
      rw [Below.heap_alloc _ _ _ hk4] at h1 ⊢
      exact h1⟩
    have HBW6 : Fact (Below w.heap.size w (w4.alloc (.cells dg 54))) := ⟨HB3.out.trans (HB6.out.mono HB3.out.size)⟩
    have HRG6 : Fact ((w4.alloc (.cells dg 54)).heap[w4.heap.size]? = some (.cells dg 54 (0, 0))) := ⟨heap_alloc_new _ _⟩
    have HRA6 : Fact ((w4.alloc (.cells dg 54)).heap[w.heap.size]? = some (.cells c2 54 (0, 0))) := ⟨(HB6.out.block _ (by have := HS3.out; omega)).trans HRA3.out⟩
    have HCG6 : Fact (Cg (w4.alloc (.cells dg 54)) BB cb g 500 [ofH fst] false) := ⟨HCG3.out.below HB6.out⟩
    have HS6 : Fact ((w4.alloc (.cells dg 54)).heap.size = w4.heap.size + 1) := ⟨by simp⟩
    go_wp2_with (first
      | (refine wpList_ok rfl (ShaB.exec_alloc rfl (HdKit.alloc_hd _)) ?_)
      | (refine wpList_store_row rfl 54 (.tmp 11) (.tmp 33) rfl w4.heap.size dg rfl rfl 54 HdKit.zHdA HA5.out hIG.out hZG.out hOG.out ?_
         rw [World.setRow_alloc_new])
      | (go_at_call 36; fail))
    generalize w4.heap.size = gb at HRG6 HS6 HS4 ⊢
    generalize w4.alloc (.cells dg 54) = w6 at HB6 HBW6 HRG6 HRA6 HCG6 HS6 ⊢
    obtain ⟨c0, hc0⟩ : ∃ c0, statE false 500 (ofH fst) z = c0 := ⟨_, rfl⟩
    have HC0 := Fact.mk hc0
    have hst := Status_calls w6 BB cb 500 [ofH fst] false HCG6.out.cl 0 rfl (ofH fst) rfl z (by omega)
    rw [hc0] at hst
    clear hc0
    refine hst.mono ?_
    rintro e w7 ⟨v7, rfl, he7, hb7⟩
    obtain ⟨N6, hN6⟩ : ∃ N6, w6.heap.size = N6 := ⟨_, rfl⟩
    have HN6 : Fact (cb < N6 ∧ g < N6) := ⟨by rw [← hN6]; exact ⟨HCG6.out.2.1, HCG6.out.lt.2⟩⟩
    have HE7 : Fact (Er N6 v7 w7 c0) := ⟨by rw [← hN6]; exact he7.out⟩
    clear hN6
    have HB7 : Fact (Below w.heap.size w w7) := ⟨HBW6.out.trans (hb7.mono HBW6.out.size)⟩
    have HRG7 : Fact (w7.heap[gb]? = some (.cells dg 54 (0, 0))) := ⟨(hb7.block _ (by have := HS6.out; omega)).trans HRG6.out⟩
    have HRA7 : Fact (w7.heap[w.heap.size]? = some (.cells c2 54 (0, 0))) := ⟨(hb7.block _ (by have := HS6.out; have := HS4.out; omega)).trans HRA6.out⟩
    have HCG7 : Fact (Cg w7 BB cb g 500 [ofH fst] false) := ⟨HCG6.out.below hb7⟩
    have HS7 : Fact (w.heap.size + 3 < w7.heap.size) := ⟨by have := HS6.out; have := HS4.out; have := hb7.size; omega⟩
    have hIX : Fact ((Tryd.prog.info? 54).map (·.size) = some dg.size) := ⟨HdKit.hd_i (by rw [← Array.length_toList, HDG.out, HdKit.hdC_len HKG.out])⟩
    clear hst he7 hb7 HB6 HBW6 HRG6 HRA6 HCG6 HS6
    clear w6
    go_wp2_with (first
      | (refine wpList_load_row rfl 54 (.tmp 11) rfl gb rfl 54 dg (0, 0) _ HRG7.out Tryd.underlying54 rfl hIX.out ?_)
      | (go_at_call 33; fail))
    refine (Update_calls w7 BB cb g 500 [ofH fst] false HCG7.out 0 rfl (by decide) (ofH fst) rfl (folH fst kc) HKG.out dg HDG.out z (by omega) (laid_move HL.out HB7.out H1.out) (Nat.lt_of_lt_of_le H1.out HB7.out.size)).mono ?_
    rintro e w8 ⟨v8, g2, rfl, he8, hcg8, hgg8, hmod8⟩
    have HB8 : Fact (Below w.heap.size w w8) := ⟨HB7.out.trans (hmod8.out.below HB7.out.size (by have := HCB3.out; omega) (by have := HCB3.out; omega))⟩
    have HRA8 : Fact (w8.heap[w.heap.size]? = some (.cells c2 54 (0, 0))) := ⟨(hmod8.out.block _ (by have := HS7.out; omega) (by have := HCB3.out; omega) (by have := HCB3.out; omega)).trans HRA7.out⟩
    have HS8 : Fact (w.heap.size + 3 < w8.heap.size) := ⟨by have := HS7.out; have := hmod8.out.size; omega⟩
    obtain ⟨c1, hc1⟩ : ∃ c1, (updM 500 [ofH fst] false (ofH fst) (folH fst kc) z).1 = c1 := ⟨_, rfl⟩
    rw [hc1] at he8
    by_cases hz : c1 = 0
    · obtain ⟨-, rfl⟩ | ⟨h0, -⟩ := he8.out
      rotate_left
      · exact absurd hz h0
      clear he8 hcg8 hgg8 hmod8 hc1 hz
      go_wp2_with fail
      go_ret
      exact ⟨rfl, HB8.out⟩
    · have hu := upd_refused (p := 500) (l := [ofH fst]) (fz := false) (s := ofH fst) (h := folH fst kc) (now := z) (by rw [hc1]; exact hz)
      rw [hu] at hcg8
      have HCG8 := hcg8
      have HE8 : Fact (Er N6 v7 w8 c0) := ⟨HE7.out.above (fun k hk hlt => hmod8.out.block k hlt (by have := HN6.out; omega) (by have := HN6.out; omega)) hmod8.out.size⟩
      obtain ⟨h0, -⟩ | ⟨-, b, s, n, hbb, rfl, hi⟩ := he8.out
      · exact absurd h0 hz
      have en := eql_nil (.step b s n (.num c1))
      have gn := guard_eql (.step b s n (.num c1))
      clear hu hbb hi he8 hgg8 hmod8 hc1 hz
      generalize vOf (.step b s n (.num c1)) = v8 at en gn ⊢
      go_wp2_with (go_at_call 34; fail)
      refine (Heights_calls w8 BB cb 500 [ofH fst] false HCG8.out.cl (by simp) (by simp)).mono ?_
      rintro e w9 ⟨⟨A9, c9, rfl, hsl9⟩, hb9⟩
      obtain ⟨ad, ds9, rfl, hf9, hk9, hcell9⟩ := hsl9.out.at_ (i := 0) (x := fst.ht) rfl
      have hk9' : ds9 = [.int .u64 (fst.ht : Int)] := hk9
      subst hk9'
      have hc0 := hcell9 0 _ rfl
      have e00 : ad.add (0 * 1 + 0) = ad := by simp [Addr.add]
      have hc9 : w9.cell? ad = some (.int .u64 (fst.ht : Int)) := by
        have h := hc0
        rw [show (0 * rNat.sz + 0) = 0 from rfl, add_zero'] at h
        exact h
      have hl1 : ([ofH fst] : List Stt).length = 1 := rfl
      rw [hl1]
      have HB9 : Fact (Below w.heap.size w w9) := ⟨HB8.out.trans (hb9.mono HB8.out.size)⟩
      have HCG9 : Fact (Cg w9 BB cb g2 500 [ofH fst] false) := ⟨HCG8.out.below hb9⟩
      have HE9 : Fact (Er N6 v7 w9 c0) := ⟨HE8.out.move hb9⟩
      have HRA9 : Fact (w9.heap[w.heap.size]? = some (.cells c2 54 (0, 0))) := ⟨(hb9.block _ (by have := HS8.out; omega)).trans HRA8.out⟩
      have HS9 : Fact (w.heap.size + 3 < w9.heap.size) := ⟨by have := HS8.out; have := hb9.size; omega⟩
      have hlt9 := lt_of_cell hc9
      have HP : Fact (∀ W, Below w9.heap.size w9 W → W.cell? ⟨w.heap.size, 0, none⟩ = some (.int .u64 (fst.ht : Int)) ∧ W.cell? ad = some (.int .u64 (fst.ht : Int))) := ⟨fun W hS => ⟨(hd_parts HKF.out HC2.out ((hS.block _ (by have := HS9.out; omega)).trans HRA9.out)).1, (hS.cell (p := ad) hlt9).trans hc9⟩⟩
      clear e00 hc0 hk9 hcell9 hf9 hsl9 hb9 hl1 en gn
      go_wp2_with fail
      refine wp_region_P (fun W => Below w9.heap.size w9 W) (.tell 0 (.tell 1 (.tell 2 (.tell 3 (.tell 4 (.tell 5 (.tell 6 (.tell 7 (.tell 8 (.tell 9 (.tell 10 (.tell 11 (.tell 12 (.tell 13 (.tell 14 (.tell 15 (.tell 16 (.tell 17 (.tell 20 (.one 18 (.one 19 (.one 21 (.tell 22 (.tell 23 (.tell 24 .done))))))))))))))))))))))))) (by kernel_rfl) (by kernel_rfl) (by kernel_rfl) (by intro c a d v w h; cases d <;> exact h) (Below.refl _ _).drew ?_
      have HBd : Fact (Below w9.heap.size w9 w9.drew) := ⟨(Below.refl _ _).drew⟩
      generalize w9.drew = wd at HBd ⊢
      refine plan_tell rfl rfl (fun W hS => by
        go_simp
        first | done | rfl) ?_
      simp only [List.getElem_toArray, List.getElem_cons_succ, List.getElem_cons_zero, Act.put, List.setIfInBounds_toArray, List.set_cons_succ, List.set_cons_zero]
      refine plan_tell rfl rfl (fun W hS => by
        go_simp
        first | done | rfl) ?_
      simp only [List.getElem_toArray, List.getElem_cons_succ, List.getElem_cons_zero, Act.put, List.setIfInBounds_toArray, List.set_cons_succ, List.set_cons_zero]
      refine plan_tell rfl rfl (fun W hS => by
        go_simp
        first | done | rfl) ?_
      simp only [List.getElem_toArray, List.getElem_cons_succ, List.getElem_cons_zero, Act.put, List.setIfInBounds_toArray, List.set_cons_succ, List.set_cons_zero]
      refine plan_tellG rfl rfl (fun W hS => by
        go_simp
        first | done | rfl) ?_
      simp only [List.getElem_toArray, List.getElem_cons_succ, List.getElem_cons_zero, Act.put, List.setIfInBounds_toArray, List.set_cons_succ, List.set_cons_zero]
      refine plan_tellG rfl rfl (fun W hS => by
        go_simp
        first | done | rfl) ?_
      simp only [List.getElem_toArray, List.getElem_cons_succ, List.getElem_cons_zero, Act.put, List.setIfInBounds_toArray, List.set_cons_succ, List.set_cons_zero]
      refine plan_tellG rfl rfl (fun W hS => by
        go_simp
        first | done | rfl) ?_
      simp only [List.getElem_toArray, List.getElem_cons_succ, List.getElem_cons_zero, Act.put, List.setIfInBounds_toArray, List.set_cons_succ, List.set_cons_zero]
      refine plan_tell rfl rfl (fun W hS => by
        go_simp
        first | done | rfl) ?_
      simp only [List.getElem_toArray, List.getElem_cons_succ, List.getElem_cons_zero, Act.put, List.setIfInBounds_toArray, List.set_cons_succ, List.set_cons_zero]
      refine plan_tell rfl rfl (fun W hS => by
        go_simp
        first | done | rfl) ?_
      simp only [List.getElem_toArray, List.getElem_cons_succ, List.getElem_cons_zero, Act.put, List.setIfInBounds_toArray, List.set_cons_succ, List.set_cons_zero]
      refine plan_tellG rfl rfl (fun W hS => by
        go_simp
        first | done | rfl) ?_
      simp only [List.getElem_toArray, List.getElem_cons_succ, List.getElem_cons_zero, Act.put, List.setIfInBounds_toArray, List.set_cons_succ, List.set_cons_zero]
      refine plan_tellG rfl rfl (fun W hS => by
        go_simp
        first | done | rfl) ?_
      simp only [List.getElem_toArray, List.getElem_cons_succ, List.getElem_cons_zero, Act.put, List.setIfInBounds_toArray, List.set_cons_succ, List.set_cons_zero]
      refine plan_tellG rfl rfl (fun W hS => by
        have p0 := (HP.out W hS).1
        have p1 := (HP.out W hS).2
        go_simp
        first | done | rfl) ?_
      simp only [List.getElem_toArray, List.getElem_cons_succ, List.getElem_cons_zero, Act.put, List.setIfInBounds_toArray, List.set_cons_succ, List.set_cons_zero]
      refine plan_tellG rfl rfl (fun W hS => by
        go_simp
        first | done | rfl) ?_
      simp only [List.getElem_toArray, List.getElem_cons_succ, List.getElem_cons_zero, Act.put, List.setIfInBounds_toArray, List.set_cons_succ, List.set_cons_zero]
      refine plan_tellG rfl rfl (fun W hS => by
        have p0 := (HP.out W hS).1
        have p1 := (HP.out W hS).2
        go_simp
        first | done | rfl) ?_
      simp only [List.getElem_toArray, List.getElem_cons_succ, List.getElem_cons_zero, Act.put, List.setIfInBounds_toArray, List.set_cons_succ, List.set_cons_zero]
      refine plan_tellG rfl rfl (fun W hS => by
        go_simp
        first | done | rfl) ?_
      simp only [List.getElem_toArray, List.getElem_cons_succ, List.getElem_cons_zero, Act.put, List.setIfInBounds_toArray, List.set_cons_succ, List.set_cons_zero]
      refine plan_tell rfl rfl (fun W hS => by
        go_simp
        first | done | rfl) ?_
      simp only [List.getElem_toArray, List.getElem_cons_succ, List.getElem_cons_zero, Act.put, List.setIfInBounds_toArray, List.set_cons_succ, List.set_cons_zero]
      refine plan_tell rfl rfl (fun W hS => by
        go_simp
        first | done | rfl) ?_
      simp only [List.getElem_toArray, List.getElem_cons_succ, List.getElem_cons_zero, Act.put, List.setIfInBounds_toArray, List.set_cons_succ, List.set_cons_zero]
      refine plan_tellG rfl rfl (fun W hS => by
        go_simp
        first | done | rfl) ?_
      simp only [List.getElem_toArray, List.getElem_cons_succ, List.getElem_cons_zero, Act.put, List.setIfInBounds_toArray, List.set_cons_succ, List.set_cons_zero]
      refine plan_tellG rfl rfl (fun W hS => by
        go_simp
        first | done | rfl) ?_
      simp only [List.getElem_toArray, List.getElem_cons_succ, List.getElem_cons_zero, Act.put, List.setIfInBounds_toArray, List.set_cons_succ, List.set_cons_zero]
      refine plan_tellG rfl rfl (fun W hS => by
        go_simp
        first | done | rfl) ?_
      simp only [List.getElem_toArray, List.getElem_cons_succ, List.getElem_cons_zero, Act.put, List.setIfInBounds_toArray, List.set_cons_succ, List.set_cons_zero]
      have hst := Status_calls wd BB cb 500 [ofH fst] false (HCG9.out.below HBd.out).cl 0 rfl (ofH fst) rfl z (by omega)
      rw [HC0.out] at hst
      refine turn_callG (f := 36) (args := #[.pointer (some ⟨cb, 0, none⟩), .int .u64 (z : Int)]) rfl rfl rfl Tryd.func36 (by kernel_rfl) rfl (by simp only [List.map_toArray, List.map_cons, List.map_nil]; rfl) ?_
      refine hst.mono ?_
      rintro e u1 ⟨va, rfl, hea, hb⟩
      have HU1 : Fact (Below w9.heap.size w9 u1) := ⟨HBd.out.trans (hb.mono HBd.out.size)⟩
      clear hst hb
      refine ⟨_, rfl, HU1.out, ?_⟩
      simp only [List.getElem_toArray, List.getElem_cons_succ, List.getElem_cons_zero, Act.put, List.setIfInBounds_toArray, List.set_cons_succ, List.set_cons_zero]
      refine turn_callG (f := 19) (args := #[va]) rfl rfl rfl Tryd.func19 (by kernel_rfl) rfl (by simp only [List.map_toArray, List.map_cons, List.map_nil]; rfl) ?_
      refine (hea.out.code (HG.out.below (HB9.out.trans (HU1.out.mono HB9.out.size)) HG.out.lt)).mono ?_
      rintro e u2 ⟨rfl, hb⟩
      have HU2 : Fact (Below w9.heap.size w9 u2) := ⟨HU1.out.trans (hb.mono HU1.out.size)⟩
      clear hb hea
      refine ⟨_, rfl, HU2.out, ?_⟩
      simp only [List.getElem_toArray, List.getElem_cons_succ, List.getElem_cons_zero, Act.put, List.setIfInBounds_toArray, List.set_cons_succ, List.set_cons_zero]
      refine turn_callG (f := 19) (args := #[v7]) rfl rfl rfl Tryd.func19 (by kernel_rfl) rfl (by simp only [List.map_toArray, List.map_cons, List.map_nil]; rfl) ?_
      refine ((HE9.out.move HU2.out).code (HG.out.below (HB9.out.trans (HU2.out.mono HB9.out.size)) HG.out.lt)).mono ?_
      rintro e u3 ⟨rfl, hb⟩
      have HU3 : Fact (Below w9.heap.size w9 u3) := ⟨HU2.out.trans (hb.mono HU2.out.size)⟩
      clear hb
      refine ⟨_, rfl, HU3.out, ?_⟩
      simp only [List.getElem_toArray, List.getElem_cons_succ, List.getElem_cons_zero, Act.put, List.setIfInBounds_toArray, List.set_cons_succ, List.set_cons_zero]
      refine plan_tellG rfl rfl (fun W hS => by
        go_simp
        first | done | rfl) ?_
      simp only [List.getElem_toArray, List.getElem_cons_succ, List.getElem_cons_zero, Act.put, List.setIfInBounds_toArray, List.set_cons_succ, List.set_cons_zero]
      refine plan_tell rfl rfl (fun W hS => by
        go_simp
        first | done | rfl) ?_
      simp only [List.getElem_toArray, List.getElem_cons_succ, List.getElem_cons_zero, Act.put, List.setIfInBounds_toArray, List.set_cons_succ, List.set_cons_zero]
      refine plan_tell rfl rfl (fun W hS => by
        go_simp
        first | done | rfl) ?_
      simp only [List.getElem_toArray, List.getElem_cons_succ, List.getElem_cons_zero, Act.put, List.setIfInBounds_toArray, List.set_cons_succ, List.set_cons_zero]
      unfold wpPlan
      go_wp2_with fail
      go_ret
      exact ⟨rfl, HB9.out.trans (HU3.out.mono HB9.out.size)⟩
end Go.Proofs.YtkmcjokoinoahaaDoor.LawCRef
