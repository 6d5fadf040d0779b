/- ClientRuns: for every input the law answers true; what was in memory before is as it was. -/
import Derived.Test.YtkmcjokoinoahaaDoorClientL
set_option linter.unusedVariables false
set_option linter.unusedSimpArgs false
namespace Go.Proofs.YtkmcjokoinoahaaDoor.LawCRuns
open Go.RowKit Go.Proofs.YtkmcjokoinoahaaDoor.Lib Go.Proofs.YtkmcjokoinoahaaDoor.LibB Go.Proofs.YtkmcjokoinoahaaDoor.Reg Go.Proofs.YtkmcjokoinoahaaDoor.RegC Go.Proofs.YtkmcjokoinoahaaDoor.RegD Go.Proofs.YtkmcjokoinoahaaDoor.PlainS Go.Proofs.YtkmcjokoinoahaaDoor.ShaB Go.Proofs.YtkmcjokoinoahaaDoor.ShaC Go.Proofs.YtkmcjokoinoahaaDoor.ShaD Go.Proofs.YtkmcjokoinoahaaDoor.ShaDS Go.Proofs.YtkmcjokoinoahaaDoor.ShaE Go.Proofs.YtkmcjokoinoahaaDoor.PlainP Go.Proofs.YtkmcjokoinoahaaDoor.ParcelB Go.Proofs.YtkmcjokoinoahaaDoor.SealA Go.Proofs.YtkmcjokoinoahaaDoor.SealB Go.Proofs.YtkmcjokoinoahaaDoor.ClientA Go.Proofs.YtkmcjokoinoahaaDoor.ClientB Go.Proofs.YtkmcjokoinoahaaDoor.ClientC Go.Proofs.YtkmcjokoinoahaaDoor.ClientD Go.Proofs.YtkmcjokoinoahaaDoor.ClientE Go.Proofs.YtkmcjokoinoahaaDoor.ClientF Go.Proofs.YtkmcjokoinoahaaDoor.ClientG Go.Proofs.YtkmcjokoinoahaaDoor.ClientH Go.Proofs.YtkmcjokoinoahaaDoor.ClientI Go.Proofs.YtkmcjokoinoahaaDoor.ClientJ Go.Proofs.YtkmcjokoinoahaaDoor.RefD Go.Proofs.YtkmcjokoinoahaaDoor.ClientK Go.Proofs.YtkmcjokoinoahaaDoor.ClientL Go.Proofs.YtkmcjokoinoahaaDoor.FaultB Go.Proofs.YtkmcjokoinoahaaDoor.FaultC Go.Proofs.YtkmcjokoinoahaaDoor.FaultD
/-- What is known behind k headers that followed. -/
structure Chain (f : Hd) (k : Nat) (h : Hd) (l : List Stt) : Prop where
  ok : h.ok
  ht : h.ht = f.ht + k
  tm : h.tm = f.tm + k
  len : l.length = min 16 (k + 1)
  last : l[l.length - 1]? = some (ofH h)
  down : ∀ (i : Nat) (s : Stt), l[i]? = some s → s.ht + (l.length - 1 - i) = h.ht
theorem Chain.start {f : Hd} (k : f.ok) : Chain f 0 f [ofH f] := by
  refine ⟨k, rfl, rfl, rfl, rfl, fun i s hi => ?_⟩
  match i, hi with
  | 0, hi =>
    have : ofH f = s := by simpa using hi
    subst this
    rfl
theorem Chain.none {f h : Hd} {k : Nat} {l : List Stt} (c : Chain f k h l) : l.find? (qE (h.ht + 1)) = none := by
  rw [List.find?_eq_none]
  intro s hs
  obtain ⟨i, hi, rfl⟩ := List.getElem_of_mem hs
  have := c.down i _ (List.getElem?_eq_getElem hi)
  simp [qE]
  omega
theorem Chain.step {f h h' : Hd} {k : Nat} {l : List Stt} (c : Chain f k h l) (ko : h'.ok) (h1 : h'.ht = h.ht + 1) (h2 : h'.tm = h.tm + 1) : Chain f (k + 1) h' (pushM l (ofH h')) := by
  have hl := c.len
  have hht : (ofH h').ht = h.ht + 1 := h1
  have ha : ∀ (i : Nat) (s : Stt), (l ++ [ofH h'])[i]? = some s → s.ht + (l.length - i) = h.ht + 1 := by
    intro i s hi
    rcases Nat.lt_or_ge i l.length with hlt | hge
    · rw [List.getElem?_append_left hlt] at hi
      have := c.down i s hi
      omega
    · rw [List.getElem?_append_right hge] at hi
      have h0 : i - l.length = 0 := by
        rcases Nat.eq_zero_or_pos (i - l.length) with h0 | h0
        · exact h0
        · rw [List.getElem?_eq_none (by simp; omega)] at hi; cases hi
      rw [h0] at hi
      have : ofH h' = s := by simpa using hi
      subst this
      omega
  refine ⟨ko, by rw [h1, c.ht]; omega, by rw [h2, c.tm]; omega, ?_, ?_, ?_⟩
  · unfold pushM
    split
    · rw [List.length_drop, List.length_append]; simp; omega
    · rw [List.length_append]; simp; omega
  · unfold pushM
    split
    · rw [List.getElem?_drop, List.length_drop, List.length_append, List.getElem?_append_right (by simp; omega)]
      rw [show 1 + (l.length + [ofH h'].length - 1 - 1) - l.length = 0 by simp; omega]
      rfl
    · rw [List.length_append, List.getElem?_append_right (by simp)]
      rw [show l.length + [ofH h'].length - 1 - l.length = 0 by simp]
      rfl
  · intro i s hi
    unfold pushM at hi ⊢
    split at hi
    · rename_i hgt
      rw [List.getElem?_drop] at hi
      have hil : 1 + i < (l ++ [ofH h']).length := (List.getElem?_eq_some_iff.1 hi).1
      have := ha _ s hi
      rw [if_pos hgt, List.length_drop, List.length_append]
      simp at hil ⊢
      omega
    · rename_i hgt
      have hil : i < (l ++ [ofH h']).length := (List.getElem?_eq_some_iff.1 hi).1
      have := ha _ s hi
      rw [if_neg hgt, List.length_append]
      simp at hil ⊢
      omega
theorem join {A B : Prop} {P : Prop} (hA : P → A) (hB : P → B) (hp : P) : A ∧ B := ⟨hA hp, hB hp⟩
/-- A header that lies in a block. -/
def HdAt (w : World) (b : Nat) (h : Hd) : Prop := h.ok ∧ ∃ cs : Array Value, cs.toList = hdC h ∧ w.heap[b]? = some (.cells cs 54 (0, 0))
theorem set_ht {h : Hd} {cs : Array Value} (hcs : cs.toList = hdC h) (n : Nat) : (cs.setIfInBounds 0 (.int .u64 (n : Int))).toList = hdC { h with ht := n } := by
  rw [Array.toList_setIfInBounds, hcs]; rfl
theorem set_tm {h : Hd} {cs : Array Value} (hcs : cs.toList = hdC h) (n : Nat) : (cs.setIfInBounds 1 (.int .u64 (n : Int))).toList = hdC { h with tm := n } := by
  rw [Array.toList_setIfInBounds, hcs]; rfl
/-- The header of a round. -/
def nextH (root : List UInt8) (h : Hd) : Hd := ⟨h.ht + 1, h.tm + 1, root, h.next, valsL h.ht, Z32⟩
def nextS (root : List UInt8) (h : Hd) : Hd := { nextH root h with sel := shaL (sealB (nextH root h)) }
theorem upd_next {f h : Hd} {k : Nat} {l : List Stt} (c : Chain f k h l) (root : List UInt8) (hk : h.ht + 1 ≤ 1099511627776) (ht : h.tm + 1 ≤ 1099511627776) : updM 1000 l false (ofH h) (nextS root h) (h.tm + 1) = (0, pushM l (ofH (nextS root h)), false) := by
  have e1 : statE false 1000 (ofH h) (h.tm + 1) = 0 := by
    unfold statE
    rw [if_neg (by decide), if_neg]
    have : (ofH h).tm = h.tm := rfl
    omega
  have e2 : (nextS root h).sel = shaL (sealB (nextS root h)) := rfl
  have e3 : (nextS root h).ht = h.ht + 1 := rfl
  have e4 : (nextS root h).tm = h.tm + 1 := rfl
  have e5 : (ofH h).ht = h.ht := rfl
  have e6 : (ofH h).tm = h.tm := rfl
  unfold updM
  rw [if_neg (fun e => e e1), if_neg (fun e => e e2), e3, c.none]
  simp only
  rw [if_neg (by omega), if_neg (by omega), if_neg (fun e => e rfl)]
set_option maxHeartbeats 8000000 in
set_option maxRecDepth 100000 in
theorem ClientRuns_calls (w : World) (hg : Laid w) (hl : LaidW w) (h1 : 3 < w.heap.size) (hlr : LaidR w) (h2 : 1 < w.heap.size)
    (ca cr0 : Array Value) (ka : Hd) (rt : List UInt8) (hka : ka.ok) (hca : ca.toList = hdC ka) (hcr : cr0.toList = rt.map vu8) (hrt : rt.length = 32) (n : Nat) (hn : n < 256) :
    Calls Tryd.prog 9 #[.agg ca, .int .u8 (n : Int), .agg cr0] w fun ev w' => ev = .returned (.bool true) ∧ Below w.heap.size w w' := by
  have HG := Fact.mk hg
  have HL := Fact.mk hl
  have H1 := Fact.mk h1
  have HLR := Fact.mk hlr
  have H2 := Fact.mk h2
  have HKA := Fact.mk hka
  have HCA := Fact.mk hca
  have HCRT := Fact.mk hcr
  have HRT := Fact.mk hrt
  clear hg hl h1 hlr h2 hka hca hcr hrt
  have HB0 : Fact (Below w.heap.size w ((w.alloc (.cells ca 54)).alloc (.cells cr0 52))) := ⟨((Below.refl _ _).alloc (Nat.le_refl _) _).alloc (by simp) _⟩
  have HS0 : Fact (((w.alloc (.cells ca 54)).alloc (.cells cr0 52)).heap.size = w.heap.size + 2) := ⟨by simp⟩
  have HRA0 : Fact (((w.alloc (.cells ca 54)).alloc (.cells cr0 52)).heap[w.heap.size]? = some (.cells ca 54 (0, 0))) := ⟨heap_alloc2_old w _ _⟩
  have HRB0 : Fact (((w.alloc (.cells ca 54)).alloc (.cells cr0 52)).heap[w.heap.size + 1]? = some (.cells cr0 52 (0, 0))) := ⟨heap_alloc2_new w _ _⟩
  go_enter Tryd.func9, Tryd.ntmps9
  go_wp2_with (go_at_call 29; fail)
  generalize (w.alloc (.cells ca 54)).alloc (.cells cr0 52) = w0 at HB0 HS0 HRA0 HRB0 ⊢
  refine (ClientE.Awake_calls w0 (HG.out.below HB0.out HG.out.lt) (laid_move HL.out HB0.out H1.out) (Nat.lt_of_lt_of_le H1.out HB0.out.size)).mono ?_
  rintro e w1 ⟨rfl, hb⟩
  have HB1 : Fact (Below w.heap.size w w1) := ⟨HB0.out.trans (hb.mono HB0.out.size)⟩
  have HS1 : Fact (w.heap.size + 2 ≤ w1.heap.size) := ⟨by have := HS0.out; have := hb.size; omega⟩
  have HRA1 : Fact (w1.heap[w.heap.size]? = some (.cells ca 54 (0, 0))) := ⟨(hb.block _ (by have := HS0.out; omega)).trans HRA0.out⟩
  have HRB1 : Fact (w1.heap[w.heap.size + 1]? = some (.cells cr0 52 (0, 0))) := ⟨(hb.block _ (by have := HS0.out; omega)).trans HRB0.out⟩
  clear hb HB0 HS0 HRA0 HRB0
  have p0 := (hd_parts HKA.out HCA.out HRA1.out).1
  have p1 := (hd_parts HKA.out HCA.out HRA1.out).2.1
  have f0 : w1.frozen? ⟨w.heap.size, 0, none⟩ = false := row_free HRA1.out
  have f1 : w1.frozen? ⟨w.heap.size, 1, none⟩ = false := row_free HRA1.out
  have hm1 : ((ka.ht : Int)).tmod 1000 = ((ka.ht % 1000 : Nat) : Int) := by rw [Int.tmod_eq_emod_of_nonneg (by omega)]; omega
  have hm1' : (ka.ht : Int) % 1000 = ((ka.ht % 1000 : Nat) : Int) := by omega
  have hm2 : ((ka.tm : Int)).tmod 1000 = ((ka.tm % 1000 : Nat) : Int) := by rw [Int.tmod_eq_emod_of_nonneg (by omega)]; omega
  have hm2' : (ka.tm : Int) % 1000 = ((ka.tm % 1000 : Nat) : Int) := by omega
  obtain ⟨x, hx⟩ : ∃ x, ka.ht % 1000 = x := ⟨_, rfl⟩
  obtain ⟨y, hy⟩ : ∃ y, ka.tm % 1000 = y := ⟨_, rfl⟩
  have hxl : x < 1000 := by omega
  have hyl : y < 1000 := by omega
  rw [hx] at hm1 hm1'
  rw [hy] at hm2 hm2'
  have HX := Fact.mk hx
  have HY := Fact.mk hy
  clear hx hy
  obtain ⟨fst, hfst⟩ : ∃ fst : Hd, fst = { ka with ht := 1 + x, tm := y } := ⟨_, rfl⟩
  obtain ⟨c2, hc2⟩ : ∃ c2 : Array Value, c2 = (ca.setIfInBounds 0 (.int .u64 (1 + (x : Int)))).setIfInBounds 1 (.int .u64 (y : Int)) := ⟨_, rfl⟩
  have HC2 : Fact (c2.toList = hdC fst) := ⟨by rw [hc2, hfst]; have := set_tm (set_ht HCA.out (1 + x)) y; simpa using this⟩
  have HKF : Fact fst.ok := ⟨by rw [hfst]; exact ⟨by simp; omega, by simp; omega, HKA.out.root, HKA.out.vals, HKA.out.next, HKA.out.sel⟩⟩
  have HFH : Fact (fst.ht = 1 + x ∧ fst.tm = y) := ⟨by rw [hfst]; exact ⟨rfl, rfl⟩⟩
  have HRA2 : Fact (((w1.setCell ⟨w.heap.size, 0, none⟩ (.int .u64 (1 + (x : Int)))).setCell ⟨w.heap.size, 1, none⟩ (.int .u64 (y : Int))).heap[w.heap.size]? = some (.cells c2 54 (0, 0))) := ⟨by rw [hc2]; exact row_set _ (row_set _ HRA1.out)⟩
  have HRB2 : Fact (((w1.setCell ⟨w.heap.size, 0, none⟩ (.int .u64 (1 + (x : Int)))).setCell ⟨w.heap.size, 1, none⟩ (.int .u64 (y : Int))).heap[w.heap.size + 1]? = some (.cells cr0 52 (0, 0))) := ⟨by rw [heap_setCell_other _ _ _ _ (by simp), heap_setCell_other _ _ _ _ (by simp)]; exact HRB1.out⟩
  have HB2 : Fact (Below w.heap.size w ((w1.setCell ⟨w.heap.size, 0, none⟩ (.int .u64 (1 + (x : Int)))).setCell ⟨w.heap.size, 1, none⟩ (.int .u64 (y : Int)))) := ⟨(HB1.out.setCell (p := ⟨w.heap.size, 0, none⟩) (Nat.le_refl _) _).setCell (p := ⟨w.heap.size, 1, none⟩) (Nat.le_refl _) _⟩
  have HS2 : Fact (w.heap.size + 2 ≤ ((w1.setCell ⟨w.heap.size, 0, none⟩ (.int .u64 (1 + (x : Int)))).setCell ⟨w.heap.size, 1, none⟩ (.int .u64 (y : Int))).heap.size) := ⟨by simp; exact HS1.out⟩
  have hI2 : Fact ((Tryd.prog.info? 54).map (·.size) = some c2.size) := ⟨HdKit.hd_i (by rw [← Array.length_toList, HC2.out, HdKit.hdC_len HKF.out])⟩
  clear hc2 hfst
  go_wp2_with (first
    | (refine wpList_load_row rfl 54 (.tmp 3) rfl w.heap.size rfl 54 c2 (0, 0) _ HRA2.out Tryd.underlying54 rfl hI2.out ?_)
    | (go_at_call 30; fail))
  generalize (w1.setCell ⟨w.heap.size, 0, none⟩ (.int .u64 (1 + (x : Int)))).setCell ⟨w.heap.size, 1, none⟩ (.int .u64 (y : Int)) = w2 at HRA2 HRB2 HB2 HS2 ⊢
  refine (New_calls w2 fst HKF.out c2 HC2.out 1000 (by decide) (laid_move HL.out HB2.out H1.out) (Nat.lt_of_lt_of_le H1.out HB2.out.size)).mono ?_
  rintro e w3 ⟨hr, hb⟩
  have hnew : newE fst 1000 = 0 := by
    have := HFH.out
    unfold newE
    rw [if_neg (by decide), if_neg (by omega), if_neg (by omega)]
  obtain ⟨hz, -⟩ | ⟨-, cb, rfl, hcl⟩ := hr
  · exact absurd hnew hz
  obtain ⟨g, hcg⟩ := Cl.cg hcl.out (by simp)
  have HCG3 := Fact.mk hcg
  have HB3 : Fact (Below w.heap.size w w3) := ⟨HB2.out.trans (hb.mono HB2.out.size)⟩
  have HRA3 : Fact (w3.heap[w.heap.size]? = some (.cells c2 54 (0, 0))) := ⟨(hb.block _ (by have := HS2.out; omega)).trans HRA2.out⟩
  have HRB3 : Fact (w3.heap[w.heap.size + 1]? = some (.cells cr0 52 (0, 0))) := ⟨(hb.block _ (by have := HS2.out; omega)).trans HRB2.out⟩
  have HCB3 : Fact (w.heap.size + 2 ≤ cb ∧ w.heap.size + 2 ≤ g) := ⟨by have := hcg.1; have := hcg.lt; have := HS2.out; omega⟩
  have HS3 : Fact (w.heap.size + 2 ≤ w3.heap.size) := ⟨by have := HS2.out; have := hb.size; omega⟩
  generalize w2.heap.size = BB at HCG3
  clear hb hnew hcl hcg HRA2 HRB2 HB2 HS2 p0 p1 f0 f1 HRA1 HRB1 HB1 HS1
  clear w2 w1
  have HAL : Fact ((w3.alloc (.cells HdKit.zHdA 54)).heap[w3.heap.size]? = some (.cells HdKit.zHdA 54 (0, 0))) := ⟨heap_alloc_new _ _⟩
  have HRL : Fact ((w3.alloc (.cells c2 54)).heap[w3.heap.size]? = some (.cells c2 54 (0, 0))) := ⟨heap_alloc_new _ _⟩
  have hZ2 : Fact (HdKit.zHdA.size = c2.size) := ⟨by rw [show c2.size = 130 by rw [← Array.length_toList, HC2.out, HdKit.hdC_len HKF.out]]; rfl⟩
  have hO2 : Fact (c2.all (·.oneCell') = true) := ⟨by
    have := HdKit.hdC_one fst
    rw [← HC2.out] at this
    simpa using this⟩
  have HB4 : Fact (Below w.heap.size w (w3.alloc (.cells c2 54))) := ⟨HB3.out.alloc HB3.out.size _⟩
  have HRB4 : Fact ((w3.alloc (.cells c2 54)).heap[w.heap.size + 1]? = some (.cells cr0 52 (0, 0))) := ⟨(Below.heap_alloc _ _ _ (by have := HS3.out; omega)).trans HRB3.out⟩
  have HCG4 : Fact (Cg (w3.alloc (.cells c2 54)) BB cb g 1000 [ofH fst] false) := ⟨HCG3.out.below ((Below.refl _ _).alloc (Nat.le_refl _) _)⟩
  have HLB : Fact (cb < w3.heap.size ∧ g < w3.heap.size ∧ w.heap.size + 2 ≤ w3.heap.size) := ⟨HCG3.out.2.1, HCG3.out.lt.2, HS3.out⟩
  have HS4 : Fact (w3.heap.size < (w3.alloc (.cells c2 54)).heap.size) := ⟨by simp⟩
  go_wp2_with (first
    | (refine wpList_load_row rfl 54 (.tmp 3) rfl w.heap.size rfl 54 c2 (0, 0) _ HRA3.out Tryd.underlying54 rfl hI2.out ?_)
    | (refine wpList_ok rfl (ShaB.exec_alloc rfl (HdKit.alloc_hd _)) ?_)
    | (refine wpList_store_row rfl 54 (.tmp 9) (.tmp 30) rfl w3.heap.size c2 rfl rfl 54 HdKit.zHdA HAL.out hI2.out hZ2.out hO2.out ?_
       rw [World.setRow_alloc_new]))
  clear HAL
  generalize w3.heap.size = lb at HRL HLB HS4 ⊢
  generalize w3.alloc (.cells c2 54) = w4 at HRL HB4 HRB4 HCG4 HS4 ⊢
  clear HRA3 HRB3 HB3 HCG3 HS3
  clear w3
  have HHF : Fact (fst.ht ≤ 1000 ∧ fst.tm ≤ 1000) := ⟨by have := HFH.out; omega⟩
  clear HX HY hm1 hm1' hm2 hm2' HFH hxl hyl
  go_loopg [10, 32] n (fun kq v10 v32 wr => ∃ (k : Nat) (hk : Hd) (lk : List Stt) (gk : Nat), v32 = .int .u8 (k : Int) ∧ Fact (k + kq = n) ∧ Fact (Chain fst k hk lk) ∧ Fact (HdAt wr lb hk) ∧ Fact (Cg wr BB cb gk 1000 lk false) ∧ Fact (gk ≠ lb ∧ w.heap.size + 2 ≤ gk) ∧ Fact (wr.heap[w.heap.size + 1]? = some (.cells cr0 52 (0, 0))) ∧ Fact (Below w.heap.size w wr) ∧ Fact (lb < wr.heap.size))
  case atStart => exact ⟨0, fst, [ofH fst], g, rfl, ⟨by omega⟩, ⟨Chain.start HKF.out⟩, ⟨HKF.out, c2, HC2.out, HRL.out⟩, HCG4, ⟨by have := HLB.out; have := HCB3.out; omega⟩, HRB4, HB4, HS4⟩
  case round =>
    obtain ⟨k, hk, lk, gk2, rfl, HK, HCH, HHD, HCGK, HGK, HRR, HBR, HLR2⟩ := hrel
    have hkn := HK.out
    obtain ⟨hko, cs, hcs, hrow⟩ := HHD.out
    have HKO := Fact.mk hko
    have HCS := Fact.mk hcs
    have HROW := Fact.mk hrow
    have hb1 : hk.ht ≤ 1256 ∧ hk.tm ≤ 1256 := by have := HCH.out.ht; have := HCH.out.tm; have := HHF.out; omega
    clear hko hcs hrow HHD
    by_cases hlt : k < n
    · skip
      obtain ⟨a1, ha1⟩ : ∃ a1, hk.ht + 1 = a1 := ⟨_, rfl⟩
      obtain ⟨t1, ht1⟩ : ∃ t1, hk.tm + 1 = t1 := ⟨_, rfl⟩
      have S1 : Fact (IntKind.u64.wrap ((hk.ht : Int) + 1) = (a1 : Int) ∧ IntKind.u64.wrap ((hk.tm : Int) + 1) = (t1 : Int)) := ⟨by simp only [IntKind.wrap_u64]; omega⟩
      have HA1 := Fact.mk (And.intro ha1 ht1)
      have hhl : hk.ht < 18446744073709551616 := by omega
      clear ha1 ht1
      obtain ⟨sr, hsr⟩ : ∃ sr, wr.heap.size = sr := ⟨_, rfl⟩
      rw [hsr] at HLR2
      have HSR := Fact.mk hsr
      clear hsr
      have HPK : Fact (∀ W, Below sr wr W → W.cell? ⟨lb, 0, none⟩ = some (.int .u64 (hk.ht : Int)) ∧ W.cell? ⟨lb, 1, none⟩ = some (.int .u64 (hk.tm : Int)) ∧ W.rangeAt lb 66 (hk.next.map vu8)) := ⟨fun W hS => by
        have := hd_parts HKO.out HCS.out ((hS.block _ HLR2.out).trans HROW.out)
        exact ⟨this.1, this.2.1, this.2.2.2.2.1⟩⟩
      obtain ⟨cn, hcn⟩ : ∃ cn : Array Value, cn = (hk.next.map vu8).toArray := ⟨_, rfl⟩
      have HCN : Fact (cn.toList = hk.next.map vu8) := ⟨by rw [hcn]⟩
      have HLN : Fact (∀ W, Below sr wr W → (Instr.loadAt 52 (.pointer (some ⟨lb, 66, none⟩))).run Tryd.prog W = .ok (.agg cn) W) := ⟨fun W hS => by rw [hcn]; exact load_hash HKO.out.next (HPK.out W hS).2.2⟩
      clear hcn
      have HRI : Fact ((Tryd.prog.info? 52).map (·.size) = some cr0.size) := ⟨hash_i (bytes_size HCRT.out HRT.out)⟩
      have HLB2 : Fact (w.heap.size + 1 < sr) := ⟨by have := HLB.out; have := HLR2.out; omega⟩
      have HRRW : Fact (∀ W, Below sr wr W → W.heap[w.heap.size + 1]? = some (.cells cr0 52 (0, 0))) := ⟨fun W hS => (hS.block _ HLB2.out).trans HRR.out⟩
      go_wp2_with fail
      refine wp_region_P (fun W => Below sr wr W) (.tell 0 (.tell 1 (.tell 2 (.tell 3 (.tell 4 (.tell 5 (.tell 6 (.tell 7 (.tell 8 (.tell 9 (.tell 10 (.two 11 (.tell 12 (.one 13 (.one 14 .done))) 13 (.one 11 (.tell 12 (.one 14 .done))))))))))))))) (by kernel_rfl) (by kernel_rfl) (by kernel_rfl) (by intro c a d v w h; cases d <;> exact h) (Below.refl _ _).drew ?_
      have HBd : Fact (Below sr wr wr.drew) := ⟨(Below.refl _ _).drew⟩
      have HSd : Fact (wr.drew.heap.size = sr) := ⟨HSR.out⟩
      generalize wr.drew = wd at HBd HSd ⊢
      refine plan_tell rfl rfl (v := .pointer (some ⟨lb, 0, none⟩)) (fun W hS => by
        have p0 := (HPK.out W hS).1
        have p1 := (HPK.out W hS).2.1
        have s1 := S1.out.1
        have s2 := S1.out.2
        go_simp
        first | done | rfl) ?_
      simp only [List.getElem_toArray, List.getElem_cons_succ, List.getElem_cons_zero, Act.put, List.setIfInBounds_toArray, List.set_cons_succ, List.set_cons_zero]
      refine plan_tell rfl rfl (v := .int .u64 (hk.ht : Int)) (fun W hS => by
        have p0 := (HPK.out W hS).1
        have p1 := (HPK.out W hS).2.1
        have s1 := S1.out.1
        have s2 := S1.out.2
        go_simp
        first | done | rfl) ?_
      simp only [List.getElem_toArray, List.getElem_cons_succ, List.getElem_cons_zero, Act.put, List.setIfInBounds_toArray, List.set_cons_succ, List.set_cons_zero]
      refine plan_tell rfl rfl (v := .int .u64 (a1 : Int)) (fun W hS => by
        have p0 := (HPK.out W hS).1
        have p1 := (HPK.out W hS).2.1
        have s1 := S1.out.1
        have s2 := S1.out.2
        go_simp
        first | done | rfl) ?_
      simp only [List.getElem_toArray, List.getElem_cons_succ, List.getElem_cons_zero, Act.put, List.setIfInBounds_toArray, List.set_cons_succ, List.set_cons_zero]
      refine plan_tell rfl rfl (v := .pointer (some ⟨lb, 1, none⟩)) (fun W hS => by
        have p0 := (HPK.out W hS).1
        have p1 := (HPK.out W hS).2.1
        have s1 := S1.out.1
        have s2 := S1.out.2
        go_simp
        first | done | rfl) ?_
      simp only [List.getElem_toArray, List.getElem_cons_succ, List.getElem_cons_zero, Act.put, List.setIfInBounds_toArray, List.set_cons_succ, List.set_cons_zero]
      refine plan_tell rfl rfl (v := .int .u64 (hk.tm : Int)) (fun W hS => by
        have p0 := (HPK.out W hS).1
        have p1 := (HPK.out W hS).2.1
        have s1 := S1.out.1
        have s2 := S1.out.2
        go_simp
        first | done | rfl) ?_
      simp only [List.getElem_toArray, List.getElem_cons_succ, List.getElem_cons_zero, Act.put, List.setIfInBounds_toArray, List.set_cons_succ, List.set_cons_zero]
      refine plan_tell rfl rfl (v := .int .u64 (t1 : Int)) (fun W hS => by
        have p0 := (HPK.out W hS).1
        have p1 := (HPK.out W hS).2.1
        have s1 := S1.out.1
        have s2 := S1.out.2
        go_simp
        first | done | rfl) ?_
      simp only [List.getElem_toArray, List.getElem_cons_succ, List.getElem_cons_zero, Act.put, List.setIfInBounds_toArray, List.set_cons_succ, List.set_cons_zero]
      refine plan_tell rfl rfl (v := .agg cr0) (fun W hS => exec_loadRow rfl rfl (HRRW.out W hS) hash_u rfl HRI.out) ?_
      simp only [List.getElem_toArray, List.getElem_cons_succ, List.getElem_cons_zero, Act.put, List.setIfInBounds_toArray, List.set_cons_succ, List.set_cons_zero]
      refine plan_tell rfl rfl (v := .pointer (some ⟨lb, 66, none⟩)) (fun W hS => by
        have p0 := (HPK.out W hS).1
        have p1 := (HPK.out W hS).2.1
        have s1 := S1.out.1
        have s2 := S1.out.2
        go_simp
        first | done | rfl) ?_
      simp only [List.getElem_toArray, List.getElem_cons_succ, List.getElem_cons_zero, Act.put, List.setIfInBounds_toArray, List.set_cons_succ, List.set_cons_zero]
      refine plan_tell rfl rfl (v := .agg cn) (fun W hS => ClientA.exec_loadAt rfl rfl (HLN.out W hS)) ?_
      simp only [List.getElem_toArray, List.getElem_cons_succ, List.getElem_cons_zero, Act.put, List.setIfInBounds_toArray, List.set_cons_succ, List.set_cons_zero]
      refine plan_tell rfl rfl (v := .pointer (some ⟨lb, 0, none⟩)) (fun W hS => by
        have p0 := (HPK.out W hS).1
        have p1 := (HPK.out W hS).2.1
        have s1 := S1.out.1
        have s2 := S1.out.2
        go_simp
        first | done | rfl) ?_
      simp only [List.getElem_toArray, List.getElem_cons_succ, List.getElem_cons_zero, Act.put, List.setIfInBounds_toArray, List.set_cons_succ, List.set_cons_zero]
      refine plan_tell rfl rfl (v := .int .u64 (hk.ht : Int)) (fun W hS => by
        have p0 := (HPK.out W hS).1
        have p1 := (HPK.out W hS).2.1
        have s1 := S1.out.1
        have s2 := S1.out.2
        go_simp
        first | done | rfl) ?_
      simp only [List.getElem_toArray, List.getElem_cons_succ, List.getElem_cons_zero, Act.put, List.setIfInBounds_toArray, List.set_cons_succ, List.set_cons_zero]
      obtain ⟨dh, hdh⟩ : ∃ dh : Array Value, dh = (hdC (nextH rt hk)).toArray := ⟨_, rfl⟩
      have HNO : Fact (nextH rt hk).ok := ⟨⟨by show hk.ht + 1 < _; omega, by show hk.tm + 1 < _; omega, HRT.out, HKO.out.next, valsL_len _, by simp [Z32, nextH]⟩⟩
      have HDH : Fact (dh.toList = hdC (nextH rt hk)) := ⟨by rw [hdh]⟩
      have HBUg : Fact (∀ cs3 : Array Value, cs3.toList = (valsL hk.ht).map vu8 → Tryd.prog.built 54 [(0, .int .u64 (a1 : Int)), (1, .int .u64 (t1 : Int)), (2, .agg cr0), (3, .agg cn), (4, .agg cs3)] = some dh) := ⟨fun cs3 hc3 => by
        have hn := HA1.out
        have e1 : (nextH rt hk).ht = a1 := hn.1
        have e2 : (nextH rt hk).tm = t1 := hn.2
        have := built_hd5 (nextH rt hk) HNO.out rfl cr0 cn cs3 HCRT.out HCN.out hc3
        rw [e1, e2] at this
        rw [hdh]
        exact this⟩
      have HDI : Fact ((Tryd.prog.info? 54).map (·.size) = some dh.size) := ⟨HdKit.hd_i (by rw [← Array.length_toList, HDH.out, HdKit.hdC_len HNO.out])⟩
      have HDZ : Fact (HdKit.zHdA.size = dh.size) := ⟨by rw [show dh.size = 130 by rw [← Array.length_toList, HDH.out, HdKit.hdC_len HNO.out]]; rfl⟩
      have HD1 : Fact (dh.all (·.oneCell') = true) := ⟨by
        have := HdKit.hdC_one (nextH rt hk)
        rw [← HDH.out] at this
        simpa using this⟩
      clear hdh
      apply join
      · intro key
        refine turn_call (f := 31) (args := #[.int .u64 (hk.ht : Int)]) rfl rfl rfl Tryd.func31 (by kernel_rfl) rfl (by simp only [List.map_toArray, List.map_cons, List.map_nil]; rfl) ?_
        refine (vals_calls wd hk.ht hhl).mono ?_
        rintro e w3 ⟨⟨cs3, rfl, hc3⟩, hb3⟩
        have HB3 : Fact (Below sr wr w3) := ⟨HBd.out.trans (hb3.mono (by rw [HSd.out]; exact Nat.le_refl _))⟩
        have HS3 : Fact (sr ≤ w3.heap.size) := ⟨by have := HSd.out; have := hb3.size; omega⟩
        have HBU := Fact.mk (HBUg.out cs3 hc3.out)
        clear hb3 hc3
        refine ⟨_, rfl, HB3.out, ?_⟩
        simp only [List.getElem_toArray, List.getElem_cons_succ, List.getElem_cons_zero, Act.put, List.setIfInBounds_toArray, List.set_cons_succ, List.set_cons_zero]
        refine plan_tell rfl rfl (v := .agg dh) (fun W hS => HdKit.exec_build rfl (by simp only [List.map_toArray, List.map_cons, List.map_nil]; rfl) HBU.out) ?_
        simp only [List.getElem_toArray, List.getElem_cons_succ, List.getElem_cons_zero, Act.put, List.setIfInBounds_toArray, List.set_cons_succ, List.set_cons_zero]
        have HA4 : Fact ((w3.alloc (.cells HdKit.zHdA 54)).heap[w3.heap.size]? = some (.cells HdKit.zHdA 54 (0, 0))) := ⟨heap_alloc_new _ _⟩
        have HX : Fact (Below sr wr (w3.alloc (.cells dh 54)) ∧ (w3.alloc (.cells dh 54)).heap[w3.heap.size]? = some (.cells dh 54 (0, 0)) ∧ w3.heap.size < (w3.alloc (.cells dh 54)).heap.size ∧ sr ≤ w3.heap.size) := ⟨HB3.out.alloc HS3.out _, heap_alloc_new _ _, by simp, HS3.out⟩
        refine turn_do rfl rfl (ShaB.exec_alloc rfl (HdKit.alloc_hd _)) (HB3.out.alloc HS3.out _) ?_
        simp only [List.getElem_toArray, List.getElem_cons_succ, List.getElem_cons_zero, Act.put, List.setIfInBounds_toArray, List.set_cons_succ, List.set_cons_zero]
        refine turn_mute rfl rfl (exec_storeRow (g := w3.heap.size) (old := HdKit.zHdA) (cells := dh) rfl rfl rfl HA4.out HDI.out HDZ.out HD1.out) (by rw [World.setRow_alloc_new]; exact HX.out.1) ?_
        rw [World.setRow_alloc_new]
        simp only [List.getElem_toArray, List.getElem_cons_succ, List.getElem_cons_zero, Act.put, List.setIfInBounds_toArray, List.set_cons_succ, List.set_cons_zero]
        clear HA4 HB3 HS3 HBU
        generalize w3.heap.size = hb at HX ⊢
        generalize w3.alloc (.cells dh 54) = w5 at HX ⊢
        unfold wpPlan
        revert HX
        revert w5
        revert hb
        revert cs3
        exact key
      · intro key
        have HBx : Fact (Below sr wr (wd.alloc (.cells HdKit.zHdA 54))) := ⟨HBd.out.alloc (by rw [HSd.out]; exact Nat.le_refl _) _⟩
        have HAx : Fact ((wd.alloc (.cells HdKit.zHdA 54)).heap[wd.heap.size]? = some (.cells HdKit.zHdA 54 (0, 0))) := ⟨heap_alloc_new _ _⟩
        have HZx : Fact (wd.heap.size < (wd.alloc (.cells HdKit.zHdA 54)).heap.size ∧ sr ≤ wd.heap.size) := ⟨by simp, by rw [HSd.out]; exact Nat.le_refl _⟩
        refine turn_do rfl rfl (ShaB.exec_alloc rfl (HdKit.alloc_hd _)) HBx.out ?_
        simp only [List.getElem_toArray, List.getElem_cons_succ, List.getElem_cons_zero, Act.put, List.setIfInBounds_toArray, List.set_cons_succ, List.set_cons_zero]
        generalize wd.alloc (.cells HdKit.zHdA 54) = wx at HBx HAx HZx ⊢
        generalize wd.heap.size = hb at HAx HZx ⊢
        refine turn_call (f := 31) (args := #[.int .u64 (hk.ht : Int)]) rfl rfl rfl Tryd.func31 (by kernel_rfl) rfl (by simp only [List.map_toArray, List.map_cons, List.map_nil]; rfl) ?_
        refine (vals_calls wx hk.ht hhl).mono ?_
        rintro e w3 ⟨⟨cs3, rfl, hc3⟩, hb3⟩
        have HB3 : Fact (Below sr wr w3) := ⟨HBx.out.trans (hb3.mono (by have := HZx.out; omega))⟩
        have HA4 : Fact (w3.heap[hb]? = some (.cells HdKit.zHdA 54 (0, 0))) := ⟨(hb3.block _ HZx.out.1).trans HAx.out⟩
        have HBU := Fact.mk (HBUg.out cs3 hc3.out)
        have hbs := HZx.out.2
        clear hb3 hc3 HAx HBx
        refine ⟨_, rfl, HB3.out, ?_⟩
        simp only [List.getElem_toArray, List.getElem_cons_succ, List.getElem_cons_zero, Act.put, List.setIfInBounds_toArray, List.set_cons_succ, List.set_cons_zero]
        refine plan_tell rfl rfl (v := .agg dh) (fun W hS => HdKit.exec_build rfl (by simp only [List.map_toArray, List.map_cons, List.map_nil]; rfl) HBU.out) ?_
        simp only [List.getElem_toArray, List.getElem_cons_succ, List.getElem_cons_zero, Act.put, List.setIfInBounds_toArray, List.set_cons_succ, List.set_cons_zero]
        have HR5 : Fact ((w3.setRow hb dh).heap[hb]? = some (.cells dh 54 (0, 0))) := ⟨setRow_heap _ _ _ _ _ _ HA4.out⟩
        have HX : Fact (Below sr wr (w3.setRow hb dh) ∧ (w3.setRow hb dh).heap[hb]? = some (.cells dh 54 (0, 0)) ∧ hb < (w3.setRow hb dh).heap.size ∧ sr ≤ hb) := ⟨below_setRow HB3.out hbs _, HR5.out, (Array.getElem?_eq_some_iff.1 HR5.out).1, hbs⟩
        refine turn_mute rfl rfl (exec_storeRow (g := hb) (old := HdKit.zHdA) (cells := dh) rfl rfl rfl HA4.out HDI.out HDZ.out HD1.out) HX.out.1 ?_
        simp only [List.getElem_toArray, List.getElem_cons_succ, List.getElem_cons_zero, Act.put, List.setIfInBounds_toArray, List.set_cons_succ, List.set_cons_zero]
        clear HA4 HB3 HBU HR5
        generalize w3.setRow hb dh = w5 at HX ⊢
        unfold wpPlan
        clear hbs HZx
        revert HX
        revert w5
        revert hb
        revert cs3
        exact key
      intro cs3 hb w5 HX
      have HB5 := Fact.mk HX.out.1
      have HR5 := Fact.mk HX.out.2.1
      have HS5 := Fact.mk HX.out.2.2.1
      have hb3s := HX.out.2.2.2
      clear HX HBUg HBd HSd
      have HW5 : Fact (Below w.heap.size w w5) := ⟨HBR.out.trans (HB5.out.mono (by have := HLB2.out; omega))⟩
      go_wp2_with (first
        | (refine wpList_load_row rfl 54 (.tmp 10) rfl hb rfl 54 dh (0, 0) _ HR5.out Tryd.underlying54 rfl HDI.out ?_)
        | (go_at_call 32; fail))
      refine (RSeal_calls w5 (nextH rt hk) HNO.out dh HDH.out (laidR_move HLR.out HW5.out H2.out) (Nat.lt_of_lt_of_le H2.out HW5.out.size)).mono ?_
      rintro e w7 ⟨⟨ds, rfl, hds⟩, hb7⟩
      have HDS := Fact.mk hds.out
      have HB7 : Fact (Below sr wr w7) := ⟨HB5.out.trans (hb7.mono (by have := HS5.out; omega))⟩
      have HR7 : Fact (w7.heap[hb]? = some (.cells dh 54 (0, 0))) := ⟨(hb7.block _ HS5.out).trans HR5.out⟩
      clear hb7 hds HR5 HB5 HS5 HW5
      have HT7 : Fact (w7.there hb 98 ds.size) := ⟨by rw [bytes_size HDS.out (sha_len _)]; exact there_row HR7.out (by rw [← Array.length_toList, HDH.out, HdKit.hdC_len HNO.out]) (by decide)⟩
      have HI7 : Fact ((Tryd.prog.info? 52).map (·.size) = some ds.size) := ⟨hash_i (bytes_size HDS.out (sha_len _))⟩
      have HC8 : Fact ((setFrom dh 98 ds.toList).toList = hdC (nextS rt hk)) := ⟨by rw [HDS.out]; exact hdC_seal HNO.out dh HDH.out _ (sha_len _)⟩
      have HNS : Fact (nextS rt hk).ok := ⟨⟨HNO.out.ht, HNO.out.tm, HNO.out.root, HNO.out.vals, HNO.out.next, sha_len _⟩⟩
      have HR8 : Fact ((w7.setCells hb 98 ds.toList).heap[hb]? = some (.cells (setFrom dh 98 ds.toList) 54 (0, 0))) := ⟨row_setCells _ _ _ _ HR7.out⟩
      have HB8 : Fact (Below sr wr (w7.setCells hb 98 ds.toList)) := ⟨below_setCells _ _ HB7.out (by omega)⟩
      obtain ⟨c8, hc8⟩ : ∃ c8, setFrom dh 98 ds.toList = c8 := ⟨_, rfl⟩
      rw [hc8] at HC8 HR8
      clear hc8
      have HI8 : Fact ((Tryd.prog.info? 54).map (·.size) = some c8.size) := ⟨HdKit.hd_i (by rw [← Array.length_toList, HC8.out, HdKit.hdC_len HNS.out])⟩
      have HQ8 : (w7.setCells hb 98 ds.toList).cell? ⟨hb, 1, none⟩ = some (.int .u64 (t1 : Int)) := by
        have := (hd_parts HNS.out HC8.out HR8.out).2.1
        rw [← HA1.out.2]
        exact this
      have HS8 : Fact (hb < (w7.setCells hb 98 ds.toList).heap.size) := ⟨(Array.getElem?_eq_some_iff.1 HR8.out).1⟩
      go_wp2_with (first
        | (refine wpList_store_mid rfl 52 (.tmp 49) (.tmp 48) rfl hb 98 ds rfl rfl HT7.out HI7.out (bytes_one HDS.out) ?_)
        | (refine wpList_load_row rfl 54 (.tmp 10) rfl hb rfl 54 c8 (0, 0) _ HR8.out Tryd.underlying54 rfl HI8.out ?_)
        | (go_at_call 33; fail))
      clear HQ8 HT7 HI7 HR7 HB7
      generalize w7.setCells hb 98 ds.toList = w8 at HR8 HB8 HS8 ⊢
      have hcl := HCH.out.len
      obtain ⟨m, hm⟩ : ∃ m, lk.length = m + 1 := ⟨lk.length - 1, by omega⟩
      have hlast : lk[m]? = some (ofH hk) := by have := HCH.out.last; rw [hm] at this; exact this
      have HCG8 : Fact (Cg w8 BB cb gk2 1000 lk false) := ⟨HCGK.out.below (by rw [HSR.out]; exact HB8.out)⟩
      have HW8 : Fact (Below w.heap.size w w8) := ⟨HBR.out.trans (HB8.out.mono (by have := HLB2.out; omega))⟩
      have hu := Update_calls w8 BB cb gk2 1000 lk false HCG8.out m hm (by omega) (ofH hk) hlast (nextS rt hk) HNS.out c8 HC8.out t1 (by have := HA1.out; omega) (laid_move HL.out HW8.out H1.out) (Nat.lt_of_lt_of_le H1.out HW8.out.size)
      have hun := upd_next HCH.out rt (by omega) (by omega)
      rw [HA1.out.2] at hun
      rw [hun] at hu
      clear hun hlast hcl
      have HGL := Fact.mk (HCGK.out.lt.2)
      refine hu.mono ?_
      rintro e w9 ⟨v9, g9, rfl, he9, hcg9, hgg9, hmod9⟩
      obtain ⟨-, rfl⟩ | ⟨h0, -⟩ := he9.out
      rotate_left
      · exact absurd rfl h0
      have HCB8 : Fact (cb < sr ∧ gk2 < sr) := ⟨by have := HCGK.out.2.1; have := HCGK.out.lt.2; rw [HSR.out] at *; omega⟩
      have hnecb : w.heap.size + 1 ≠ cb := by have := HCB3.out; omega
      have hneg : w.heap.size + 1 ≠ gk2 := by have := HGK.out; omega
      have hlcb : lb ≠ cb := by have := HLB.out; omega
      have hlg : lb ≠ gk2 := by have := HGK.out; omega
      have hszw8 : sr ≤ w8.heap.size := by have := HB8.out.size; rw [HSR.out] at this; exact this
      have HR9 : Fact (w9.heap[hb]? = some (.cells c8 54 (0, 0))) := ⟨(hmod9.out.block _ HS8.out (by have := HCB8.out; omega) (by have := HCB8.out; omega)).trans HR8.out⟩
      have HLROW : Fact (w9.heap[lb]? = some (.cells cs 54 (0, 0))) := ⟨(hmod9.out.block _ (by have := HLR2.out; omega) hlcb hlg).trans ((HB8.out.block _ HLR2.out).trans HROW.out)⟩
      have HRT9 : Fact (w9.heap[w.heap.size + 1]? = some (.cells cr0 52 (0, 0))) := ⟨(hmod9.out.block _ (by have := HLB2.out; omega) hnecb hneg).trans (HRRW.out _ HB8.out)⟩
      have HW9 : Fact (Below w.heap.size w w9) := ⟨HW8.out.trans (hmod9.out.below HW8.out.size (by have := HCB3.out; omega) (by have := HGK.out; omega))⟩
      have HCG9 := hcg9
      have HSZ9 : Fact (cs.size = c8.size) := ⟨by rw [show cs.size = 130 by rw [← Array.length_toList, HCS.out, HdKit.hdC_len HKO.out], show c8.size = 130 by rw [← Array.length_toList, HC8.out, HdKit.hdC_len HNS.out]]⟩
      have HO9 : Fact (c8.all (·.oneCell') = true) := ⟨by
        have := HdKit.hdC_one (nextS rt hk)
        rw [← HC8.out] at this
        simpa using this⟩
      have HG9 : Fact (g9 ≠ lb ∧ w.heap.size + 2 ≤ g9) := ⟨by rcases hgg9.out with rfl | h; exact HGK.out; have := HLB.out; have := HLR2.out; omega⟩
      have HL9 : Fact (lb < w9.heap.size) := ⟨by have := hmod9.out.size; have := HLR2.out; omega⟩
      clear he9 hcg9 hgg9 hmod9 hu HR8 HCG8 HW8 HB8
      go_wp2_with (first
        | (refine wpList_load_row rfl 54 (.tmp 10) rfl hb rfl 54 c8 (0, 0) _ HR9.out Tryd.underlying54 rfl HI8.out ?_)
        | (refine wpList_store_row rfl 54 (.tmp 9) (.tmp 56) rfl lb c8 rfl rfl 54 cs HLROW.out HI8.out HSZ9.out HO9.out ?_))
      have HBS : Fact (Below lb w9 (w9.setRow lb c8)) := ⟨below_setRow (Below.refl _ _) (Nat.le_refl _) _⟩
      have HCHN : Fact (Chain fst (k + 1) (nextS rt hk) (pushM lk (ofH (nextS rt hk)))) := ⟨HCH.out.step HNS.out rfl rfl⟩
      have HCGN : Fact (Cg (w9.setRow lb c8) BB cb g9 1000 (pushM lk (ofH (nextS rt hk))) false) := ⟨HCG9.out.move (setRow_other _ _ _ _ (by omega)) (setRow_other _ _ _ _ (by have := HG9.out; omega)) (by rw [size_setRow]; exact Nat.le_refl _)⟩
      go_roundg (n - (k + 1))
      case measure => have := HK.out; omega
      case rel => exact ⟨k + 1, nextS rt hk, pushM lk (ofH (nextS rt hk)), g9, by go_num, ⟨by have := HK.out; omega⟩, HCHN, ⟨HNS.out, c8, HC8.out, setRow_heap _ _ _ _ _ _ HLROW.out⟩, HCGN, HG9, ⟨(setRow_other _ _ _ _ (by have := HLB.out; omega)).trans HRT9.out⟩, ⟨HW9.out.trans (HBS.out.mono (by have := HLB.out; omega))⟩, ⟨by rw [size_setRow]; exact HL9.out⟩⟩
    · skip
      have hkk : k = n := by omega
      obtain ⟨L, hL⟩ : ∃ L, lk.length = L := ⟨_, rfl⟩
      have hcl := HCH.out.len
      rw [hL] at hcl
      have hL1 : 1 ≤ L ∧ L ≤ 16 := by omega
      obtain ⟨m, hm⟩ : ∃ m, L = m + 1 := ⟨L - 1, by omega⟩
      have hlast : lk[m]? = some (ofH hk) := by have := HCH.out.last; rw [hL, hm] at this; exact this
      have HLK := Fact.mk hL
      have HLAST := Fact.mk hlast
      have HCL := Fact.mk hcl
      go_wp2_with (go_at_call 34; fail)
      refine (Heights_calls wr BB cb 1000 lk false HCGK.out.cl (by omega) (by omega)).mono ?_
      rintro e w9 ⟨⟨A9, c9, rfl, hsl9⟩, hb9⟩
      obtain ⟨ad, ds0, rfl, -⟩ := hsl9.out.at_ (i := m) (x := (ofH hk).ht) (by rw [List.getElem?_map, hlast]; rfl)
      have HCELL : Fact (∀ i s, lk[i]? = some s → w9.cell? (ad.add i) = some (.int .u64 (s.ht : Int))) := ⟨fun i s hi => by
        obtain ⟨ad', ds, e, -, hk, hc⟩ := hsl9.out.at_ (i := i) (x := s.ht) (by rw [List.getElem?_map, hi]; rfl)
        obtain rfl := Option.some.inj e
        have hk' : ds = [.int .u64 (s.ht : Int)] := hk
        subst hk'
        have := hc 0 _ rfl
        rwa [show i * rNat.sz + 0 = i by show i * 1 + 0 = i; omega] at this⟩
      have HB9 : Fact (Below w.heap.size w w9) := ⟨HBR.out.trans (hb9.mono HBR.out.size)⟩
      have HCG9 : Fact (Cg w9 BB cb gk2 1000 lk false) := ⟨HCGK.out.below hb9⟩
      have HROW9 : Fact (w9.heap[lb]? = some (.cells cs 54 (0, 0))) := ⟨(hb9.block _ HLR2.out).trans HROW.out⟩
      have HL9 : Fact (lb < w9.heap.size) := ⟨Nat.lt_of_lt_of_le HLR2.out hb9.size⟩
      clear hsl9 hb9 hcl hlast
      rw [hL]
      have q0 : w9.cell? ⟨lb, 0, none⟩ = some (.int .u64 (hk.ht : Int)) := (hd_parts HKO.out HCS.out HROW9.out).1
      go_wp2
      go_loopg [62] L (fun kq v62 w10 => ∃ i : Nat, v62 = .int .i64 (i : Int) ∧ Fact (i + kq = L) ∧ Fact (w10 = w9))
      case atStart => exact ⟨0, rfl, ⟨by omega⟩, ⟨rfl⟩⟩
      case round =>
        obtain ⟨i, rfl, HI, HWW⟩ := hrel
        have hiL := HI.out
        obtain rfl := HWW.out
        by_cases hi : i < L
        · obtain ⟨s, hs⟩ : ∃ s, lk[i]? = some s := ⟨lk[i]'(by omega), List.getElem?_eq_getElem _⟩
          have hdn := HCH.out.down i s hs
          rw [hL] at hdn
          have hc := HCELL.out i s hs
          obtain ⟨x, hx⟩ : ∃ x, s.ht = x := ⟨_, rfl⟩
          rw [hx] at hc hdn
          have d1 : ((L : Int) - 1 - (i : Int)) = ((L - 1 - i : Nat) : Int) := by omega
          obtain ⟨d, hd⟩ : ∃ d, L - 1 - i = d := ⟨_, rfl⟩
          rw [hd] at d1 hdn
          have d2 : IntKind.u64.wrap (d : Int) = (d : Int) := by rw [IntKind.wrap_u64]; omega
          have d3 : IntKind.u64.wrap ((hk.ht : Int) - (d : Int)) = (x : Int) := by rw [IntKind.wrap_u64]; omega
          have d4 : (hk.ht : Int) - (d : Int) = (x : Int) := by omega
          have D := Fact.mk hdn
          clear hdn hx hd hs
          go_wp2
          go_roundg (L - (i + 1))
          case measure => omega
          case rel => exact ⟨i + 1, by go_num, ⟨by omega⟩, ⟨rfl⟩⟩
        · go_wp2
          have HN2 : Fact ((if (n : Int) + 1 < 16 then (n : Int) + 1 else 16) = (m : Int) + 1 ∧ IntKind.i64.wrap ((n : Int) + 1) = (n : Int) + 1) := ⟨by have := HCL.out; split <;> omega, by rw [IntKind.wrap_i64]; omega⟩
          have HP : Fact (∀ W, Below wr.heap.size wr W → W.cell? ⟨lb, 0, none⟩ = some (.int .u64 (hk.ht : Int))) := ⟨fun W hS => (hd_parts HKO.out HCS.out ((hS.block _ HL9.out).trans HROW9.out)).1⟩
          refine wp_region_P (fun W => Below wr.heap.size wr W) (.tell 0 (.tell 1 (.tell 2 (.tell 3 (.tell 5 (.tell 6 (.one 4 (.tell 7 (.tell 8 (.tell 9 (.tell 10 (.tell 11 (.tell 12 (.tell 13 (.tell 14 (.tell 15 (.tell 16 (.tell 17 (.tell 18 .done))))))))))))))))))) (by kernel_rfl) (by kernel_rfl) (by kernel_rfl) (by intro c a d v w h; cases d <;> exact h) (Below.refl _ _).drew ?_
          have HBd : Fact (Below wr.heap.size wr wr.drew) := ⟨(Below.refl _ _).drew⟩
          generalize wr.drew = wd at HBd ⊢
          refine plan_tell rfl rfl (fun W hS => by
            go_simp
            first | done | rfl) ?_
          simp only [List.getElem_toArray, List.getElem_cons_succ, List.getElem_cons_zero, Act.put, List.setIfInBounds_toArray, List.set_cons_succ, List.set_cons_zero]
          refine plan_tell rfl rfl (fun W hS => by
            go_simp
            first | done | rfl) ?_
          simp only [List.getElem_toArray, List.getElem_cons_succ, List.getElem_cons_zero, Act.put, List.setIfInBounds_toArray, List.set_cons_succ, List.set_cons_zero]
          refine plan_tell rfl rfl (fun W hS => by
            go_simp
            first | done | rfl) ?_
          simp only [List.getElem_toArray, List.getElem_cons_succ, List.getElem_cons_zero, Act.put, List.setIfInBounds_toArray, List.set_cons_succ, List.set_cons_zero]
          refine plan_tellG rfl rfl (fun W hS => by
            go_simp
            first | done | rfl) ?_
          simp only [List.getElem_toArray, List.getElem_cons_succ, List.getElem_cons_zero, Act.put, List.setIfInBounds_toArray, List.set_cons_succ, List.set_cons_zero]
          refine plan_tellG rfl rfl (fun W hS => by
            go_simp
            first | done | rfl) ?_
          simp only [List.getElem_toArray, List.getElem_cons_succ, List.getElem_cons_zero, Act.put, List.setIfInBounds_toArray, List.set_cons_succ, List.set_cons_zero]
          refine plan_tellG rfl rfl (fun W hS => by
            have p0 := HP.out W hS
            go_simp
            first | done | rfl) ?_
          simp only [List.getElem_toArray, List.getElem_cons_succ, List.getElem_cons_zero, Act.put, List.setIfInBounds_toArray, List.set_cons_succ, List.set_cons_zero]
          refine turn_callG (f := 35) (args := #[.pointer (some ⟨cb, 0, none⟩)]) rfl rfl rfl Tryd.func35 (by kernel_rfl) rfl (by simp only [List.map_toArray, List.map_cons, List.map_nil]; rfl) ?_
          refine (Latest_calls wd BB cb 1000 lk false (HCG9.out.below HBd.out).cl m (HLK.out.trans hm) (ofH hk) HLAST.out).mono ?_
          rintro e v4 ⟨rfl, q, rfl⟩
          have HB4 : Fact (Below wr.heap.size wr (wd.drewN q)) := ⟨below_drewN' HBd.out q⟩
          refine ⟨_, rfl, HB4.out, ?_⟩
          simp only [List.getElem_toArray, List.getElem_cons_succ, List.getElem_cons_zero, Act.put, List.setIfInBounds_toArray, List.set_cons_succ, List.set_cons_zero]
          have hht : (ofH hk).ht = hk.ht := rfl
          rw [hht]
          refine plan_tellG rfl rfl (fun W hS => by
            go_simp
            first | done | rfl) ?_
          simp only [List.getElem_toArray, List.getElem_cons_succ, List.getElem_cons_zero, Act.put, List.setIfInBounds_toArray, List.set_cons_succ, List.set_cons_zero]
          refine plan_tell rfl rfl (fun W hS => by
            go_simp
            first | done | rfl) ?_
          simp only [List.getElem_toArray, List.getElem_cons_succ, List.getElem_cons_zero, Act.put, List.setIfInBounds_toArray, List.set_cons_succ, List.set_cons_zero]
          refine plan_tell rfl rfl (fun W hS => by
            go_simp
            first | done | rfl) ?_
          simp only [List.getElem_toArray, List.getElem_cons_succ, List.getElem_cons_zero, Act.put, List.setIfInBounds_toArray, List.set_cons_succ, List.set_cons_zero]
          refine plan_tellG rfl rfl (fun W hS => by
            go_simp
            first | done | rfl) ?_
          simp only [List.getElem_toArray, List.getElem_cons_succ, List.getElem_cons_zero, Act.put, List.setIfInBounds_toArray, List.set_cons_succ, List.set_cons_zero]
          refine plan_tellG rfl rfl (fun W hS => by
            go_simp
            first | done | rfl) ?_
          simp only [List.getElem_toArray, List.getElem_cons_succ, List.getElem_cons_zero, Act.put, List.setIfInBounds_toArray, List.set_cons_succ, List.set_cons_zero]
          refine plan_tellG rfl rfl (fun W hS => by
            go_simp
            first | done | rfl) ?_
          simp only [List.getElem_toArray, List.getElem_cons_succ, List.getElem_cons_zero, Act.put, List.setIfInBounds_toArray, List.set_cons_succ, List.set_cons_zero]
          refine plan_tellG rfl rfl (fun W hS => by
            have hnn : IntKind.i64.wrap (n : Int) = (n : Int) := by rw [IntKind.wrap_i64]; omega
            go_simp
            first | done | rfl) ?_
          simp only [List.getElem_toArray, List.getElem_cons_succ, List.getElem_cons_zero, Act.put, List.setIfInBounds_toArray, List.set_cons_succ, List.set_cons_zero]
          refine plan_tellG rfl rfl (fun W hS => by
            go_simp
            first | done | rfl) ?_
          simp only [List.getElem_toArray, List.getElem_cons_succ, List.getElem_cons_zero, Act.put, List.setIfInBounds_toArray, List.set_cons_succ, List.set_cons_zero]
          refine plan_tellG rfl rfl (v := .int .i64 (L : Int)) (fun W hS => by
            have hmn := HN2.out.1
            have hmw := HN2.out.2
            have hmi := run_min_int2 (P := Tryd.prog)
            go_simp
            first | done | rfl) ?_
          simp only [List.getElem_toArray, List.getElem_cons_succ, List.getElem_cons_zero, Act.put, List.setIfInBounds_toArray, List.set_cons_succ, List.set_cons_zero]
          refine plan_tellG rfl rfl (fun W hS => by
            go_simp
            first | done | rfl) ?_
          simp only [List.getElem_toArray, List.getElem_cons_succ, List.getElem_cons_zero, Act.put, List.setIfInBounds_toArray, List.set_cons_succ, List.set_cons_zero]
          refine plan_tell rfl rfl (fun W hS => by
            go_simp
            first | done | rfl) ?_
          simp only [List.getElem_toArray, List.getElem_cons_succ, List.getElem_cons_zero, Act.put, List.setIfInBounds_toArray, List.set_cons_succ, List.set_cons_zero]
          refine plan_tell rfl rfl (fun W hS => by
            go_simp
            first | done | rfl) ?_
          simp only [List.getElem_toArray, List.getElem_cons_succ, List.getElem_cons_zero, Act.put, List.setIfInBounds_toArray, List.set_cons_succ, List.set_cons_zero]
          unfold wpPlan
          go_wp2_with fail
          go_ret
          exact ⟨rfl, HB9.out.trans (HB4.out.mono HB9.out.size)⟩
end Go.Proofs.YtkmcjokoinoahaaDoor.LawCRuns
