/- ParcelPackets: for every input the law answers true; what was in memory before is as it was. -/
import Derived.Test.YtjjcjdefenbnjaaDoorParcelR
import Derived.Test.YtjjcjdefenbnjaaDoorParcelE
set_option linter.unusedVariables false
set_option linter.unusedSimpArgs false
namespace Go.Proofs.YtjjcjdefenbnjaaDoor.LawPPack
open Go.RowKit Go.Proofs.YtjjcjdefenbnjaaDoor.Lib Go.Proofs.YtjjcjdefenbnjaaDoor.LibB Go.Proofs.YtjjcjdefenbnjaaDoor.Reg Go.Proofs.YtjjcjdefenbnjaaDoor.PlainS Go.Proofs.YtjjcjdefenbnjaaDoor.ShaB Go.Proofs.YtjjcjdefenbnjaaDoor.ShaC Go.Proofs.YtjjcjdefenbnjaaDoor.ShaD Go.Proofs.YtjjcjdefenbnjaaDoor.ShaDS Go.Proofs.YtjjcjdefenbnjaaDoor.ShaE Go.Proofs.YtjjcjdefenbnjaaDoor.PlainP Go.Proofs.YtjjcjdefenbnjaaDoor.DenomA Go.Proofs.YtjjcjdefenbnjaaDoor.ParcelB Go.Proofs.YtjjcjdefenbnjaaDoor.OpenP Go.Proofs.YtjjcjdefenbnjaaDoor.ParcelL Go.Proofs.YtjjcjdefenbnjaaDoor.ParcelR
theorem exec_conv {P : Program} {o : Oper} {a : Act} {w : World} {t u : TypeId} {x : Operand} {p v : Value} (ho : o.op = .convert t u x) (hx : a.eval x = p) (hr : (convert t u p).run P w = .ok v w) : (execOp a.eval o).run P w = .ok (.value v) w := by
  unfold execOp
  rw [ho]
  show ((convert t u (a.eval x)) >>= _).run P w = _
  rw [Sem.run_bind, hx, hr]
  rfl
def z32 : List UInt8 := List.replicate 32 0
theorem z32_list : (bArr []).toList = z32.map vu8 := by simp [bArr, z32]
theorem z32_len : z32.length = 32 := by simp [z32]
theorem pka_i (ch : Int) (p : Pk) : (Tryd.prog.info? 36).map (·.size) = some (pkA ch p).size := by rw [show (pkA ch p).size = 7 from rfl]; kernel_rfl
set_option maxHeartbeats 4000000 in
set_option maxRecDepth 100000 in
theorem Commit_bad (w : World) (p : Pk) (ch : Int) (h : ch < 0 ∨ 4 ≤ ch) : Calls Tryd.prog 16 #[.agg (pkA ch p)] w fun e w' => e = .returned (.tuple #[.agg (bArr []), .int .i64 2]) ∧ Below w.heap.size w w' := by
  have HH := Fact.mk h
  have HI := Fact.mk (pka_i ch p)
  clear h
  go_enter Tryd.func16, Tryd.ntmps16
  go_wp2_with (first
    | (refine wpList_ok rfl (exec_alloc rfl (alloc_b _)) ?_)
    | (go_at_call 14; fail)
    | (refine wpList_load_row rfl 36 (.tmp 1) rfl w.heap.size rfl 36 (pkA ch p) (0, 0) _ (heap_two _ _ _) Tryd.underlying36 rfl HI.out ?_))
  refine (Packet_bad _ p ch HH.out).mono ?_
  rintro e w1 ⟨rfl, hb⟩
  have HR : Fact (w1.heap[w.heap.size + 1]? = some (.cells (bArr []) 25 (0, 0))) := ⟨by rw [hb.block _ (by simp)]; exact heap_twoB _ _ _⟩
  have HB : Fact (Below w.heap.size w w1) := ⟨(((Below.refl _ _).alloc (Nat.le_refl _) _).alloc (by simp) _).trans (hb.mono (by simp; omega))⟩
  have HBI := Fact.mk (b_i (l := []) (by decide))
  clear hb
  go_wp2_with (refine wpList_store_row rfl 25 (.tmp 2) (.tmp 13) rfl (w.heap.size + 1) (bArr []) rfl rfl 25 (bArr []) HR.out HBI.out rfl (bArr_one _) ?_)
  refine bodyPost_ret (ParcelE.results_cell_tmp (fn := Tryd.f16) rfl _ _ (w.heap.size + 1) 25 (bArr []) (0, 0) _ rfl (setRow_heap _ _ _ _ _ _ HR.out) hash_u rfl HBI.out) rfl ?_
  exact ⟨rfl, below_setRow HB.out (by omega) _⟩
set_option maxHeartbeats 4000000 in
set_option maxRecDepth 100000 in
theorem Commit_calls (w : World) (p : Pk) (hp : p.ok) (hl : (pkL p).length ≤ 1000000) (hg : LaidW w) (h1 : 1 < w.heap.size) : Calls Tryd.prog 16 #[.agg (pkC p)] w fun e w' => (∃ cs : Array Value, e = .returned (.tuple #[.agg cs, .int .i64 0]) ∧ Fact (cs.toList = (shaL (pkL p)).map vu8)) ∧ Below w.heap.size w w' := by
  have HP := Fact.mk hp
  have HLN := Fact.mk hl
  have HG := Fact.mk hg
  have H1 := Fact.mk h1
  have HI := Fact.mk (ParcelM.pk_i p)
  clear hp hl hg h1
  go_enter Tryd.func16, Tryd.ntmps16
  go_wp2_with (first
    | (refine wpList_ok rfl (exec_alloc rfl (alloc_b _)) ?_)
    | (go_at_call 14; fail)
    | (refine wpList_load_row rfl 36 (.tmp 1) rfl w.heap.size rfl 36 (pkC p) (0, 0) _ (heap_two _ _ _) Tryd.underlying36 rfl HI.out ?_))
  refine (Packet_calls _ p HP.out).mono ?_
  rintro e w1 ⟨A, c, rfl, ho, hb⟩
  obtain ⟨n, hn⟩ : ∃ n, (pkL p).length = n := ⟨_, rfl⟩
  have HS : Fact (Sl rU8 w1 (fun k => k < w1.heap.size) A n c (pkL p)) := ⟨by rw [← hn]; exact Sl.mono ho.out (fun k hk => hk.2)⟩
  rw [hn]
  have HR : Fact (w1.heap[w.heap.size + 1]? = some (.cells (bArr []) 25 (0, 0))) := ⟨by rw [hb.block _ (by simp)]; exact heap_twoB _ _ _⟩
  have HB : Fact (Below w.heap.size w w1) := ⟨(((Below.refl _ _).alloc (Nat.le_refl _) _).alloc (by simp) _).trans (hb.mono (by simp; omega))⟩
  have HLT : Fact (w.heap.size + 1 < w1.heap.size) := ⟨Go.lt_of_block HR.out⟩
  clear ho hb hn
  go_wp2_with (go_at_call 9; fail)
  refine (sum_at w1 _ rfl HS.out (fun _ h => h) HLN.out (laid_move HG.out HB.out H1.out) (Nat.lt_of_lt_of_le H1.out HB.out.size)).mono ?_
  rintro e w2 ⟨⟨cs, rfl, hc⟩, hb⟩
  have HC := Fact.mk hc.out
  have HR2 : Fact (w2.heap[w.heap.size + 1]? = some (.cells (bArr []) 25 (0, 0))) := ⟨by rw [hb.block _ HLT.out]; exact HR.out⟩
  have HB2 : Fact (Below w.heap.size w w2) := ⟨HB.out.trans (hb.mono HB.out.size)⟩
  have HCI := Fact.mk (hash_i (bytes_size HC.out (sha_len _)))
  have HZ : Fact ((bArr []).size = cs.size) := ⟨by rw [bArr_size (by decide), bytes_size HC.out (sha_len _)]⟩
  clear hc hb
  go_wp2_with (refine wpList_store_row rfl 25 (.tmp 2) (.tmp 17) rfl (w.heap.size + 1) cs rfl rfl 25 (bArr []) HR2.out HCI.out HZ.out (bytes_one HC.out) ?_)
  refine bodyPost_ret (ParcelE.results_cell_tmp (fn := Tryd.f16) rfl _ _ (w.heap.size + 1) 25 cs (0, 0) _ rfl (setRow_heap _ _ _ _ _ _ HR2.out) hash_u rfl HCI.out) rfl ?_
  exact ⟨⟨cs, rfl, HC⟩, below_setRow HB2.out (by omega) _⟩
set_option maxHeartbeats 8000000 in
set_option maxRecDepth 100000 in
theorem ParcelPackets_calls (w : World) (hgw : LaidW w) (hgr : LaidR w) (h1 : 1 < w.heap.size) (ch : Int) (p : Pk) (hs : Sized p) :
    Calls Tryd.prog 7 #[.agg (pkA ch p)] w fun e w' => e = .returned (.bool true) ∧ Below w.heap.size w w' := by
  have HS := Fact.mk hs
  have HGW := Fact.mk hgw
  have HGR := Fact.mk hgr
  have H1 := Fact.mk h1
  have HI := Fact.mk (pka_i ch p)
  have HBI := Fact.mk (b_i (l := []) (by decide))
  clear hs hgw hgr h1
  go_enter Tryd.func7, Tryd.ntmps7
  go_wp2_with (go_at_call 12; fail)
  refine (ParcelL.Awake_calls _).mono ?_
  rintro e w1 ⟨rfl, hb⟩
  have HB1 : Fact (Below w.heap.size w w1) := ⟨((Below.refl _ _).alloc (Nat.le_refl _) (.cells (pkA ch p) 36)).trans (hb.mono (by simp))⟩
  have HR1 : Fact (w1.heap[w.heap.size]? = some (.cells (pkA ch p) 36 (0, 0))) := ⟨by rw [hb.block _ (by simp)]; exact heap_alloc_new _ _⟩
  clear hb
  go_wp2_with (first
    | (go_at_call 13; fail)
    | (refine wpList_load_row rfl 36 (.tmp 1) rfl w.heap.size rfl 36 (pkA ch p) (0, 0) _ HR1.out Tryd.underlying36 rfl HI.out ?_))
  refine (long_calls w1 ch p HS.out).mono ?_
  rintro e w2 ⟨rfl, hb⟩
  have HB2 : Fact (Below w.heap.size w w2) := ⟨HB1.out.trans (hb.mono HB1.out.size)⟩
  have HR2 : Fact (w2.heap[w.heap.size]? = some (.cells (pkA ch p) 36 (0, 0))) := ⟨ParcelM.row_move HR1.out hb⟩
  clear hb HR1 HB1
  by_cases hl : longP p = true
  · rw [hl]
    go_wp2_with fail
    go_ret
    exact ⟨rfl, HB2.out⟩
  · have hl' : longP p = false := by simpa using hl
    rw [hl']
    have HLP := Fact.mk hl'
    clear hl hl'
    by_cases hc : ch < 0 ∨ 4 ≤ ch
    · have HC := Fact.mk hc
      clear hc
      go_wp2_with (first
        | (go_at_call 14; fail)
        | (refine wpList_load_row rfl 36 (.tmp 1) rfl w.heap.size rfl 36 (pkA ch p) (0, 0) _ HR2.out Tryd.underlying36 rfl HI.out ?_))
      refine (Packet_bad _ p ch HC.out).mono ?_
      rintro e w3 ⟨rfl, hb⟩
      have HB3 : Fact (Below w.heap.size w w3) := ⟨HB2.out.trans (hb.mono HB2.out.size)⟩
      have HR3 : Fact (w3.heap[w.heap.size]? = some (.cells (pkA ch p) 36 (0, 0))) := ⟨ParcelM.row_move HR2.out hb⟩
      clear hb HR2 HB2
      go_wp2_with (first
        | (go_at_call 15; fail)
        | (refine wpList_load_row rfl 36 (.tmp 1) rfl w.heap.size rfl 36 (pkA ch p) (0, 0) _ HR3.out Tryd.underlying36 rfl HI.out ?_))
      refine (RPacket_bad _ p ch HC.out).mono ?_
      rintro e w4 ⟨rfl, hb⟩
      have HB4 : Fact (Below w.heap.size w w4) := ⟨HB3.out.trans (hb.mono HB3.out.size)⟩
      have HR4 : Fact (w4.heap[w.heap.size]? = some (.cells (pkA ch p) 36 (0, 0))) := ⟨ParcelM.row_move HR3.out hb⟩
      clear hb HR3 HB3
      go_wp2_with (first
        | (go_at_call 16; fail)
        | (refine wpList_load_row rfl 36 (.tmp 1) rfl w.heap.size rfl 36 (pkA ch p) (0, 0) _ HR4.out Tryd.underlying36 rfl HI.out ?_))
      refine (Commit_bad _ p ch HC.out).mono ?_
      rintro e w5 ⟨rfl, hb⟩
      have HB5 : Fact (Below w.heap.size w w5) := ⟨HB4.out.trans (hb.mono HB4.out.size)⟩
      clear hb HR4 HB4
      have HR5 : Fact ((((w5.alloc (.cells (bArr []) 25)).setRow w5.heap.size (bArr [])).alloc (.cells (bArr []) 25)).heap[w5.heap.size + 1]? = some (.cells (bArr []) 25 (0, 0))) := ⟨by have h := heap_alloc_new ((w5.alloc (.cells (bArr []) 25)).setRow w5.heap.size (bArr [])) (.cells (bArr []) 25); rwa [size_setRow, size_alloc'] at h⟩
      go_wp2_with (first
        | (refine wpList_ok rfl (exec_alloc rfl (alloc_b _)) ?_; simp only [Act.put, size_alloc', size_setRow])
        | (refine wpList_store_row rfl 25 (.tmp 7) (.tmp 27) rfl w5.heap.size (bArr []) rfl rfl 25 (bArr []) (heap_alloc_new _ _) HBI.out rfl (bArr_one _) ?_)
        | (refine wpList_store_row rfl 25 (.tmp 9) (.tmp 29) rfl (w5.heap.size + 1) (bArr []) rfl rfl 25 (bArr []) HR5.out HBI.out rfl (bArr_one _) ?_
           have HX1 : Fact (((((w5.alloc (.cells (bArr []) 25)).setRow w5.heap.size (bArr [])).alloc (.cells (bArr []) 25)).setRow (w5.heap.size + 1) (bArr [])).heap[w5.heap.size]? = some (.cells (bArr []) 25 (0, 0))) := ⟨by rw [setRow_other _ _ _ _ (by omega), Below.heap_alloc _ _ _ (by rw [size_setRow, size_alloc']; omega)]; exact setRow_heap _ _ _ _ _ _ (heap_alloc_new _ _)⟩
           have HX2 : Fact (((((w5.alloc (.cells (bArr []) 25)).setRow w5.heap.size (bArr [])).alloc (.cells (bArr []) 25)).setRow (w5.heap.size + 1) (bArr [])).heap[w5.heap.size + 1]? = some (.cells (bArr []) 25 (0, 0))) := ⟨setRow_heap _ _ _ _ _ _ HR5.out⟩
           have HB6 : Fact (Below w5.heap.size w5 ((((w5.alloc (.cells (bArr []) 25)).setRow w5.heap.size (bArr [])).alloc (.cells (bArr []) 25)).setRow (w5.heap.size + 1) (bArr []))) := ⟨below_setRow ((below_setRow ((Below.refl _ _).alloc (Nat.le_refl _) _) (Nat.le_refl _) _).alloc (by rw [size_setRow, size_alloc']; omega) _) (by omega) _⟩
           generalize ((((w5.alloc (.cells (bArr []) 25)).setRow w5.heap.size (bArr [])).alloc (.cells (bArr []) 25)).setRow (w5.heap.size + 1) (bArr [])) = w6 at HX1 HX2 HB6 ⊢
           have hstr := run_str (P := Tryd.prog) 22 5 9 Tryd.underlying22 Tryd.underlying5 Tryd.underlying9 (Sl.nil rU8 w6 (fun _ => False) none 0 (by decide))
           have hq := eq_hash hash_u hash_c hash_k (bArr []) (bArr []) _ _ z32_list z32_list z32_len z32_len
           rw [beq_self_eq_true] at hq
           clear HR5
           have HSTR := Fact.mk hstr
           clear hstr)
        | (refine wpList_okG (o := ⟨some 44, _, _, _, _, _⟩) rfl (exec_conv rfl rfl HSTR.out) ?_)
        | (refine wpList_okG (o := ⟨some 46, _, _, _, _, _⟩) rfl (exec_conv rfl rfl HSTR.out) ?_)
        | (refine wpList_okG (o := ⟨some 50, _, _, _, _, _⟩) rfl (ParcelM.exec_loadR rfl rfl HX1.out hash_u rfl HBI.out) ?_)
        | (refine wpList_okG (o := ⟨some 51, _, _, _, _, _⟩) rfl (ParcelM.exec_loadR rfl rfl HX2.out hash_u rfl HBI.out) ?_))
      go_ret
      exact ⟨rfl, HB5.out.trans (HB6.out.mono HB5.out.size)⟩
    · obtain ⟨c4, rfl⟩ : ∃ c4 : Nat, ch = (c4 : Int) := ⟨ch.toNat, by omega⟩
      have HPE : Fact (∃ p' : Pk, p'.ok ∧ pkA (c4 : Int) p = pkC p' ∧ (pkL p').length ≤ 3053) := ⟨by
        have h1 := HLP.out; unfold longP at h1; simp at h1; have h2 := HS.out
        refine ⟨⟨c4, p.seq, p.tmo, p.den, p.amt, p.frm, p.to⟩, ⟨by show c4 < 4; omega, h2.seq, h2.tmo, h2.amt, by show p.den.length ≤ 65535; omega, by show p.frm.length ≤ 65535; omega, by show p.to.length ≤ 65535; omega⟩, rfl, ?_⟩
        have := pkL_len ⟨c4, p.seq, p.tmo, p.den, p.amt, p.frm, p.to⟩; simp only at this; omega⟩
      obtain ⟨q, hq1, hq2, hq3⟩ := HPE.out
      rw [hq2] at HR2 HI
      have HQ1 := Fact.mk hq1
      have HQ3 := Fact.mk hq3
      clear HPE hq1 hq3 hc
      go_wp2_with (first
        | (go_at_call 14; fail)
        | (refine wpList_load_row rfl 36 (.tmp 1) rfl w.heap.size rfl 36 (pkC q) (0, 0) _ HR2.out Tryd.underlying36 rfl HI.out ?_))
      clear hq2
      refine (Packet_calls _ q HQ1.out).mono ?_
      rintro e w3 ⟨A3, c3, rfl, ho, hb⟩
      obtain ⟨x, hx⟩ : ∃ x, pkL q = x := ⟨_, rfl⟩
      have HX := Fact.mk hx
      rw [hx] at ho ⊢
      obtain ⟨n3, hn3⟩ : ∃ n3, x.length = n3 := ⟨_, rfl⟩
      have HL3 : Fact (Sl rU8 w3 (fun k => k < w3.heap.size) A3 n3 c3 x) := ⟨by rw [← hn3]; exact Sl.mono ho.out (fun k hk => hk.2)⟩
      rw [hn3]
      have HB3 : Fact (Below w.heap.size w w3) := ⟨HB2.out.trans (hb.mono HB2.out.size)⟩
      have HR3 : Fact (w3.heap[w.heap.size]? = some (.cells (pkC q) 36 (0, 0))) := ⟨ParcelM.row_move HR2.out hb⟩
      clear hb ho hx hn3 HR2 HB2
      go_wp2_with (first
        | (go_at_call 15; fail)
        | (refine wpList_load_row rfl 36 (.tmp 1) rfl w.heap.size rfl 36 (pkC q) (0, 0) _ HR3.out Tryd.underlying36 rfl HI.out ?_))
      refine (RPacket_calls _ q HQ1.out).mono ?_
      rintro e w4 ⟨A4, n4, c4', rfl, hs4, hb⟩
      have HS4 : Fact (Sl rU8 w4 (fun k => k < w4.heap.size) A4 n4 c4' x) := ⟨by have h := hs4.out; rw [HX.out] at h; exact h⟩
      have HL4 := Fact.mk (up HL3.out hb)
      have HB4 : Fact (Below w.heap.size w w4) := ⟨HB3.out.trans (hb.mono HB3.out.size)⟩
      have HR4 : Fact (w4.heap[w.heap.size]? = some (.cells (pkC q) 36 (0, 0))) := ⟨ParcelM.row_move HR3.out hb⟩
      clear hb hs4 HR3 HB3 HL3
      go_wp2_with (first
        | (go_at_call 16; fail)
        | (refine wpList_load_row rfl 36 (.tmp 1) rfl w.heap.size rfl 36 (pkC q) (0, 0) _ HR4.out Tryd.underlying36 rfl HI.out ?_))
      refine (Commit_calls _ q HQ1.out (Nat.le_trans HQ3.out (by decide)) (laid_move HGW.out HB4.out H1.out) (Nat.lt_of_lt_of_le H1.out HB4.out.size)).mono ?_
      rintro e w5 ⟨⟨cs, rfl, hc5⟩, hb⟩
      have HC5 : Fact (cs.toList = (shaL x).map vu8) := ⟨by have h := hc5.out; rw [HX.out] at h; exact h⟩
      have HL5 := Fact.mk (up HL4.out hb)
      have HS5 := Fact.mk (up HS4.out hb)
      have HB5 : Fact (Below w.heap.size w w5) := ⟨HB4.out.trans (hb.mono HB4.out.size)⟩
      have HCI := Fact.mk (hash_i (bytes_size HC5.out (sha_len _)))
      have HZ : Fact ((bArr []).size = cs.size) := ⟨by rw [bArr_size (by decide), bytes_size HC5.out (sha_len _)]⟩
      have HXL : Fact (x.length ≤ 1000000) := ⟨by have := HQ3.out; rw [HX.out] at this; omega⟩
      clear hb hc5 HR4 HB4 HL4 HS4
      have HR5 : Fact ((((w5.alloc (.cells (bArr []) 25)).setRow w5.heap.size cs).alloc (.cells (bArr []) 25)).heap[w5.heap.size + 1]? = some (.cells (bArr []) 25 (0, 0))) := ⟨by have h := heap_alloc_new ((w5.alloc (.cells (bArr []) 25)).setRow w5.heap.size cs) (.cells (bArr []) 25); rwa [size_setRow, size_alloc'] at h⟩
      go_wp2_with (first
        | (refine wpList_ok rfl (exec_alloc rfl (alloc_b _)) ?_; simp only [Act.put, size_alloc', size_setRow])
        | (refine wpList_store_row rfl 25 (.tmp 7) (.tmp 27) rfl w5.heap.size cs rfl rfl 25 (bArr []) (heap_alloc_new _ _) HCI.out HZ.out (bytes_one HC5.out) ?_)
        | (refine wpList_store_row rfl 25 (.tmp 9) (.tmp 29) rfl (w5.heap.size + 1) (bArr []) rfl rfl 25 (bArr []) HR5.out HBI.out rfl (bArr_one _) ?_)
        | (go_at_call 10; fail))
      have HX1 : Fact (((((w5.alloc (.cells (bArr []) 25)).setRow w5.heap.size cs).alloc (.cells (bArr []) 25)).setRow (w5.heap.size + 1) (bArr [])).heap[w5.heap.size]? = some (.cells cs 25 (0, 0))) := ⟨by rw [setRow_other _ _ _ _ (by omega), Below.heap_alloc _ _ _ (by rw [size_setRow, size_alloc']; omega)]; exact setRow_heap _ _ _ _ _ _ (heap_alloc_new _ _)⟩
      have HX2 : Fact (((((w5.alloc (.cells (bArr []) 25)).setRow w5.heap.size cs).alloc (.cells (bArr []) 25)).setRow (w5.heap.size + 1) (bArr [])).heap[w5.heap.size + 1]? = some (.cells (bArr []) 25 (0, 0))) := ⟨setRow_heap _ _ _ _ _ _ HR5.out⟩
      have HB6 : Fact (Below w5.heap.size w5 ((((w5.alloc (.cells (bArr []) 25)).setRow w5.heap.size cs).alloc (.cells (bArr []) 25)).setRow (w5.heap.size + 1) (bArr []))) := ⟨below_setRow ((below_setRow ((Below.refl _ _).alloc (Nat.le_refl _) _) (Nat.le_refl _) _).alloc (by rw [size_setRow, size_alloc']; omega) _) (by omega) _⟩
      generalize hg5 : w5.heap.size = g5 at HX1 HX2 HB6 HL5 HS5 ⊢
      generalize ((((w5.alloc (.cells (bArr []) 25)).setRow g5 cs).alloc (.cells (bArr []) 25)).setRow (g5 + 1) (bArr [])) = w6 at HX1 HX2 HB6 ⊢
      have HB6' : Fact (Below w5.heap.size w5 w6) := ⟨by rw [hg5]; exact HB6.out⟩
      have HG5 : Fact (w.heap.size ≤ g5) := ⟨by rw [← hg5]; exact HB5.out.size⟩
      clear HR5 hg5
      have HS6 : Fact (Sl rU8 w6 (fun k => k < w6.heap.size) A4 n4 c4' x) := ⟨(HS5.out.move (Same.of_below HB6.out (fun _ h => h))).mono (fun k hk => Nat.lt_trans hk (Go.lt_of_block HX1.out))⟩
      have HBw6 : Fact (Below w.heap.size w w6) := ⟨HB5.out.trans (HB6'.out.mono HB5.out.size)⟩
      have HLT : Fact (g5 + 1 < w6.heap.size) := ⟨Go.lt_of_block HX2.out⟩
      refine (RSum_calls _ _ _ _ _ x HS6.out (fun _ h => h) HXL.out (laidR_move HGR.out HBw6.out (Nat.lt_trans Nat.zero_lt_one H1.out)) (Nat.lt_of_lt_of_le (Nat.lt_trans Nat.zero_lt_one H1.out) HBw6.out.size)).mono ?_
      rintro e w7 ⟨⟨cs2, rfl, hc7⟩, hb⟩
      have HC7 := Fact.mk hc7.out
      have HY1 : Fact (w7.heap[g5]? = some (.cells cs 25 (0, 0))) := ⟨by rw [hb.block _ (by have := HLT.out; omega)]; exact HX1.out⟩
      have HY2 : Fact (w7.heap[g5 + 1]? = some (.cells (bArr []) 25 (0, 0))) := ⟨by rw [hb.block _ HLT.out]; exact HX2.out⟩
      have HBw7 : Fact (Below w.heap.size w w7) := ⟨HBw6.out.trans (hb.mono HBw6.out.size)⟩
      have HB57 : Fact (Below g5 w5 w7) := ⟨HB6.out.trans (hb.mono (by have := HLT.out; omega))⟩
      have HCI2 := Fact.mk (hash_i (bytes_size HC7.out (sha_len _)))
      have HZ2 : Fact ((bArr []).size = cs2.size) := ⟨by rw [bArr_size (by decide), bytes_size HC7.out (sha_len _)]⟩
      have HQ := Fact.mk (eq_hash hash_u hash_c hash_k cs cs2 _ _ HC5.out HC7.out (sha_len _) (sha_len _))
      clear hc7 hb HX1 HX2 HS6 HB6 HB6'
      go_wp2_with (first
        | (refine wpList_store_row rfl 25 (.tmp 9) (.tmp 33) rfl (g5 + 1) cs2 rfl rfl 25 (bArr []) HY2.out HCI2.out HZ2.out (bytes_one HC7.out) ?_
           have HV1 : Fact ((w7.setRow (g5 + 1) cs2).heap[g5]? = some (.cells cs 25 (0, 0))) := ⟨by rw [setRow_other _ _ _ _ (by omega)]; exact HY1.out⟩
           have HV2 : Fact ((w7.setRow (g5 + 1) cs2).heap[g5 + 1]? = some (.cells cs2 25 (0, 0))) := ⟨setRow_heap _ _ _ _ _ _ HY2.out⟩
           have HB8 : Fact (Below w.heap.size w (w7.setRow (g5 + 1) cs2)) := ⟨below_setRow HBw7.out (by have := HG5.out; omega) _⟩
           have hsm : Below g5 w5 (w7.setRow (g5 + 1) cs2) := below_setRow HB57.out (by omega) _
           have K1 : Fact ((convert 22 9 (.slice A3 n3 c3)).run Tryd.prog (w7.setRow (g5 + 1) cs2) = .ok (.string ⟨x.toArray⟩) (w7.setRow (g5 + 1) cs2)) := ⟨run_str _ _ _ Tryd.underlying22 Tryd.underlying5 Tryd.underlying9 (HL5.out.move (Same.of_below hsm (fun _ h => h)))⟩
           have K2 : Fact ((convert 22 9 (.slice A4 n4 c4')).run Tryd.prog (w7.setRow (g5 + 1) cs2) = .ok (.string ⟨x.toArray⟩) (w7.setRow (g5 + 1) cs2)) := ⟨run_str _ _ _ Tryd.underlying22 Tryd.underlying5 Tryd.underlying9 (HS5.out.move (Same.of_below hsm (fun _ h => h)))⟩
           generalize w7.setRow (g5 + 1) cs2 = w8 at HV1 HV2 HB8 K1 K2 ⊢
           have hq := HQ.out
           rw [beq_self_eq_true] at hq
           clear hsm)
        | (refine wpList_okG (o := ⟨some 44, _, _, _, _, _⟩) rfl (exec_conv rfl rfl K1.out) ?_)
        | (refine wpList_okG (o := ⟨some 46, _, _, _, _, _⟩) rfl (exec_conv rfl rfl K2.out) ?_)
        | (refine wpList_okG (o := ⟨some 50, _, _, _, _, _⟩) rfl (ParcelM.exec_loadR rfl rfl HV1.out hash_u rfl HCI.out) ?_)
        | (refine wpList_okG (o := ⟨some 51, _, _, _, _, _⟩) rfl (ParcelM.exec_loadR rfl rfl HV2.out hash_u rfl HCI2.out) ?_))
      go_ret
      exact ⟨rfl, HB8.out⟩
end Go.Proofs.YtjjcjdefenbnjaaDoor.LawPPack
