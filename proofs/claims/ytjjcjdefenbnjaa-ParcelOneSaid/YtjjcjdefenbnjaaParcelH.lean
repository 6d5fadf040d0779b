/- Packets are read: a contract over any world (the channel's number is right). -/
import Derived.Test.YtjjcjdefenbnjaaParcelK
import Derived.Test.YtjjcjdefenbnjaaRegF
set_option linter.unusedVariables false
set_option linter.unusedSimpArgs false
namespace Go.Proofs.Ytjjcjdefenbnjaa.ParcelH
open Go.RowKit Go.Proofs.Ytjjcjdefenbnjaa.Lib Go.Proofs.Ytjjcjdefenbnjaa.Reg Go.Proofs.Ytjjcjdefenbnjaa.RegB Go.Proofs.Ytjjcjdefenbnjaa.RegF Go.Proofs.Ytjjcjdefenbnjaa.TlvA Go.Proofs.Ytjjcjdefenbnjaa.TlvC Go.Proofs.Ytjjcjdefenbnjaa.TlvF Go.Proofs.Ytjjcjdefenbnjaa.TlvI Go.Proofs.Ytjjcjdefenbnjaa.LawNums Go.Proofs.Ytjjcjdefenbnjaa.PlainP Go.Proofs.Ytjjcjdefenbnjaa.LawOne Go.Proofs.Ytjjcjdefenbnjaa.DenomA Go.Proofs.Ytjjcjdefenbnjaa.ParcelA Go.Proofs.Ytjjcjdefenbnjaa.ParcelB Go.Proofs.Ytjjcjdefenbnjaa.ParcelC Go.Proofs.Ytjjcjdefenbnjaa.ParcelD Go.Proofs.Ytjjcjdefenbnjaa.ParcelE Go.Proofs.Ytjjcjdefenbnjaa.ParcelF Go.Proofs.Ytjjcjdefenbnjaa.ParcelK

set_option maxHeartbeats 160000000 in
set_option maxRecDepth 100000 in
theorem ReadPacket_small (w : World) (F : Nat → Prop) (A : Option Addr) (n c : Nat) (l : List UInt8) (h : Sl rU8 w F A n c l) (hF : ∀ k, F k → k < w.heap.size) (hn : n ≤ 4294967296) (hbig : ¬ 4 ≤ (rN (parseG l (-1)) 1).1) :
    Calls Try.prog 55 #[.slice A n c] w fun e w' => e = .returned (.tuple #[.agg (pkC (readPk l).1), .int .i64 (readPk l).2]) ∧ Below w.heap.size w w' := by
  have H := Fact.mk h
  have HF := Fact.mk hF
  have HN := Fact.mk hn
  clear h hF hn
  go_enter Try.func55, Try.ntmps55
  go_wp2_with (first
    | (go_at_call 70; fail)
    | (refine wpList_ok rfl (exec_alloc rfl (alloc_pk _)) ?_))
  refine (ROpen_calls _ F A n c l (H.out.move (Same.alloc (Same.refl _ _) HF.out _)) (fun k hk => by have := HF.out k hk; simp; omega) HN.out).mono ?_
  rintro e w0 ⟨pb, rfl, hpb, hr, hb⟩
  have HPB : Fact (w.heap.size < pb) := ⟨by have := hpb.out; simp at this; omega⟩
  have HRz0 : Fact (w0.heap[w.heap.size]? = some (.cells (pkC Pk.zero) 85)) := ⟨by rw [hb.block _ (by simp)]; exact heap_new _ _⟩
  have HB0 : Fact (Below w.heap.size w w0) := ⟨((Below.refl _ _).alloc (Nat.le_refl _) (.cells (pkC Pk.zero) 85)).trans (hb.mono (by simp))⟩
  have HX : Fact (readPk l = if rEnd (rdPk (parseG l (-1))).2 = 0 then ((rdPk (parseG l (-1))).1, 0) else (Pk.zero, rEnd (rdPk (parseG l (-1))).2)) := ⟨rfl⟩
  have HRd0 := Fact.mk hr.out
  obtain ⟨s0, hs0⟩ : ∃ s, parseG l (-1) = s := ⟨_, rfl⟩
  rw [hs0] at HX HRd0 hbig
  clear hpb hr hb hs0
  have HIA : Fact (∀ q, (Try.prog.info? 85).map (·.size) = some (pkC q).size) := ⟨pk_i⟩
  have HBG := Fact.mk hbig
  clear hbig
  go_wp2_with (go_at_call 71; fail)
  refine (RNum_calls _ pb s0 HRd0.out _ 1 rfl).mono ?_
  rintro e w1 ⟨rfl, hr, hb⟩
  replace hb := hb.1
  have HRd1 := Fact.mk hr.out
  have HB1 : Fact (Below w.heap.size w w1) := ⟨HB0.out.trans (hb.mono (Nat.le_of_lt HPB.out))⟩
  have HRz1 : Fact (w1.heap[w.heap.size]? = some (.cells (pkC Pk.zero) 85)) := ⟨by rw [hb.block _ HPB.out]; exact HRz0.out⟩
  clear hr hb
  obtain ⟨a, ha⟩ : ∃ x, rN s0 1 = x := ⟨_, rfl⟩
  have HQ1 := Fact.mk ha
  rw [ha] at HRd1 HBG ⊢
  clear ha
  obtain ⟨y, sa⟩ := a
  simp only at HRd1
  have hbig : ¬ 4 ≤ y := HBG.out
  have t4 : ((y : Int)).tmod 4 = ((y % 4 : Nat) : Int) := by rw [Int.tmod_eq_emod_of_nonneg (by omega)]; omega
  obtain ⟨y4, hy4⟩ : ∃ z, y % 4 = z := ⟨_, rfl⟩
  have hy4l : y4 < 4 := by omega
  rw [hy4] at t4
  have i4 : IntKind.i64.wrap (y4 : Int) = (y4 : Int) := by rw [IntKind.wrap_i64]; omega
  have u4 : IntKind.u64.wrap (y4 : Int) = (y4 : Int) := by rw [IntKind.wrap_u64]; omega
  have HY4 := Fact.mk hy4
  have HYL := Fact.mk hy4l
  clear hy4 hy4l
  have k1 : decide ((4 : Int) ≤ (y : Int)) = false := decide_eq_false (by omega)
  have k1' : decide (4 ≤ y) = false := decide_eq_false hbig
  have HIF : Fact ((if 4 ≤ y then rFail sa 2 else sa) = sa) := ⟨if_neg hbig⟩
  clear hbig
  go_wp2_with fail
  refine wp_region_F (oj := { dst := some 6, op := .alloc 85, type := 0, pos := "parcel.go:116", after := #[], guard := none }) (fun W => Below pb w1 W) [(0, true), (1, true), (2, true), (3, true), (5, true), (7, true), (10, true), (12, true), (15, true), (4, false), (6, false), (8, false), (9, true), (11, false), (13, false), (14, true), (16, false), (17, true), (18, true)] [(20, false)] 19 rfl (by kernel_rfl) (by kernel_rfl) (by kernel_rfl) rfl rfl (by intro c a d v w h; cases d <;> exact h) (Below.refl _ _).drew ?_
  simp only [pick, List.range, List.range.loop, List.map_cons, List.map_nil, List.cons_append, List.nil_append, Nat.reduceAdd, List.filterMap_cons, List.filterMap_nil, Option.map_some, List.getElem?_toArray, List.getElem?_cons_zero, List.getElem?_cons_succ]
  have HS0 : Fact (Below pb w1 w1.drew) := ⟨(Below.refl _ _).drew⟩
  have HD0 : Fact (Rd w1.drew pb sa) := ⟨HRd1.out.move ((Below.refl _ _).drew)⟩
  generalize w1.drew = u0 at HS0 HD0 ⊢
  iterate 9
    (apply seqF_tell rfl
     · intro w2 hS
       go_simp
       first | done | rfl
     simp only [Act.put, List.setIfInBounds_toArray, List.set_cons_succ, List.set_cons_zero])
  refine seqF_call (f := 71) (args := #[.pointer (some ⟨pb, 0, none⟩), .int .u8 2]) rfl rfl Try.func71 (by kernel_rfl) rfl (by simp only [List.map_toArray, List.map_cons, List.map_nil]; rfl) ?_ ?_
  · skip
    refine (RNum_calls u0 pb sa HD0.out _ 2 rfl).mono ?_
    rintro e u1 ⟨rfl, hr, hb⟩
    have HS1 : Fact (Below pb w1 u1) := ⟨HS0.out.trans hb.1⟩
    have HD1 := Fact.mk hr.out
    obtain ⟨x2, hx2⟩ : ∃ x, rN sa 2 = x := ⟨_, rfl⟩
    have HQ2 := Fact.mk hx2
    rw [hx2] at HD1 ⊢
    clear hx2 hr hb
    refine ⟨_, rfl, HS1.out, ?_⟩
    simp only [Act.put, List.setIfInBounds_toArray, List.set_cons_succ, List.set_cons_zero]
    refine seqF_call (f := 71) (args := #[.pointer (some ⟨pb, 0, none⟩), .int .u8 3]) rfl rfl Try.func71 (by kernel_rfl) rfl (by simp only [List.map_toArray, List.map_cons, List.map_nil]; rfl) ?_ ?_
    · skip
      refine (RNum_calls u1 pb x2.2 HD1.out _ 3 rfl).mono ?_
      rintro e u2 ⟨rfl, hr, hb⟩
      have HS2 : Fact (Below pb w1 u2) := ⟨HS1.out.trans hb.1⟩
      have HD2 := Fact.mk hr.out
      obtain ⟨x3, hx3⟩ : ∃ x, rN x2.2 3 = x := ⟨_, rfl⟩
      have HQ3 := Fact.mk hx3
      rw [hx3] at HD2 ⊢
      clear hx3 hr hb
      refine ⟨_, rfl, HS2.out, ?_⟩
      simp only [Act.put, List.setIfInBounds_toArray, List.set_cons_succ, List.set_cons_zero]
      refine seqF_call (f := 73) (args := #[.pointer (some ⟨pb, 0, none⟩), .int .u8 4]) rfl rfl Try.func73 (by kernel_rfl) rfl (by simp only [List.map_toArray, List.map_cons, List.map_nil]; rfl) ?_ ?_
      · skip
        refine (RBytes_calls u2 pb x3.2 HD2.out _ 4 rfl).mono ?_
        rintro e u3 ⟨A4, c4, rfl, hg, hr, hb⟩
        have HS3 : Fact (Below pb w1 u3) := ⟨HS2.out.trans hb.1⟩
        have HT4 := Fact.mk (got_str hg.out HS3.out)
        have HD3 := Fact.mk hr.out
        obtain ⟨x4, hx4⟩ : ∃ x, rB x3.2 4 = x := ⟨_, rfl⟩
        have HQ4 := Fact.mk hx4
        rw [hx4] at HD3 HT4 ⊢
        clear hx4 hr hb hg
        refine ⟨_, rfl, HS3.out, ?_⟩
        simp only [Act.put, List.setIfInBounds_toArray, List.set_cons_succ, List.set_cons_zero]
        apply seqF_tell rfl
        · intro w2 hS
          have K1 := HT4.out w2 hS
          go_simp
          first | done | rfl
        simp only [Act.put, List.setIfInBounds_toArray, List.set_cons_succ, List.set_cons_zero]
        refine seqF_call (f := 71) (args := #[.pointer (some ⟨pb, 0, none⟩), .int .u8 5]) rfl rfl Try.func71 (by kernel_rfl) rfl (by simp only [List.map_toArray, List.map_cons, List.map_nil]; rfl) ?_ ?_
        · skip
          refine (RNum_calls u3 pb x4.2 HD3.out _ 5 rfl).mono ?_
          rintro e u4 ⟨rfl, hr, hb⟩
          have HS4 : Fact (Below pb w1 u4) := ⟨HS3.out.trans hb.1⟩
          have HD4 := Fact.mk hr.out
          obtain ⟨x5, hx5⟩ : ∃ x, rN x4.2 5 = x := ⟨_, rfl⟩
          have HQ5 := Fact.mk hx5
          rw [hx5] at HD4 ⊢
          clear hx5 hr hb
          refine ⟨_, rfl, HS4.out, ?_⟩
          simp only [Act.put, List.setIfInBounds_toArray, List.set_cons_succ, List.set_cons_zero]
          refine seqF_call (f := 73) (args := #[.pointer (some ⟨pb, 0, none⟩), .int .u8 6]) rfl rfl Try.func73 (by kernel_rfl) rfl (by simp only [List.map_toArray, List.map_cons, List.map_nil]; rfl) ?_ ?_
          · skip
            refine (RBytes_calls u4 pb x5.2 HD4.out _ 6 rfl).mono ?_
            rintro e u5 ⟨A6, c6, rfl, hg, hr, hb⟩
            have HS5 : Fact (Below pb w1 u5) := ⟨HS4.out.trans hb.1⟩
            have HT6 := Fact.mk (got_str hg.out HS5.out)
            have HD5 := Fact.mk hr.out
            obtain ⟨x6, hx6⟩ : ∃ x, rB x5.2 6 = x := ⟨_, rfl⟩
            have HQ6 := Fact.mk hx6
            rw [hx6] at HD5 HT6 ⊢
            clear hx6 hr hb hg
            refine ⟨_, rfl, HS5.out, ?_⟩
            simp only [Act.put, List.setIfInBounds_toArray, List.set_cons_succ, List.set_cons_zero]
            apply seqF_tell rfl
            · intro w2 hS
              have K1 := HT6.out w2 hS
              go_simp
              first | done | rfl
            simp only [Act.put, List.setIfInBounds_toArray, List.set_cons_succ, List.set_cons_zero]
            refine seqF_call (f := 73) (args := #[.pointer (some ⟨pb, 0, none⟩), .int .u8 7]) rfl rfl Try.func73 (by kernel_rfl) rfl (by simp only [List.map_toArray, List.map_cons, List.map_nil]; rfl) ?_ ?_
            · skip
              refine (RBytes_calls u5 pb x6.2 HD5.out _ 7 rfl).mono ?_
              rintro e u6 ⟨A7, c7, rfl, hg, hr, hb⟩
              have HS6 : Fact (Below pb w1 u6) := ⟨HS5.out.trans hb.1⟩
              have HT7 := Fact.mk (got_str hg.out HS6.out)
              have HD6 := Fact.mk hr.out
              obtain ⟨x7, hx7⟩ : ∃ x, rB x6.2 7 = x := ⟨_, rfl⟩
              have HQ7 := Fact.mk hx7
              rw [hx7] at HD6 HT7 ⊢
              clear hx7 hr hb hg
              refine ⟨_, rfl, HS6.out, ?_⟩
              simp only [Act.put, List.setIfInBounds_toArray, List.set_cons_succ, List.set_cons_zero]
              apply seqF_tell rfl
              · intro w2 hS
                have K1 := HT7.out w2 hS
                go_simp
                first | done | rfl
              simp only [Act.put, List.setIfInBounds_toArray, List.set_cons_succ, List.set_cons_zero]
              apply seqF_tell rfl
              · intro w2 hS
                go_simp
                first | done | rfl
              simp only [Act.put, List.setIfInBounds_toArray, List.set_cons_succ, List.set_cons_zero]
              unfold wpSeqF
              refine seq_do rfl (exec_alloc rfl (alloc_pk _)) (HS6.out.alloc (Nat.le_of_lt HD6.out.1) _) ?_
              simp only [Act.put, List.setIfInBounds_toArray, List.set_cons_succ, List.set_cons_zero]
              have HSa : Fact (Below pb w1 (u6.alloc (.cells (pkC Pk.zero) 85))) := ⟨HS6.out.alloc (Nat.le_of_lt HD6.out.1) _⟩
              have HDa : Fact (Rd (u6.alloc (.cells (pkC Pk.zero) 85)) pb x7.2) := ⟨HD6.out.move ((Below.refl _ _).alloc (Nat.le_refl _) _)⟩
              have HGa : Fact ((u6.alloc (.cells (pkC Pk.zero) 85)).heap[u6.heap.size]? = some (.cells (pkC Pk.zero) 85)) := ⟨heap_new _ _⟩
              have HLa : Fact (u6.heap.size < (u6.alloc (.cells (pkC Pk.zero) 85)).heap.size) := ⟨by simp⟩
              have HPG : Fact (pb < u6.heap.size) := ⟨HD6.out.1⟩
              clear HS6 HD6
              generalize u6.alloc (.cells (pkC Pk.zero) 85) = va at HSa HDa HGa HLa ⊢
              generalize u6.heap.size = g at HGa HLa HPG ⊢
              obtain ⟨q, hq⟩ : ∃ q : Pk, q = ⟨y4, x2.1, x3.1, x4.1, x5.1, x6.1, x7.1⟩ := ⟨_, rfl⟩
              have HRD : Fact (rdPk s0 = (q, x7.2)) := ⟨by rw [hq]; unfold rdPk; simp only [HQ1.out]; rw [HIF.out]; simp only [HQ2.out, HQ3.out, HQ4.out, HQ5.out, HQ6.out, HQ7.out, HY4.out]⟩
              refine seq_mute rfl (exec_store (g := g) (old := pkC Pk.zero) (cells := pkC q) rfl rfl (by rw [hq]; rfl) HGa.out (HIA.out _) rfl (pkC_one _)) (Below.row HSa.out (Nat.le_of_lt HPG.out) _) ?_
              simp only [Act.put, List.setIfInBounds_toArray, List.set_cons_succ, List.set_cons_zero]
              have HBW : Fact (Below (pb + 1) va (va.setRow g (pkC q))) := ⟨Below.row (Below.refl _ _) HPG.out _⟩
              have HBS : Fact (Below pb w1 (va.setRow g (pkC q))) := ⟨HSa.out.trans (HBW.out.mono (Nat.le_succ _))⟩
              have HGX : Fact ((va.setRow g (pkC q)).heap[g]? = some (.cells (pkC q) 85)) := ⟨setRow_heap _ _ _ _ _ _ HGa.out⟩
              have HSZ : Fact (g < (va.setRow g (pkC q)).heap.size) := ⟨by simp; exact HLa.out⟩
              have HDX : Fact (Rd (va.setRow g (pkC q)) pb x7.2) := ⟨HDa.out.moveLe HBW.out⟩
              clear hq HBW
              generalize va.setRow g (pkC q) = v8 at HBS HGX HSZ HDX ⊢
              show Exit.then _ _ _ _ _
              go_wp2_with (go_at_call 74; fail)
              refine (REnd_calls _ pb x7.2 HDX.out).mono ?_
              rintro e v9 ⟨rfl, hb⟩
              have HG9 : Fact (v9.heap[w.heap.size]? = some (.cells (pkC Pk.zero) 85)) := ⟨by rw [hb.1.block _ HPB.out, HBS.out.block _ HPB.out]; exact HRz1.out⟩
              have HB9 : Fact (Below w.heap.size w v9) := ⟨HB1.out.trans ((HBS.out.trans hb.1).mono (Nat.le_of_lt HPB.out))⟩
              have HGY : Fact (v9.heap[g]? = some (.cells (pkC q) 85)) := ⟨by rw [hb.2 _ HSZ.out (by have := HPG.out; omega)]; exact HGX.out⟩
              obtain ⟨z, hz⟩ : ∃ z, rEnd x7.2 = z := ⟨_, rfl⟩
              have HZ := Fact.mk hz
              rw [hz]
              clear hz hb
              by_cases hz : z = 0
              · subst hz
                have z1 : ((0 : Int) != 0) = false := rfl
                go_wp2_with (first
                  | (refine wpList_load_row rfl 85 (.tmp 6) rfl g rfl 85 (pkC q) (0, 0) _ HGY.out Try.underlying85 rfl (HIA.out _) ?_)
                  | (refine wpList_store_row rfl 85 (.tmp 2) (.tmp 41) rfl w.heap.size (pkC q) rfl rfl 85 (pkC Pk.zero) HG9.out (HIA.out _) rfl (pkC_one _) ?_))
                refine bodyPost_ret (ParcelE.results_cell_tmp (fn := Try.f55) rfl _ _ w.heap.size 85 (pkC q) (0, 0) _ rfl (setRow_heap _ _ _ _ _ _ HG9.out) Try.underlying85 rfl (HIA.out _)) rfl ?_
                rw [HX.out, HRD.out, if_pos HZ.out]
                exact ⟨rfl, HB9.out.trans (Below.row (Below.refl _ _) (Nat.le_refl _) _)⟩
              · have z1 : (z != 0) = true := by simpa using hz
                have HZN := Fact.mk hz
                clear hz
                go_wp2_with (refine wpList_store_row rfl 85 (.tmp 2) (.tmp 39) rfl w.heap.size (pkC Pk.zero) rfl rfl 85 (pkC Pk.zero) HG9.out (HIA.out _) rfl (pkC_one _) ?_)
                refine bodyPost_ret (ParcelE.results_cell_tmp (fn := Try.f55) rfl _ _ w.heap.size 85 (pkC Pk.zero) (0, 0) _ rfl (setRow_heap _ _ _ _ _ _ HG9.out) Try.underlying85 rfl (HIA.out _)) rfl ?_
                rw [HX.out, HRD.out, if_neg (by rw [HZ.out]; exact HZN.out)]
                exact ⟨by simp only [HZ.out]; rfl, HB9.out.trans (Below.row (Below.refl _ _) (Nat.le_refl _) _)⟩
            · simp only [List.cons_append, List.nil_append]
              refine seq_do rfl (exec_alloc rfl (alloc_pk _)) (HS5.out.alloc (Nat.le_of_lt HD5.out.1) _) ?_
              simp only [Act.put, List.setIfInBounds_toArray, List.set_cons_succ, List.set_cons_zero]
              have HSa : Fact (Below pb w1 (u5.alloc (.cells (pkC Pk.zero) 85))) := ⟨HS5.out.alloc (Nat.le_of_lt HD5.out.1) _⟩
              have HDa : Fact (Rd (u5.alloc (.cells (pkC Pk.zero) 85)) pb x6.2) := ⟨HD5.out.move ((Below.refl _ _).alloc (Nat.le_refl _) _)⟩
              have HGa : Fact ((u5.alloc (.cells (pkC Pk.zero) 85)).heap[u5.heap.size]? = some (.cells (pkC Pk.zero) 85)) := ⟨heap_new _ _⟩
              have HLa : Fact (u5.heap.size < (u5.alloc (.cells (pkC Pk.zero) 85)).heap.size) := ⟨by simp⟩
              have HPG : Fact (pb < u5.heap.size) := ⟨HD5.out.1⟩
              clear HS5 HD5
              generalize u5.alloc (.cells (pkC Pk.zero) 85) = va at HSa HDa HGa HLa ⊢
              generalize u5.heap.size = g at HGa HLa HPG ⊢
              refine seq_call (f := 73) (args := #[.pointer (some ⟨pb, 0, none⟩), .int .u8 7]) rfl rfl Try.func73 (by kernel_rfl) rfl (by simp only [List.map_toArray, List.map_cons, List.map_nil]; rfl) ?_
              refine (RBytes_calls va pb x6.2 HDa.out _ 7 rfl).mono ?_
              rintro e u6 ⟨A7, c7, rfl, hg, hr, hb⟩
              have HS6 : Fact (Below pb w1 u6) := ⟨HSa.out.trans hb.1⟩
              have HT7 := Fact.mk (got_str hg.out HS6.out)
              have HG6 : Fact (u6.heap[g]? = some (.cells (pkC Pk.zero) 85)) := ⟨by rw [hb.2 g HLa.out (by have := HPG.out; omega)]; exact HGa.out⟩
              have HL6 : Fact (g < u6.heap.size) := ⟨Nat.lt_of_lt_of_le HLa.out hb.1.size⟩
              have HD6 := Fact.mk hr.out
              obtain ⟨x7, hx7⟩ : ∃ x, rB x6.2 7 = x := ⟨_, rfl⟩
              have HQ7 := Fact.mk hx7
              rw [hx7] at HD6 HT7 ⊢
              clear hx7 hr hb hg
              refine ⟨_, rfl, HS6.out, ?_⟩
              simp only [Act.put, List.setIfInBounds_toArray, List.set_cons_succ, List.set_cons_zero]
              apply seq_tell rfl
              · intro w2 hS
                have K1 := HT7.out w2 hS
                go_simp
                first | done | rfl
              simp only [Act.put, List.setIfInBounds_toArray, List.set_cons_succ, List.set_cons_zero]
              apply seq_tell rfl
              · intro w2 hS
                go_simp
                first | done | rfl
              simp only [Act.put, List.setIfInBounds_toArray, List.set_cons_succ, List.set_cons_zero]
              obtain ⟨q, hq⟩ : ∃ q : Pk, q = ⟨y4, x2.1, x3.1, x4.1, x5.1, x6.1, x7.1⟩ := ⟨_, rfl⟩
              have HRD : Fact (rdPk s0 = (q, x7.2)) := ⟨by rw [hq]; unfold rdPk; simp only [HQ1.out]; rw [HIF.out]; simp only [HQ2.out, HQ3.out, HQ4.out, HQ5.out, HQ6.out, HQ7.out, HY4.out]⟩
              refine seq_mute rfl (exec_store (g := g) (old := pkC Pk.zero) (cells := pkC q) rfl rfl (by rw [hq]; rfl) HG6.out (HIA.out _) rfl (pkC_one _)) (Below.row HS6.out (Nat.le_of_lt HPG.out) _) ?_
              simp only [Act.put, List.setIfInBounds_toArray, List.set_cons_succ, List.set_cons_zero]
              have HBW : Fact (Below (pb + 1) u6 (u6.setRow g (pkC q))) := ⟨Below.row (Below.refl _ _) HPG.out _⟩
              have HBS : Fact (Below pb w1 (u6.setRow g (pkC q))) := ⟨HS6.out.trans (HBW.out.mono (Nat.le_succ _))⟩
              have HGX : Fact ((u6.setRow g (pkC q)).heap[g]? = some (.cells (pkC q) 85)) := ⟨setRow_heap _ _ _ _ _ _ HG6.out⟩
              have HSZ : Fact (g < (u6.setRow g (pkC q)).heap.size) := ⟨by simp; exact HL6.out⟩
              have HDX : Fact (Rd (u6.setRow g (pkC q)) pb x7.2) := ⟨HD6.out.moveLe HBW.out⟩
              clear hq HBW
              generalize u6.setRow g (pkC q) = v8 at HBS HGX HSZ HDX ⊢
              show Exit.then _ _ _ _ _
              go_wp2_with (go_at_call 74; fail)
              refine (REnd_calls _ pb x7.2 HDX.out).mono ?_
              rintro e v9 ⟨rfl, hb⟩
              have HG9 : Fact (v9.heap[w.heap.size]? = some (.cells (pkC Pk.zero) 85)) := ⟨by rw [hb.1.block _ HPB.out, HBS.out.block _ HPB.out]; exact HRz1.out⟩
              have HB9 : Fact (Below w.heap.size w v9) := ⟨HB1.out.trans ((HBS.out.trans hb.1).mono (Nat.le_of_lt HPB.out))⟩
              have HGY : Fact (v9.heap[g]? = some (.cells (pkC q) 85)) := ⟨by rw [hb.2 _ HSZ.out (by have := HPG.out; omega)]; exact HGX.out⟩
              obtain ⟨z, hz⟩ : ∃ z, rEnd x7.2 = z := ⟨_, rfl⟩
              have HZ := Fact.mk hz
              rw [hz]
              clear hz hb
              by_cases hz : z = 0
              · subst hz
                have z1 : ((0 : Int) != 0) = false := rfl
                go_wp2_with (first
                  | (refine wpList_load_row rfl 85 (.tmp 6) rfl g rfl 85 (pkC q) (0, 0) _ HGY.out Try.underlying85 rfl (HIA.out _) ?_)
                  | (refine wpList_store_row rfl 85 (.tmp 2) (.tmp 41) rfl w.heap.size (pkC q) rfl rfl 85 (pkC Pk.zero) HG9.out (HIA.out _) rfl (pkC_one _) ?_))
                refine bodyPost_ret (ParcelE.results_cell_tmp (fn := Try.f55) rfl _ _ w.heap.size 85 (pkC q) (0, 0) _ rfl (setRow_heap _ _ _ _ _ _ HG9.out) Try.underlying85 rfl (HIA.out _)) rfl ?_
                rw [HX.out, HRD.out, if_pos HZ.out]
                exact ⟨rfl, HB9.out.trans (Below.row (Below.refl _ _) (Nat.le_refl _) _)⟩
              · have z1 : (z != 0) = true := by simpa using hz
                have HZN := Fact.mk hz
                clear hz
                go_wp2_with (refine wpList_store_row rfl 85 (.tmp 2) (.tmp 39) rfl w.heap.size (pkC Pk.zero) rfl rfl 85 (pkC Pk.zero) HG9.out (HIA.out _) rfl (pkC_one _) ?_)
                refine bodyPost_ret (ParcelE.results_cell_tmp (fn := Try.f55) rfl _ _ w.heap.size 85 (pkC Pk.zero) (0, 0) _ rfl (setRow_heap _ _ _ _ _ _ HG9.out) Try.underlying85 rfl (HIA.out _)) rfl ?_
                rw [HX.out, HRD.out, if_neg (by rw [HZ.out]; exact HZN.out)]
                exact ⟨by simp only [HZ.out]; rfl, HB9.out.trans (Below.row (Below.refl _ _) (Nat.le_refl _) _)⟩
          · simp only [List.cons_append, List.nil_append]
            refine seq_do rfl (exec_alloc rfl (alloc_pk _)) (HS4.out.alloc (Nat.le_of_lt HD4.out.1) _) ?_
            simp only [Act.put, List.setIfInBounds_toArray, List.set_cons_succ, List.set_cons_zero]
            have HSa : Fact (Below pb w1 (u4.alloc (.cells (pkC Pk.zero) 85))) := ⟨HS4.out.alloc (Nat.le_of_lt HD4.out.1) _⟩
            have HDa : Fact (Rd (u4.alloc (.cells (pkC Pk.zero) 85)) pb x5.2) := ⟨HD4.out.move ((Below.refl _ _).alloc (Nat.le_refl _) _)⟩
            have HGa : Fact ((u4.alloc (.cells (pkC Pk.zero) 85)).heap[u4.heap.size]? = some (.cells (pkC Pk.zero) 85)) := ⟨heap_new _ _⟩
            have HLa : Fact (u4.heap.size < (u4.alloc (.cells (pkC Pk.zero) 85)).heap.size) := ⟨by simp⟩
            have HPG : Fact (pb < u4.heap.size) := ⟨HD4.out.1⟩
            clear HS4 HD4
            generalize u4.alloc (.cells (pkC Pk.zero) 85) = va at HSa HDa HGa HLa ⊢
            generalize u4.heap.size = g at HGa HLa HPG ⊢
            refine seq_call (f := 73) (args := #[.pointer (some ⟨pb, 0, none⟩), .int .u8 6]) rfl rfl Try.func73 (by kernel_rfl) rfl (by simp only [List.map_toArray, List.map_cons, List.map_nil]; rfl) ?_
            refine (RBytes_calls va pb x5.2 HDa.out _ 6 rfl).mono ?_
            rintro e u5 ⟨A6, c6, rfl, hg, hr, hb⟩
            have HS5 : Fact (Below pb w1 u5) := ⟨HSa.out.trans hb.1⟩
            have HT6 := Fact.mk (got_str hg.out HS5.out)
            have HG5 : Fact (u5.heap[g]? = some (.cells (pkC Pk.zero) 85)) := ⟨by rw [hb.2 g HLa.out (by have := HPG.out; omega)]; exact HGa.out⟩
            have HL5 : Fact (g < u5.heap.size) := ⟨Nat.lt_of_lt_of_le HLa.out hb.1.size⟩
            have HD5 := Fact.mk hr.out
            obtain ⟨x6, hx6⟩ : ∃ x, rB x5.2 6 = x := ⟨_, rfl⟩
            have HQ6 := Fact.mk hx6
            rw [hx6] at HD5 HT6 ⊢
            clear hx6 hr hb hg
            refine ⟨_, rfl, HS5.out, ?_⟩
            simp only [Act.put, List.setIfInBounds_toArray, List.set_cons_succ, List.set_cons_zero]
            apply seq_tell rfl
            · intro w2 hS
              have K1 := HT6.out w2 hS
              go_simp
              first | done | rfl
            simp only [Act.put, List.setIfInBounds_toArray, List.set_cons_succ, List.set_cons_zero]
            refine seq_call (f := 73) (args := #[.pointer (some ⟨pb, 0, none⟩), .int .u8 7]) rfl rfl Try.func73 (by kernel_rfl) rfl (by simp only [List.map_toArray, List.map_cons, List.map_nil]; rfl) ?_
            refine (RBytes_calls u5 pb x6.2 HD5.out _ 7 rfl).mono ?_
            rintro e u6 ⟨A7, c7, rfl, hg, hr, hb⟩
            have HS6 : Fact (Below pb w1 u6) := ⟨HS5.out.trans hb.1⟩
            have HT7 := Fact.mk (got_str hg.out HS6.out)
            have HG6 : Fact (u6.heap[g]? = some (.cells (pkC Pk.zero) 85)) := ⟨by rw [hb.2 g HL5.out (by have := HPG.out; omega)]; exact HG5.out⟩
            have HL6 : Fact (g < u6.heap.size) := ⟨Nat.lt_of_lt_of_le HL5.out hb.1.size⟩
            have HD6 := Fact.mk hr.out
            obtain ⟨x7, hx7⟩ : ∃ x, rB x6.2 7 = x := ⟨_, rfl⟩
            have HQ7 := Fact.mk hx7
            rw [hx7] at HD6 HT7 ⊢
            clear hx7 hr hb hg
            refine ⟨_, rfl, HS6.out, ?_⟩
            simp only [Act.put, List.setIfInBounds_toArray, List.set_cons_succ, List.set_cons_zero]
            apply seq_tell rfl
            · intro w2 hS
              have K1 := HT7.out w2 hS
              go_simp
              first | done | rfl
            simp only [Act.put, List.setIfInBounds_toArray, List.set_cons_succ, List.set_cons_zero]
            apply seq_tell rfl
            · intro w2 hS
              go_simp
              first | done | rfl
            simp only [Act.put, List.setIfInBounds_toArray, List.set_cons_succ, List.set_cons_zero]
            obtain ⟨q, hq⟩ : ∃ q : Pk, q = ⟨y4, x2.1, x3.1, x4.1, x5.1, x6.1, x7.1⟩ := ⟨_, rfl⟩
            have HRD : Fact (rdPk s0 = (q, x7.2)) := ⟨by rw [hq]; unfold rdPk; simp only [HQ1.out]; rw [HIF.out]; simp only [HQ2.out, HQ3.out, HQ4.out, HQ5.out, HQ6.out, HQ7.out, HY4.out]⟩
            refine seq_mute rfl (exec_store (g := g) (old := pkC Pk.zero) (cells := pkC q) rfl rfl (by rw [hq]; rfl) HG6.out (HIA.out _) rfl (pkC_one _)) (Below.row HS6.out (Nat.le_of_lt HPG.out) _) ?_
            simp only [Act.put, List.setIfInBounds_toArray, List.set_cons_succ, List.set_cons_zero]
            have HBW : Fact (Below (pb + 1) u6 (u6.setRow g (pkC q))) := ⟨Below.row (Below.refl _ _) HPG.out _⟩
            have HBS : Fact (Below pb w1 (u6.setRow g (pkC q))) := ⟨HS6.out.trans (HBW.out.mono (Nat.le_succ _))⟩
            have HGX : Fact ((u6.setRow g (pkC q)).heap[g]? = some (.cells (pkC q) 85)) := ⟨setRow_heap _ _ _ _ _ _ HG6.out⟩
            have HSZ : Fact (g < (u6.setRow g (pkC q)).heap.size) := ⟨by simp; exact HL6.out⟩
            have HDX : Fact (Rd (u6.setRow g (pkC q)) pb x7.2) := ⟨HD6.out.moveLe HBW.out⟩
            clear hq HBW
            generalize u6.setRow g (pkC q) = v8 at HBS HGX HSZ HDX ⊢
            show Exit.then _ _ _ _ _
            go_wp2_with (go_at_call 74; fail)
            refine (REnd_calls _ pb x7.2 HDX.out).mono ?_
            rintro e v9 ⟨rfl, hb⟩
            have HG9 : Fact (v9.heap[w.heap.size]? = some (.cells (pkC Pk.zero) 85)) := ⟨by rw [hb.1.block _ HPB.out, HBS.out.block _ HPB.out]; exact HRz1.out⟩
            have HB9 : Fact (Below w.heap.size w v9) := ⟨HB1.out.trans ((HBS.out.trans hb.1).mono (Nat.le_of_lt HPB.out))⟩
            have HGY : Fact (v9.heap[g]? = some (.cells (pkC q) 85)) := ⟨by rw [hb.2 _ HSZ.out (by have := HPG.out; omega)]; exact HGX.out⟩
            obtain ⟨z, hz⟩ : ∃ z, rEnd x7.2 = z := ⟨_, rfl⟩
            have HZ := Fact.mk hz
            rw [hz]
            clear hz hb
            by_cases hz : z = 0
            · subst hz
              have z1 : ((0 : Int) != 0) = false := rfl
              go_wp2_with (first
                | (refine wpList_load_row rfl 85 (.tmp 6) rfl g rfl 85 (pkC q) (0, 0) _ HGY.out Try.underlying85 rfl (HIA.out _) ?_)
                | (refine wpList_store_row rfl 85 (.tmp 2) (.tmp 41) rfl w.heap.size (pkC q) rfl rfl 85 (pkC Pk.zero) HG9.out (HIA.out _) rfl (pkC_one _) ?_))
              refine bodyPost_ret (ParcelE.results_cell_tmp (fn := Try.f55) rfl _ _ w.heap.size 85 (pkC q) (0, 0) _ rfl (setRow_heap _ _ _ _ _ _ HG9.out) Try.underlying85 rfl (HIA.out _)) rfl ?_
              rw [HX.out, HRD.out, if_pos HZ.out]
              exact ⟨rfl, HB9.out.trans (Below.row (Below.refl _ _) (Nat.le_refl _) _)⟩
            · have z1 : (z != 0) = true := by simpa using hz
              have HZN := Fact.mk hz
              clear hz
              go_wp2_with (refine wpList_store_row rfl 85 (.tmp 2) (.tmp 39) rfl w.heap.size (pkC Pk.zero) rfl rfl 85 (pkC Pk.zero) HG9.out (HIA.out _) rfl (pkC_one _) ?_)
              refine bodyPost_ret (ParcelE.results_cell_tmp (fn := Try.f55) rfl _ _ w.heap.size 85 (pkC Pk.zero) (0, 0) _ rfl (setRow_heap _ _ _ _ _ _ HG9.out) Try.underlying85 rfl (HIA.out _)) rfl ?_
              rw [HX.out, HRD.out, if_neg (by rw [HZ.out]; exact HZN.out)]
              exact ⟨by simp only [HZ.out]; rfl, HB9.out.trans (Below.row (Below.refl _ _) (Nat.le_refl _) _)⟩
        · simp only [List.cons_append, List.nil_append]
          refine seq_do rfl (exec_alloc rfl (alloc_pk _)) (HS3.out.alloc (Nat.le_of_lt HD3.out.1) _) ?_
          simp only [Act.put, List.setIfInBounds_toArray, List.set_cons_succ, List.set_cons_zero]
          have HSa : Fact (Below pb w1 (u3.alloc (.cells (pkC Pk.zero) 85))) := ⟨HS3.out.alloc (Nat.le_of_lt HD3.out.1) _⟩
          have HDa : Fact (Rd (u3.alloc (.cells (pkC Pk.zero) 85)) pb x4.2) := ⟨HD3.out.move ((Below.refl _ _).alloc (Nat.le_refl _) _)⟩
          have HGa : Fact ((u3.alloc (.cells (pkC Pk.zero) 85)).heap[u3.heap.size]? = some (.cells (pkC Pk.zero) 85)) := ⟨heap_new _ _⟩
          have HLa : Fact (u3.heap.size < (u3.alloc (.cells (pkC Pk.zero) 85)).heap.size) := ⟨by simp⟩
          have HPG : Fact (pb < u3.heap.size) := ⟨HD3.out.1⟩
          clear HS3 HD3
          generalize u3.alloc (.cells (pkC Pk.zero) 85) = va at HSa HDa HGa HLa ⊢
          generalize u3.heap.size = g at HGa HLa HPG ⊢
          refine seq_call (f := 71) (args := #[.pointer (some ⟨pb, 0, none⟩), .int .u8 5]) rfl rfl Try.func71 (by kernel_rfl) rfl (by simp only [List.map_toArray, List.map_cons, List.map_nil]; rfl) ?_
          refine (RNum_calls va pb x4.2 HDa.out _ 5 rfl).mono ?_
          rintro e u4 ⟨rfl, hr, hb⟩
          have HS4 : Fact (Below pb w1 u4) := ⟨HSa.out.trans hb.1⟩
          have HG4 : Fact (u4.heap[g]? = some (.cells (pkC Pk.zero) 85)) := ⟨by rw [hb.2 g HLa.out (by have := HPG.out; omega)]; exact HGa.out⟩
          have HL4 : Fact (g < u4.heap.size) := ⟨Nat.lt_of_lt_of_le HLa.out hb.1.size⟩
          have HD4 := Fact.mk hr.out
          obtain ⟨x5, hx5⟩ : ∃ x, rN x4.2 5 = x := ⟨_, rfl⟩
          have HQ5 := Fact.mk hx5
          rw [hx5] at HD4 ⊢
          clear hx5 hr hb
          refine ⟨_, rfl, HS4.out, ?_⟩
          simp only [Act.put, List.setIfInBounds_toArray, List.set_cons_succ, List.set_cons_zero]
          refine seq_call (f := 73) (args := #[.pointer (some ⟨pb, 0, none⟩), .int .u8 6]) rfl rfl Try.func73 (by kernel_rfl) rfl (by simp only [List.map_toArray, List.map_cons, List.map_nil]; rfl) ?_
          refine (RBytes_calls u4 pb x5.2 HD4.out _ 6 rfl).mono ?_
          rintro e u5 ⟨A6, c6, rfl, hg, hr, hb⟩
          have HS5 : Fact (Below pb w1 u5) := ⟨HS4.out.trans hb.1⟩
          have HT6 := Fact.mk (got_str hg.out HS5.out)
          have HG5 : Fact (u5.heap[g]? = some (.cells (pkC Pk.zero) 85)) := ⟨by rw [hb.2 g HL4.out (by have := HPG.out; omega)]; exact HG4.out⟩
          have HL5 : Fact (g < u5.heap.size) := ⟨Nat.lt_of_lt_of_le HL4.out hb.1.size⟩
          have HD5 := Fact.mk hr.out
          obtain ⟨x6, hx6⟩ : ∃ x, rB x5.2 6 = x := ⟨_, rfl⟩
          have HQ6 := Fact.mk hx6
          rw [hx6] at HD5 HT6 ⊢
          clear hx6 hr hb hg
          refine ⟨_, rfl, HS5.out, ?_⟩
          simp only [Act.put, List.setIfInBounds_toArray, List.set_cons_succ, List.set_cons_zero]
          apply seq_tell rfl
          · intro w2 hS
            have K1 := HT6.out w2 hS
            go_simp
            first | done | rfl
          simp only [Act.put, List.setIfInBounds_toArray, List.set_cons_succ, List.set_cons_zero]
          refine seq_call (f := 73) (args := #[.pointer (some ⟨pb, 0, none⟩), .int .u8 7]) rfl rfl Try.func73 (by kernel_rfl) rfl (by simp only [List.map_toArray, List.map_cons, List.map_nil]; rfl) ?_
          refine (RBytes_calls u5 pb x6.2 HD5.out _ 7 rfl).mono ?_
          rintro e u6 ⟨A7, c7, rfl, hg, hr, hb⟩
          have HS6 : Fact (Below pb w1 u6) := ⟨HS5.out.trans hb.1⟩
          have HT7 := Fact.mk (got_str hg.out HS6.out)
          have HG6 : Fact (u6.heap[g]? = some (.cells (pkC Pk.zero) 85)) := ⟨by rw [hb.2 g HL5.out (by have := HPG.out; omega)]; exact HG5.out⟩
          have HL6 : Fact (g < u6.heap.size) := ⟨Nat.lt_of_lt_of_le HL5.out hb.1.size⟩
          have HD6 := Fact.mk hr.out
          obtain ⟨x7, hx7⟩ : ∃ x, rB x6.2 7 = x := ⟨_, rfl⟩
          have HQ7 := Fact.mk hx7
          rw [hx7] at HD6 HT7 ⊢
          clear hx7 hr hb hg
          refine ⟨_, rfl, HS6.out, ?_⟩
          simp only [Act.put, List.setIfInBounds_toArray, List.set_cons_succ, List.set_cons_zero]
          apply seq_tell rfl
          · intro w2 hS
            have K1 := HT7.out w2 hS
            go_simp
            first | done | rfl
          simp only [Act.put, List.setIfInBounds_toArray, List.set_cons_succ, List.set_cons_zero]
          apply seq_tell rfl
          · intro w2 hS
            go_simp
            first | done | rfl
          simp only [Act.put, List.setIfInBounds_toArray, List.set_cons_succ, List.set_cons_zero]
          obtain ⟨q, hq⟩ : ∃ q : Pk, q = ⟨y4, x2.1, x3.1, x4.1, x5.1, x6.1, x7.1⟩ := ⟨_, rfl⟩
          have HRD : Fact (rdPk s0 = (q, x7.2)) := ⟨by rw [hq]; unfold rdPk; simp only [HQ1.out]; rw [HIF.out]; simp only [HQ2.out, HQ3.out, HQ4.out, HQ5.out, HQ6.out, HQ7.out, HY4.out]⟩
          refine seq_mute rfl (exec_store (g := g) (old := pkC Pk.zero) (cells := pkC q) rfl rfl (by rw [hq]; rfl) HG6.out (HIA.out _) rfl (pkC_one _)) (Below.row HS6.out (Nat.le_of_lt HPG.out) _) ?_
          simp only [Act.put, List.setIfInBounds_toArray, List.set_cons_succ, List.set_cons_zero]
          have HBW : Fact (Below (pb + 1) u6 (u6.setRow g (pkC q))) := ⟨Below.row (Below.refl _ _) HPG.out _⟩
          have HBS : Fact (Below pb w1 (u6.setRow g (pkC q))) := ⟨HS6.out.trans (HBW.out.mono (Nat.le_succ _))⟩
          have HGX : Fact ((u6.setRow g (pkC q)).heap[g]? = some (.cells (pkC q) 85)) := ⟨setRow_heap _ _ _ _ _ _ HG6.out⟩
          have HSZ : Fact (g < (u6.setRow g (pkC q)).heap.size) := ⟨by simp; exact HL6.out⟩
          have HDX : Fact (Rd (u6.setRow g (pkC q)) pb x7.2) := ⟨HD6.out.moveLe HBW.out⟩
          clear hq HBW
          generalize u6.setRow g (pkC q) = v8 at HBS HGX HSZ HDX ⊢
          show Exit.then _ _ _ _ _
          go_wp2_with (go_at_call 74; fail)
          refine (REnd_calls _ pb x7.2 HDX.out).mono ?_
          rintro e v9 ⟨rfl, hb⟩
          have HG9 : Fact (v9.heap[w.heap.size]? = some (.cells (pkC Pk.zero) 85)) := ⟨by rw [hb.1.block _ HPB.out, HBS.out.block _ HPB.out]; exact HRz1.out⟩
          have HB9 : Fact (Below w.heap.size w v9) := ⟨HB1.out.trans ((HBS.out.trans hb.1).mono (Nat.le_of_lt HPB.out))⟩
          have HGY : Fact (v9.heap[g]? = some (.cells (pkC q) 85)) := ⟨by rw [hb.2 _ HSZ.out (by have := HPG.out; omega)]; exact HGX.out⟩
          obtain ⟨z, hz⟩ : ∃ z, rEnd x7.2 = z := ⟨_, rfl⟩
          have HZ := Fact.mk hz
          rw [hz]
          clear hz hb
          by_cases hz : z = 0
          · subst hz
            have z1 : ((0 : Int) != 0) = false := rfl
            go_wp2_with (first
              | (refine wpList_load_row rfl 85 (.tmp 6) rfl g rfl 85 (pkC q) (0, 0) _ HGY.out Try.underlying85 rfl (HIA.out _) ?_)
              | (refine wpList_store_row rfl 85 (.tmp 2) (.tmp 41) rfl w.heap.size (pkC q) rfl rfl 85 (pkC Pk.zero) HG9.out (HIA.out _) rfl (pkC_one _) ?_))
            refine bodyPost_ret (ParcelE.results_cell_tmp (fn := Try.f55) rfl _ _ w.heap.size 85 (pkC q) (0, 0) _ rfl (setRow_heap _ _ _ _ _ _ HG9.out) Try.underlying85 rfl (HIA.out _)) rfl ?_
            rw [HX.out, HRD.out, if_pos HZ.out]
            exact ⟨rfl, HB9.out.trans (Below.row (Below.refl _ _) (Nat.le_refl _) _)⟩
          · have z1 : (z != 0) = true := by simpa using hz
            have HZN := Fact.mk hz
            clear hz
            go_wp2_with (refine wpList_store_row rfl 85 (.tmp 2) (.tmp 39) rfl w.heap.size (pkC Pk.zero) rfl rfl 85 (pkC Pk.zero) HG9.out (HIA.out _) rfl (pkC_one _) ?_)
            refine bodyPost_ret (ParcelE.results_cell_tmp (fn := Try.f55) rfl _ _ w.heap.size 85 (pkC Pk.zero) (0, 0) _ rfl (setRow_heap _ _ _ _ _ _ HG9.out) Try.underlying85 rfl (HIA.out _)) rfl ?_
            rw [HX.out, HRD.out, if_neg (by rw [HZ.out]; exact HZN.out)]
            exact ⟨by simp only [HZ.out]; rfl, HB9.out.trans (Below.row (Below.refl _ _) (Nat.le_refl _) _)⟩
      · simp only [List.cons_append, List.nil_append]
        refine seq_do rfl (exec_alloc rfl (alloc_pk _)) (HS2.out.alloc (Nat.le_of_lt HD2.out.1) _) ?_
        simp only [Act.put, List.setIfInBounds_toArray, List.set_cons_succ, List.set_cons_zero]
        have HSa : Fact (Below pb w1 (u2.alloc (.cells (pkC Pk.zero) 85))) := ⟨HS2.out.alloc (Nat.le_of_lt HD2.out.1) _⟩
        have HDa : Fact (Rd (u2.alloc (.cells (pkC Pk.zero) 85)) pb x3.2) := ⟨HD2.out.move ((Below.refl _ _).alloc (Nat.le_refl _) _)⟩
        have HGa : Fact ((u2.alloc (.cells (pkC Pk.zero) 85)).heap[u2.heap.size]? = some (.cells (pkC Pk.zero) 85)) := ⟨heap_new _ _⟩
        have HLa : Fact (u2.heap.size < (u2.alloc (.cells (pkC Pk.zero) 85)).heap.size) := ⟨by simp⟩
        have HPG : Fact (pb < u2.heap.size) := ⟨HD2.out.1⟩
        clear HS2 HD2
        generalize u2.alloc (.cells (pkC Pk.zero) 85) = va at HSa HDa HGa HLa ⊢
        generalize u2.heap.size = g at HGa HLa HPG ⊢
        refine seq_call (f := 73) (args := #[.pointer (some ⟨pb, 0, none⟩), .int .u8 4]) rfl rfl Try.func73 (by kernel_rfl) rfl (by simp only [List.map_toArray, List.map_cons, List.map_nil]; rfl) ?_
        refine (RBytes_calls va pb x3.2 HDa.out _ 4 rfl).mono ?_
        rintro e u3 ⟨A4, c4, rfl, hg, hr, hb⟩
        have HS3 : Fact (Below pb w1 u3) := ⟨HSa.out.trans hb.1⟩
        have HT4 := Fact.mk (got_str hg.out HS3.out)
        have HG3 : Fact (u3.heap[g]? = some (.cells (pkC Pk.zero) 85)) := ⟨by rw [hb.2 g HLa.out (by have := HPG.out; omega)]; exact HGa.out⟩
        have HL3 : Fact (g < u3.heap.size) := ⟨Nat.lt_of_lt_of_le HLa.out hb.1.size⟩
        have HD3 := Fact.mk hr.out
        obtain ⟨x4, hx4⟩ : ∃ x, rB x3.2 4 = x := ⟨_, rfl⟩
        have HQ4 := Fact.mk hx4
        rw [hx4] at HD3 HT4 ⊢
        clear hx4 hr hb hg
        refine ⟨_, rfl, HS3.out, ?_⟩
        simp only [Act.put, List.setIfInBounds_toArray, List.set_cons_succ, List.set_cons_zero]
        apply seq_tell rfl
        · intro w2 hS
          have K1 := HT4.out w2 hS
          go_simp
          first | done | rfl
        simp only [Act.put, List.setIfInBounds_toArray, List.set_cons_succ, List.set_cons_zero]
        refine seq_call (f := 71) (args := #[.pointer (some ⟨pb, 0, none⟩), .int .u8 5]) rfl rfl Try.func71 (by kernel_rfl) rfl (by simp only [List.map_toArray, List.map_cons, List.map_nil]; rfl) ?_
        refine (RNum_calls u3 pb x4.2 HD3.out _ 5 rfl).mono ?_
        rintro e u4 ⟨rfl, hr, hb⟩
        have HS4 : Fact (Below pb w1 u4) := ⟨HS3.out.trans hb.1⟩
        have HG4 : Fact (u4.heap[g]? = some (.cells (pkC Pk.zero) 85)) := ⟨by rw [hb.2 g HL3.out (by have := HPG.out; omega)]; exact HG3.out⟩
        have HL4 : Fact (g < u4.heap.size) := ⟨Nat.lt_of_lt_of_le HL3.out hb.1.size⟩
        have HD4 := Fact.mk hr.out
        obtain ⟨x5, hx5⟩ : ∃ x, rN x4.2 5 = x := ⟨_, rfl⟩
        have HQ5 := Fact.mk hx5
        rw [hx5] at HD4 ⊢
        clear hx5 hr hb
        refine ⟨_, rfl, HS4.out, ?_⟩
        simp only [Act.put, List.setIfInBounds_toArray, List.set_cons_succ, List.set_cons_zero]
        refine seq_call (f := 73) (args := #[.pointer (some ⟨pb, 0, none⟩), .int .u8 6]) rfl rfl Try.func73 (by kernel_rfl) rfl (by simp only [List.map_toArray, List.map_cons, List.map_nil]; rfl) ?_
        refine (RBytes_calls u4 pb x5.2 HD4.out _ 6 rfl).mono ?_
        rintro e u5 ⟨A6, c6, rfl, hg, hr, hb⟩
        have HS5 : Fact (Below pb w1 u5) := ⟨HS4.out.trans hb.1⟩
        have HT6 := Fact.mk (got_str hg.out HS5.out)
        have HG5 : Fact (u5.heap[g]? = some (.cells (pkC Pk.zero) 85)) := ⟨by rw [hb.2 g HL4.out (by have := HPG.out; omega)]; exact HG4.out⟩
        have HL5 : Fact (g < u5.heap.size) := ⟨Nat.lt_of_lt_of_le HL4.out hb.1.size⟩
        have HD5 := Fact.mk hr.out
        obtain ⟨x6, hx6⟩ : ∃ x, rB x5.2 6 = x := ⟨_, rfl⟩
        have HQ6 := Fact.mk hx6
        rw [hx6] at HD5 HT6 ⊢
        clear hx6 hr hb hg
        refine ⟨_, rfl, HS5.out, ?_⟩
        simp only [Act.put, List.setIfInBounds_toArray, List.set_cons_succ, List.set_cons_zero]
        apply seq_tell rfl
        · intro w2 hS
          have K1 := HT6.out w2 hS
          go_simp
          first | done | rfl
        simp only [Act.put, List.setIfInBounds_toArray, List.set_cons_succ, List.set_cons_zero]
        refine seq_call (f := 73) (args := #[.pointer (some ⟨pb, 0, none⟩), .int .u8 7]) rfl rfl Try.func73 (by kernel_rfl) rfl (by simp only [List.map_toArray, List.map_cons, List.map_nil]; rfl) ?_
        refine (RBytes_calls u5 pb x6.2 HD5.out _ 7 rfl).mono ?_
        rintro e u6 ⟨A7, c7, rfl, hg, hr, hb⟩
        have HS6 : Fact (Below pb w1 u6) := ⟨HS5.out.trans hb.1⟩
        have HT7 := Fact.mk (got_str hg.out HS6.out)
        have HG6 : Fact (u6.heap[g]? = some (.cells (pkC Pk.zero) 85)) := ⟨by rw [hb.2 g HL5.out (by have := HPG.out; omega)]; exact HG5.out⟩
        have HL6 : Fact (g < u6.heap.size) := ⟨Nat.lt_of_lt_of_le HL5.out hb.1.size⟩
        have HD6 := Fact.mk hr.out
        obtain ⟨x7, hx7⟩ : ∃ x, rB x6.2 7 = x := ⟨_, rfl⟩
        have HQ7 := Fact.mk hx7
        rw [hx7] at HD6 HT7 ⊢
        clear hx7 hr hb hg
        refine ⟨_, rfl, HS6.out, ?_⟩
        simp only [Act.put, List.setIfInBounds_toArray, List.set_cons_succ, List.set_cons_zero]
        apply seq_tell rfl
        · intro w2 hS
          have K1 := HT7.out w2 hS
          go_simp
          first | done | rfl
        simp only [Act.put, List.setIfInBounds_toArray, List.set_cons_succ, List.set_cons_zero]
        apply seq_tell rfl
        · intro w2 hS
          go_simp
          first | done | rfl
        simp only [Act.put, List.setIfInBounds_toArray, List.set_cons_succ, List.set_cons_zero]
        obtain ⟨q, hq⟩ : ∃ q : Pk, q = ⟨y4, x2.1, x3.1, x4.1, x5.1, x6.1, x7.1⟩ := ⟨_, rfl⟩
        have HRD : Fact (rdPk s0 = (q, x7.2)) := ⟨by rw [hq]; unfold rdPk; simp only [HQ1.out]; rw [HIF.out]; simp only [HQ2.out, HQ3.out, HQ4.out, HQ5.out, HQ6.out, HQ7.out, HY4.out]⟩
        refine seq_mute rfl (exec_store (g := g) (old := pkC Pk.zero) (cells := pkC q) rfl rfl (by rw [hq]; rfl) HG6.out (HIA.out _) rfl (pkC_one _)) (Below.row HS6.out (Nat.le_of_lt HPG.out) _) ?_
        simp only [Act.put, List.setIfInBounds_toArray, List.set_cons_succ, List.set_cons_zero]
        have HBW : Fact (Below (pb + 1) u6 (u6.setRow g (pkC q))) := ⟨Below.row (Below.refl _ _) HPG.out _⟩
        have HBS : Fact (Below pb w1 (u6.setRow g (pkC q))) := ⟨HS6.out.trans (HBW.out.mono (Nat.le_succ _))⟩
        have HGX : Fact ((u6.setRow g (pkC q)).heap[g]? = some (.cells (pkC q) 85)) := ⟨setRow_heap _ _ _ _ _ _ HG6.out⟩
        have HSZ : Fact (g < (u6.setRow g (pkC q)).heap.size) := ⟨by simp; exact HL6.out⟩
        have HDX : Fact (Rd (u6.setRow g (pkC q)) pb x7.2) := ⟨HD6.out.moveLe HBW.out⟩
        clear hq HBW
        generalize u6.setRow g (pkC q) = v8 at HBS HGX HSZ HDX ⊢
        show Exit.then _ _ _ _ _
        go_wp2_with (go_at_call 74; fail)
        refine (REnd_calls _ pb x7.2 HDX.out).mono ?_
        rintro e v9 ⟨rfl, hb⟩
        have HG9 : Fact (v9.heap[w.heap.size]? = some (.cells (pkC Pk.zero) 85)) := ⟨by rw [hb.1.block _ HPB.out, HBS.out.block _ HPB.out]; exact HRz1.out⟩
        have HB9 : Fact (Below w.heap.size w v9) := ⟨HB1.out.trans ((HBS.out.trans hb.1).mono (Nat.le_of_lt HPB.out))⟩
        have HGY : Fact (v9.heap[g]? = some (.cells (pkC q) 85)) := ⟨by rw [hb.2 _ HSZ.out (by have := HPG.out; omega)]; exact HGX.out⟩
        obtain ⟨z, hz⟩ : ∃ z, rEnd x7.2 = z := ⟨_, rfl⟩
        have HZ := Fact.mk hz
        rw [hz]
        clear hz hb
        by_cases hz : z = 0
        · subst hz
          have z1 : ((0 : Int) != 0) = false := rfl
          go_wp2_with (first
            | (refine wpList_load_row rfl 85 (.tmp 6) rfl g rfl 85 (pkC q) (0, 0) _ HGY.out Try.underlying85 rfl (HIA.out _) ?_)
            | (refine wpList_store_row rfl 85 (.tmp 2) (.tmp 41) rfl w.heap.size (pkC q) rfl rfl 85 (pkC Pk.zero) HG9.out (HIA.out _) rfl (pkC_one _) ?_))
          refine bodyPost_ret (ParcelE.results_cell_tmp (fn := Try.f55) rfl _ _ w.heap.size 85 (pkC q) (0, 0) _ rfl (setRow_heap _ _ _ _ _ _ HG9.out) Try.underlying85 rfl (HIA.out _)) rfl ?_
          rw [HX.out, HRD.out, if_pos HZ.out]
          exact ⟨rfl, HB9.out.trans (Below.row (Below.refl _ _) (Nat.le_refl _) _)⟩
        · have z1 : (z != 0) = true := by simpa using hz
          have HZN := Fact.mk hz
          clear hz
          go_wp2_with (refine wpList_store_row rfl 85 (.tmp 2) (.tmp 39) rfl w.heap.size (pkC Pk.zero) rfl rfl 85 (pkC Pk.zero) HG9.out (HIA.out _) rfl (pkC_one _) ?_)
          refine bodyPost_ret (ParcelE.results_cell_tmp (fn := Try.f55) rfl _ _ w.heap.size 85 (pkC Pk.zero) (0, 0) _ rfl (setRow_heap _ _ _ _ _ _ HG9.out) Try.underlying85 rfl (HIA.out _)) rfl ?_
          rw [HX.out, HRD.out, if_neg (by rw [HZ.out]; exact HZN.out)]
          exact ⟨by simp only [HZ.out]; rfl, HB9.out.trans (Below.row (Below.refl _ _) (Nat.le_refl _) _)⟩
    · simp only [List.cons_append, List.nil_append]
      refine seq_do rfl (exec_alloc rfl (alloc_pk _)) (HS1.out.alloc (Nat.le_of_lt HD1.out.1) _) ?_
      simp only [Act.put, List.setIfInBounds_toArray, List.set_cons_succ, List.set_cons_zero]
      have HSa : Fact (Below pb w1 (u1.alloc (.cells (pkC Pk.zero) 85))) := ⟨HS1.out.alloc (Nat.le_of_lt HD1.out.1) _⟩
      have HDa : Fact (Rd (u1.alloc (.cells (pkC Pk.zero) 85)) pb x2.2) := ⟨HD1.out.move ((Below.refl _ _).alloc (Nat.le_refl _) _)⟩
      have HGa : Fact ((u1.alloc (.cells (pkC Pk.zero) 85)).heap[u1.heap.size]? = some (.cells (pkC Pk.zero) 85)) := ⟨heap_new _ _⟩
      have HLa : Fact (u1.heap.size < (u1.alloc (.cells (pkC Pk.zero) 85)).heap.size) := ⟨by simp⟩
      have HPG : Fact (pb < u1.heap.size) := ⟨HD1.out.1⟩
      clear HS1 HD1
      generalize u1.alloc (.cells (pkC Pk.zero) 85) = va at HSa HDa HGa HLa ⊢
      generalize u1.heap.size = g at HGa HLa HPG ⊢
      refine seq_call (f := 71) (args := #[.pointer (some ⟨pb, 0, none⟩), .int .u8 3]) rfl rfl Try.func71 (by kernel_rfl) rfl (by simp only [List.map_toArray, List.map_cons, List.map_nil]; rfl) ?_
      refine (RNum_calls va pb x2.2 HDa.out _ 3 rfl).mono ?_
      rintro e u2 ⟨rfl, hr, hb⟩
      have HS2 : Fact (Below pb w1 u2) := ⟨HSa.out.trans hb.1⟩
      have HG2 : Fact (u2.heap[g]? = some (.cells (pkC Pk.zero) 85)) := ⟨by rw [hb.2 g HLa.out (by have := HPG.out; omega)]; exact HGa.out⟩
      have HL2 : Fact (g < u2.heap.size) := ⟨Nat.lt_of_lt_of_le HLa.out hb.1.size⟩
      have HD2 := Fact.mk hr.out
      obtain ⟨x3, hx3⟩ : ∃ x, rN x2.2 3 = x := ⟨_, rfl⟩
      have HQ3 := Fact.mk hx3
      rw [hx3] at HD2 ⊢
      clear hx3 hr hb
      refine ⟨_, rfl, HS2.out, ?_⟩
      simp only [Act.put, List.setIfInBounds_toArray, List.set_cons_succ, List.set_cons_zero]
      refine seq_call (f := 73) (args := #[.pointer (some ⟨pb, 0, none⟩), .int .u8 4]) rfl rfl Try.func73 (by kernel_rfl) rfl (by simp only [List.map_toArray, List.map_cons, List.map_nil]; rfl) ?_
      refine (RBytes_calls u2 pb x3.2 HD2.out _ 4 rfl).mono ?_
      rintro e u3 ⟨A4, c4, rfl, hg, hr, hb⟩
      have HS3 : Fact (Below pb w1 u3) := ⟨HS2.out.trans hb.1⟩
      have HT4 := Fact.mk (got_str hg.out HS3.out)
      have HG3 : Fact (u3.heap[g]? = some (.cells (pkC Pk.zero) 85)) := ⟨by rw [hb.2 g HL2.out (by have := HPG.out; omega)]; exact HG2.out⟩
      have HL3 : Fact (g < u3.heap.size) := ⟨Nat.lt_of_lt_of_le HL2.out hb.1.size⟩
      have HD3 := Fact.mk hr.out
      obtain ⟨x4, hx4⟩ : ∃ x, rB x3.2 4 = x := ⟨_, rfl⟩
      have HQ4 := Fact.mk hx4
      rw [hx4] at HD3 HT4 ⊢
      clear hx4 hr hb hg
      refine ⟨_, rfl, HS3.out, ?_⟩
      simp only [Act.put, List.setIfInBounds_toArray, List.set_cons_succ, List.set_cons_zero]
      apply seq_tell rfl
      · intro w2 hS
        have K1 := HT4.out w2 hS
        go_simp
        first | done | rfl
      simp only [Act.put, List.setIfInBounds_toArray, List.set_cons_succ, List.set_cons_zero]
      refine seq_call (f := 71) (args := #[.pointer (some ⟨pb, 0, none⟩), .int .u8 5]) rfl rfl Try.func71 (by kernel_rfl) rfl (by simp only [List.map_toArray, List.map_cons, List.map_nil]; rfl) ?_
      refine (RNum_calls u3 pb x4.2 HD3.out _ 5 rfl).mono ?_
      rintro e u4 ⟨rfl, hr, hb⟩
      have HS4 : Fact (Below pb w1 u4) := ⟨HS3.out.trans hb.1⟩
      have HG4 : Fact (u4.heap[g]? = some (.cells (pkC Pk.zero) 85)) := ⟨by rw [hb.2 g HL3.out (by have := HPG.out; omega)]; exact HG3.out⟩
      have HL4 : Fact (g < u4.heap.size) := ⟨Nat.lt_of_lt_of_le HL3.out hb.1.size⟩
      have HD4 := Fact.mk hr.out
      obtain ⟨x5, hx5⟩ : ∃ x, rN x4.2 5 = x := ⟨_, rfl⟩
      have HQ5 := Fact.mk hx5
      rw [hx5] at HD4 ⊢
      clear hx5 hr hb
      refine ⟨_, rfl, HS4.out, ?_⟩
      simp only [Act.put, List.setIfInBounds_toArray, List.set_cons_succ, List.set_cons_zero]
      refine seq_call (f := 73) (args := #[.pointer (some ⟨pb, 0, none⟩), .int .u8 6]) rfl rfl Try.func73 (by kernel_rfl) rfl (by simp only [List.map_toArray, List.map_cons, List.map_nil]; rfl) ?_
      refine (RBytes_calls u4 pb x5.2 HD4.out _ 6 rfl).mono ?_
      rintro e u5 ⟨A6, c6, rfl, hg, hr, hb⟩
      have HS5 : Fact (Below pb w1 u5) := ⟨HS4.out.trans hb.1⟩
      have HT6 := Fact.mk (got_str hg.out HS5.out)
      have HG5 : Fact (u5.heap[g]? = some (.cells (pkC Pk.zero) 85)) := ⟨by rw [hb.2 g HL4.out (by have := HPG.out; omega)]; exact HG4.out⟩
      have HL5 : Fact (g < u5.heap.size) := ⟨Nat.lt_of_lt_of_le HL4.out hb.1.size⟩
      have HD5 := Fact.mk hr.out
      obtain ⟨x6, hx6⟩ : ∃ x, rB x5.2 6 = x := ⟨_, rfl⟩
      have HQ6 := Fact.mk hx6
      rw [hx6] at HD5 HT6 ⊢
      clear hx6 hr hb hg
      refine ⟨_, rfl, HS5.out, ?_⟩
      simp only [Act.put, List.setIfInBounds_toArray, List.set_cons_succ, List.set_cons_zero]
      apply seq_tell rfl
      · intro w2 hS
        have K1 := HT6.out w2 hS
        go_simp
        first | done | rfl
      simp only [Act.put, List.setIfInBounds_toArray, List.set_cons_succ, List.set_cons_zero]
      refine seq_call (f := 73) (args := #[.pointer (some ⟨pb, 0, none⟩), .int .u8 7]) rfl rfl Try.func73 (by kernel_rfl) rfl (by simp only [List.map_toArray, List.map_cons, List.map_nil]; rfl) ?_
      refine (RBytes_calls u5 pb x6.2 HD5.out _ 7 rfl).mono ?_
      rintro e u6 ⟨A7, c7, rfl, hg, hr, hb⟩
      have HS6 : Fact (Below pb w1 u6) := ⟨HS5.out.trans hb.1⟩
      have HT7 := Fact.mk (got_str hg.out HS6.out)
      have HG6 : Fact (u6.heap[g]? = some (.cells (pkC Pk.zero) 85)) := ⟨by rw [hb.2 g HL5.out (by have := HPG.out; omega)]; exact HG5.out⟩
      have HL6 : Fact (g < u6.heap.size) := ⟨Nat.lt_of_lt_of_le HL5.out hb.1.size⟩
      have HD6 := Fact.mk hr.out
      obtain ⟨x7, hx7⟩ : ∃ x, rB x6.2 7 = x := ⟨_, rfl⟩
      have HQ7 := Fact.mk hx7
      rw [hx7] at HD6 HT7 ⊢
      clear hx7 hr hb hg
      refine ⟨_, rfl, HS6.out, ?_⟩
      simp only [Act.put, List.setIfInBounds_toArray, List.set_cons_succ, List.set_cons_zero]
      apply seq_tell rfl
      · intro w2 hS
        have K1 := HT7.out w2 hS
        go_simp
        first | done | rfl
      simp only [Act.put, List.setIfInBounds_toArray, List.set_cons_succ, List.set_cons_zero]
      apply seq_tell rfl
      · intro w2 hS
        go_simp
        first | done | rfl
      simp only [Act.put, List.setIfInBounds_toArray, List.set_cons_succ, List.set_cons_zero]
      obtain ⟨q, hq⟩ : ∃ q : Pk, q = ⟨y4, x2.1, x3.1, x4.1, x5.1, x6.1, x7.1⟩ := ⟨_, rfl⟩
      have HRD : Fact (rdPk s0 = (q, x7.2)) := ⟨by rw [hq]; unfold rdPk; simp only [HQ1.out]; rw [HIF.out]; simp only [HQ2.out, HQ3.out, HQ4.out, HQ5.out, HQ6.out, HQ7.out, HY4.out]⟩
      refine seq_mute rfl (exec_store (g := g) (old := pkC Pk.zero) (cells := pkC q) rfl rfl (by rw [hq]; rfl) HG6.out (HIA.out _) rfl (pkC_one _)) (Below.row HS6.out (Nat.le_of_lt HPG.out) _) ?_
      simp only [Act.put, List.setIfInBounds_toArray, List.set_cons_succ, List.set_cons_zero]
      have HBW : Fact (Below (pb + 1) u6 (u6.setRow g (pkC q))) := ⟨Below.row (Below.refl _ _) HPG.out _⟩
      have HBS : Fact (Below pb w1 (u6.setRow g (pkC q))) := ⟨HS6.out.trans (HBW.out.mono (Nat.le_succ _))⟩
      have HGX : Fact ((u6.setRow g (pkC q)).heap[g]? = some (.cells (pkC q) 85)) := ⟨setRow_heap _ _ _ _ _ _ HG6.out⟩
      have HSZ : Fact (g < (u6.setRow g (pkC q)).heap.size) := ⟨by simp; exact HL6.out⟩
      have HDX : Fact (Rd (u6.setRow g (pkC q)) pb x7.2) := ⟨HD6.out.moveLe HBW.out⟩
      clear hq HBW
      generalize u6.setRow g (pkC q) = v8 at HBS HGX HSZ HDX ⊢
      show Exit.then _ _ _ _ _
      go_wp2_with (go_at_call 74; fail)
      refine (REnd_calls _ pb x7.2 HDX.out).mono ?_
      rintro e v9 ⟨rfl, hb⟩
      have HG9 : Fact (v9.heap[w.heap.size]? = some (.cells (pkC Pk.zero) 85)) := ⟨by rw [hb.1.block _ HPB.out, HBS.out.block _ HPB.out]; exact HRz1.out⟩
      have HB9 : Fact (Below w.heap.size w v9) := ⟨HB1.out.trans ((HBS.out.trans hb.1).mono (Nat.le_of_lt HPB.out))⟩
      have HGY : Fact (v9.heap[g]? = some (.cells (pkC q) 85)) := ⟨by rw [hb.2 _ HSZ.out (by have := HPG.out; omega)]; exact HGX.out⟩
      obtain ⟨z, hz⟩ : ∃ z, rEnd x7.2 = z := ⟨_, rfl⟩
      have HZ := Fact.mk hz
      rw [hz]
      clear hz hb
      by_cases hz : z = 0
      · subst hz
        have z1 : ((0 : Int) != 0) = false := rfl
        go_wp2_with (first
          | (refine wpList_load_row rfl 85 (.tmp 6) rfl g rfl 85 (pkC q) (0, 0) _ HGY.out Try.underlying85 rfl (HIA.out _) ?_)
          | (refine wpList_store_row rfl 85 (.tmp 2) (.tmp 41) rfl w.heap.size (pkC q) rfl rfl 85 (pkC Pk.zero) HG9.out (HIA.out _) rfl (pkC_one _) ?_))
        refine bodyPost_ret (ParcelE.results_cell_tmp (fn := Try.f55) rfl _ _ w.heap.size 85 (pkC q) (0, 0) _ rfl (setRow_heap _ _ _ _ _ _ HG9.out) Try.underlying85 rfl (HIA.out _)) rfl ?_
        rw [HX.out, HRD.out, if_pos HZ.out]
        exact ⟨rfl, HB9.out.trans (Below.row (Below.refl _ _) (Nat.le_refl _) _)⟩
      · have z1 : (z != 0) = true := by simpa using hz
        have HZN := Fact.mk hz
        clear hz
        go_wp2_with (refine wpList_store_row rfl 85 (.tmp 2) (.tmp 39) rfl w.heap.size (pkC Pk.zero) rfl rfl 85 (pkC Pk.zero) HG9.out (HIA.out _) rfl (pkC_one _) ?_)
        refine bodyPost_ret (ParcelE.results_cell_tmp (fn := Try.f55) rfl _ _ w.heap.size 85 (pkC Pk.zero) (0, 0) _ rfl (setRow_heap _ _ _ _ _ _ HG9.out) Try.underlying85 rfl (HIA.out _)) rfl ?_
        rw [HX.out, HRD.out, if_neg (by rw [HZ.out]; exact HZN.out)]
        exact ⟨by simp only [HZ.out]; rfl, HB9.out.trans (Below.row (Below.refl _ _) (Nat.le_refl _) _)⟩
  · simp only [List.cons_append, List.nil_append]
    refine seq_do rfl (exec_alloc rfl (alloc_pk _)) (HS0.out.alloc (Nat.le_of_lt HD0.out.1) _) ?_
    simp only [Act.put, List.setIfInBounds_toArray, List.set_cons_succ, List.set_cons_zero]
    have HSa : Fact (Below pb w1 (u0.alloc (.cells (pkC Pk.zero) 85))) := ⟨HS0.out.alloc (Nat.le_of_lt HD0.out.1) _⟩
    have HDa : Fact (Rd (u0.alloc (.cells (pkC Pk.zero) 85)) pb sa) := ⟨HD0.out.move ((Below.refl _ _).alloc (Nat.le_refl _) _)⟩
    have HGa : Fact ((u0.alloc (.cells (pkC Pk.zero) 85)).heap[u0.heap.size]? = some (.cells (pkC Pk.zero) 85)) := ⟨heap_new _ _⟩
    have HLa : Fact (u0.heap.size < (u0.alloc (.cells (pkC Pk.zero) 85)).heap.size) := ⟨by simp⟩
    have HPG : Fact (pb < u0.heap.size) := ⟨HD0.out.1⟩
    clear HS0 HD0
    generalize u0.alloc (.cells (pkC Pk.zero) 85) = va at HSa HDa HGa HLa ⊢
    generalize u0.heap.size = g at HGa HLa HPG ⊢
    refine seq_call (f := 71) (args := #[.pointer (some ⟨pb, 0, none⟩), .int .u8 2]) rfl rfl Try.func71 (by kernel_rfl) rfl (by simp only [List.map_toArray, List.map_cons, List.map_nil]; rfl) ?_
    refine (RNum_calls va pb sa HDa.out _ 2 rfl).mono ?_
    rintro e u1 ⟨rfl, hr, hb⟩
    have HS1 : Fact (Below pb w1 u1) := ⟨HSa.out.trans hb.1⟩
    have HG1 : Fact (u1.heap[g]? = some (.cells (pkC Pk.zero) 85)) := ⟨by rw [hb.2 g HLa.out (by have := HPG.out; omega)]; exact HGa.out⟩
    have HL1 : Fact (g < u1.heap.size) := ⟨Nat.lt_of_lt_of_le HLa.out hb.1.size⟩
    have HD1 := Fact.mk hr.out
    obtain ⟨x2, hx2⟩ : ∃ x, rN sa 2 = x := ⟨_, rfl⟩
    have HQ2 := Fact.mk hx2
    rw [hx2] at HD1 ⊢
    clear hx2 hr hb
    refine ⟨_, rfl, HS1.out, ?_⟩
    simp only [Act.put, List.setIfInBounds_toArray, List.set_cons_succ, List.set_cons_zero]
    refine seq_call (f := 71) (args := #[.pointer (some ⟨pb, 0, none⟩), .int .u8 3]) rfl rfl Try.func71 (by kernel_rfl) rfl (by simp only [List.map_toArray, List.map_cons, List.map_nil]; rfl) ?_
    refine (RNum_calls u1 pb x2.2 HD1.out _ 3 rfl).mono ?_
    rintro e u2 ⟨rfl, hr, hb⟩
    have HS2 : Fact (Below pb w1 u2) := ⟨HS1.out.trans hb.1⟩
    have HG2 : Fact (u2.heap[g]? = some (.cells (pkC Pk.zero) 85)) := ⟨by rw [hb.2 g HL1.out (by have := HPG.out; omega)]; exact HG1.out⟩
    have HL2 : Fact (g < u2.heap.size) := ⟨Nat.lt_of_lt_of_le HL1.out hb.1.size⟩
    have HD2 := Fact.mk hr.out
    obtain ⟨x3, hx3⟩ : ∃ x, rN x2.2 3 = x := ⟨_, rfl⟩
    have HQ3 := Fact.mk hx3
    rw [hx3] at HD2 ⊢
    clear hx3 hr hb
    refine ⟨_, rfl, HS2.out, ?_⟩
    simp only [Act.put, List.setIfInBounds_toArray, List.set_cons_succ, List.set_cons_zero]
    refine seq_call (f := 73) (args := #[.pointer (some ⟨pb, 0, none⟩), .int .u8 4]) rfl rfl Try.func73 (by kernel_rfl) rfl (by simp only [List.map_toArray, List.map_cons, List.map_nil]; rfl) ?_
    refine (RBytes_calls u2 pb x3.2 HD2.out _ 4 rfl).mono ?_
    rintro e u3 ⟨A4, c4, rfl, hg, hr, hb⟩
    have HS3 : Fact (Below pb w1 u3) := ⟨HS2.out.trans hb.1⟩
    have HT4 := Fact.mk (got_str hg.out HS3.out)
    have HG3 : Fact (u3.heap[g]? = some (.cells (pkC Pk.zero) 85)) := ⟨by rw [hb.2 g HL2.out (by have := HPG.out; omega)]; exact HG2.out⟩
    have HL3 : Fact (g < u3.heap.size) := ⟨Nat.lt_of_lt_of_le HL2.out hb.1.size⟩
    have HD3 := Fact.mk hr.out
    obtain ⟨x4, hx4⟩ : ∃ x, rB x3.2 4 = x := ⟨_, rfl⟩
    have HQ4 := Fact.mk hx4
    rw [hx4] at HD3 HT4 ⊢
    clear hx4 hr hb hg
    refine ⟨_, rfl, HS3.out, ?_⟩
    simp only [Act.put, List.setIfInBounds_toArray, List.set_cons_succ, List.set_cons_zero]
    apply seq_tell rfl
    · intro w2 hS
      have K1 := HT4.out w2 hS
      go_simp
      first | done | rfl
    simp only [Act.put, List.setIfInBounds_toArray, List.set_cons_succ, List.set_cons_zero]
    refine seq_call (f := 71) (args := #[.pointer (some ⟨pb, 0, none⟩), .int .u8 5]) rfl rfl Try.func71 (by kernel_rfl) rfl (by simp only [List.map_toArray, List.map_cons, List.map_nil]; rfl) ?_
    refine (RNum_calls u3 pb x4.2 HD3.out _ 5 rfl).mono ?_
    rintro e u4 ⟨rfl, hr, hb⟩
    have HS4 : Fact (Below pb w1 u4) := ⟨HS3.out.trans hb.1⟩
    have HG4 : Fact (u4.heap[g]? = some (.cells (pkC Pk.zero) 85)) := ⟨by rw [hb.2 g HL3.out (by have := HPG.out; omega)]; exact HG3.out⟩
    have HL4 : Fact (g < u4.heap.size) := ⟨Nat.lt_of_lt_of_le HL3.out hb.1.size⟩
    have HD4 := Fact.mk hr.out
    obtain ⟨x5, hx5⟩ : ∃ x, rN x4.2 5 = x := ⟨_, rfl⟩
    have HQ5 := Fact.mk hx5
    rw [hx5] at HD4 ⊢
    clear hx5 hr hb
    refine ⟨_, rfl, HS4.out, ?_⟩
    simp only [Act.put, List.setIfInBounds_toArray, List.set_cons_succ, List.set_cons_zero]
    refine seq_call (f := 73) (args := #[.pointer (some ⟨pb, 0, none⟩), .int .u8 6]) rfl rfl Try.func73 (by kernel_rfl) rfl (by simp only [List.map_toArray, List.map_cons, List.map_nil]; rfl) ?_
    refine (RBytes_calls u4 pb x5.2 HD4.out _ 6 rfl).mono ?_
    rintro e u5 ⟨A6, c6, rfl, hg, hr, hb⟩
    have HS5 : Fact (Below pb w1 u5) := ⟨HS4.out.trans hb.1⟩
    have HT6 := Fact.mk (got_str hg.out HS5.out)
    have HG5 : Fact (u5.heap[g]? = some (.cells (pkC Pk.zero) 85)) := ⟨by rw [hb.2 g HL4.out (by have := HPG.out; omega)]; exact HG4.out⟩
    have HL5 : Fact (g < u5.heap.size) := ⟨Nat.lt_of_lt_of_le HL4.out hb.1.size⟩
    have HD5 := Fact.mk hr.out
    obtain ⟨x6, hx6⟩ : ∃ x, rB x5.2 6 = x := ⟨_, rfl⟩
    have HQ6 := Fact.mk hx6
    rw [hx6] at HD5 HT6 ⊢
    clear hx6 hr hb hg
    refine ⟨_, rfl, HS5.out, ?_⟩
    simp only [Act.put, List.setIfInBounds_toArray, List.set_cons_succ, List.set_cons_zero]
    apply seq_tell rfl
    · intro w2 hS
      have K1 := HT6.out w2 hS
      go_simp
      first | done | rfl
    simp only [Act.put, List.setIfInBounds_toArray, List.set_cons_succ, List.set_cons_zero]
    refine seq_call (f := 73) (args := #[.pointer (some ⟨pb, 0, none⟩), .int .u8 7]) rfl rfl Try.func73 (by kernel_rfl) rfl (by simp only [List.map_toArray, List.map_cons, List.map_nil]; rfl) ?_
    refine (RBytes_calls u5 pb x6.2 HD5.out _ 7 rfl).mono ?_
    rintro e u6 ⟨A7, c7, rfl, hg, hr, hb⟩
    have HS6 : Fact (Below pb w1 u6) := ⟨HS5.out.trans hb.1⟩
    have HT7 := Fact.mk (got_str hg.out HS6.out)
    have HG6 : Fact (u6.heap[g]? = some (.cells (pkC Pk.zero) 85)) := ⟨by rw [hb.2 g HL5.out (by have := HPG.out; omega)]; exact HG5.out⟩
    have HL6 : Fact (g < u6.heap.size) := ⟨Nat.lt_of_lt_of_le HL5.out hb.1.size⟩
    have HD6 := Fact.mk hr.out
    obtain ⟨x7, hx7⟩ : ∃ x, rB x6.2 7 = x := ⟨_, rfl⟩
    have HQ7 := Fact.mk hx7
    rw [hx7] at HD6 HT7 ⊢
    clear hx7 hr hb hg
    refine ⟨_, rfl, HS6.out, ?_⟩
    simp only [Act.put, List.setIfInBounds_toArray, List.set_cons_succ, List.set_cons_zero]
    apply seq_tell rfl
    · intro w2 hS
      have K1 := HT7.out w2 hS
      go_simp
      first | done | rfl
    simp only [Act.put, List.setIfInBounds_toArray, List.set_cons_succ, List.set_cons_zero]
    apply seq_tell rfl
    · intro w2 hS
      go_simp
      first | done | rfl
    simp only [Act.put, List.setIfInBounds_toArray, List.set_cons_succ, List.set_cons_zero]
    obtain ⟨q, hq⟩ : ∃ q : Pk, q = ⟨y4, x2.1, x3.1, x4.1, x5.1, x6.1, x7.1⟩ := ⟨_, rfl⟩
    have HRD : Fact (rdPk s0 = (q, x7.2)) := ⟨by rw [hq]; unfold rdPk; simp only [HQ1.out]; rw [HIF.out]; simp only [HQ2.out, HQ3.out, HQ4.out, HQ5.out, HQ6.out, HQ7.out, HY4.out]⟩
    refine seq_mute rfl (exec_store (g := g) (old := pkC Pk.zero) (cells := pkC q) rfl rfl (by rw [hq]; rfl) HG6.out (HIA.out _) rfl (pkC_one _)) (Below.row HS6.out (Nat.le_of_lt HPG.out) _) ?_
    simp only [Act.put, List.setIfInBounds_toArray, List.set_cons_succ, List.set_cons_zero]
    have HBW : Fact (Below (pb + 1) u6 (u6.setRow g (pkC q))) := ⟨Below.row (Below.refl _ _) HPG.out _⟩
    have HBS : Fact (Below pb w1 (u6.setRow g (pkC q))) := ⟨HS6.out.trans (HBW.out.mono (Nat.le_succ _))⟩
    have HGX : Fact ((u6.setRow g (pkC q)).heap[g]? = some (.cells (pkC q) 85)) := ⟨setRow_heap _ _ _ _ _ _ HG6.out⟩
    have HSZ : Fact (g < (u6.setRow g (pkC q)).heap.size) := ⟨by simp; exact HL6.out⟩
    have HDX : Fact (Rd (u6.setRow g (pkC q)) pb x7.2) := ⟨HD6.out.moveLe HBW.out⟩
    clear hq HBW
    generalize u6.setRow g (pkC q) = v8 at HBS HGX HSZ HDX ⊢
    show Exit.then _ _ _ _ _
    go_wp2_with (go_at_call 74; fail)
    refine (REnd_calls _ pb x7.2 HDX.out).mono ?_
    rintro e v9 ⟨rfl, hb⟩
    have HG9 : Fact (v9.heap[w.heap.size]? = some (.cells (pkC Pk.zero) 85)) := ⟨by rw [hb.1.block _ HPB.out, HBS.out.block _ HPB.out]; exact HRz1.out⟩
    have HB9 : Fact (Below w.heap.size w v9) := ⟨HB1.out.trans ((HBS.out.trans hb.1).mono (Nat.le_of_lt HPB.out))⟩
    have HGY : Fact (v9.heap[g]? = some (.cells (pkC q) 85)) := ⟨by rw [hb.2 _ HSZ.out (by have := HPG.out; omega)]; exact HGX.out⟩
    obtain ⟨z, hz⟩ : ∃ z, rEnd x7.2 = z := ⟨_, rfl⟩
    have HZ := Fact.mk hz
    rw [hz]
    clear hz hb
    by_cases hz : z = 0
    · subst hz
      have z1 : ((0 : Int) != 0) = false := rfl
      go_wp2_with (first
        | (refine wpList_load_row rfl 85 (.tmp 6) rfl g rfl 85 (pkC q) (0, 0) _ HGY.out Try.underlying85 rfl (HIA.out _) ?_)
        | (refine wpList_store_row rfl 85 (.tmp 2) (.tmp 41) rfl w.heap.size (pkC q) rfl rfl 85 (pkC Pk.zero) HG9.out (HIA.out _) rfl (pkC_one _) ?_))
      refine bodyPost_ret (ParcelE.results_cell_tmp (fn := Try.f55) rfl _ _ w.heap.size 85 (pkC q) (0, 0) _ rfl (setRow_heap _ _ _ _ _ _ HG9.out) Try.underlying85 rfl (HIA.out _)) rfl ?_
      rw [HX.out, HRD.out, if_pos HZ.out]
      exact ⟨rfl, HB9.out.trans (Below.row (Below.refl _ _) (Nat.le_refl _) _)⟩
    · have z1 : (z != 0) = true := by simpa using hz
      have HZN := Fact.mk hz
      clear hz
      go_wp2_with (refine wpList_store_row rfl 85 (.tmp 2) (.tmp 39) rfl w.heap.size (pkC Pk.zero) rfl rfl 85 (pkC Pk.zero) HG9.out (HIA.out _) rfl (pkC_one _) ?_)
      refine bodyPost_ret (ParcelE.results_cell_tmp (fn := Try.f55) rfl _ _ w.heap.size 85 (pkC Pk.zero) (0, 0) _ rfl (setRow_heap _ _ _ _ _ _ HG9.out) Try.underlying85 rfl (HIA.out _)) rfl ?_
      rw [HX.out, HRD.out, if_neg (by rw [HZ.out]; exact HZN.out)]
      exact ⟨by simp only [HZ.out]; rfl, HB9.out.trans (Below.row (Below.refl _ _) (Nat.le_refl _) _)⟩
end Go.Proofs.Ytjjcjdefenbnjaa.ParcelH
