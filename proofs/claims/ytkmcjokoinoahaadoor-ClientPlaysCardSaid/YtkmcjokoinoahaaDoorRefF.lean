/- ferrymanref11's Client.Latest, Status, At: contracts over any world. -/
import Derived.Test.YtkmcjokoinoahaaDoorRefE
set_option linter.unusedVariables false
set_option linter.unusedSimpArgs false
namespace Go.Proofs.YtkmcjokoinoahaaDoor.RefF
open Go.RowKit Go.Proofs.YtkmcjokoinoahaaDoor.Lib Go.Proofs.YtkmcjokoinoahaaDoor.LibB Go.Proofs.YtkmcjokoinoahaaDoor.Reg Go.Proofs.YtkmcjokoinoahaaDoor.RegC Go.Proofs.YtkmcjokoinoahaaDoor.RegD Go.Proofs.YtkmcjokoinoahaaDoor.PlainS Go.Proofs.YtkmcjokoinoahaaDoor.ShaB Go.Proofs.YtkmcjokoinoahaaDoor.ShaC Go.Proofs.YtkmcjokoinoahaaDoor.ShaD Go.Proofs.YtkmcjokoinoahaaDoor.ShaDS Go.Proofs.YtkmcjokoinoahaaDoor.ShaE Go.Proofs.YtkmcjokoinoahaaDoor.PlainP Go.Proofs.YtkmcjokoinoahaaDoor.ParcelB Go.Proofs.YtkmcjokoinoahaaDoor.SealA Go.Proofs.YtkmcjokoinoahaaDoor.SealB Go.Proofs.YtkmcjokoinoahaaDoor.ClientA Go.Proofs.YtkmcjokoinoahaaDoor.ClientB Go.Proofs.YtkmcjokoinoahaaDoor.ClientD Go.Proofs.YtkmcjokoinoahaaDoor.ClientF Go.Proofs.YtkmcjokoinoahaaDoor.ClientK Go.Proofs.YtkmcjokoinoahaaDoor.RefD Go.Proofs.YtkmcjokoinoahaaDoor.RefE
theorem exec_loadS {P : Program} {o : Oper} {a : Act} {w : World} {ty : TypeId} {x : Operand} {ad : Addr} {cs : Array Value} {fs : Array Field} (ho : o.op = .load ty x) (hx : a.eval x = .pointer (some ad)) (hc : ∀ (j : Nat) v, cs.toList[j]? = some v → w.cell? (ad.add j) = some v)
    (hu : P.underlying ty = some (.struct fs)) (hi : (P.info? ty).map (·.size) = some cs.size) : (execOp a.eval o).run P w = .ok (.value (.agg cs)) w := by
  have hl : (loadCells ad cs.toList.length).run P w = .ok cs.toList.toArray w := run_loadCells_list (P := P) w ad cs.toList hc
  cases hq : P.info? ty with
  | none => simp [hq] at hi
  | some i =>
    have hs : i.size = cs.size := by simpa [hq] using hi
    have hagg : (isAgg ty).run P w = .ok true w := by
      unfold isAgg
      rw [Sem.run_bind, run_underlying hu w]
      simp
    have hlv : (loadVar ty ad).run P w = .ok (.agg cs) w := by
      have hl' : (loadCells ad cs.size).run P w = .ok cs w := by simpa using hl
      simp [loadVar, Sem.run_bind, hagg, sizeOf, typeInfo, hq, hs, hl']
    unfold execOp
    simp only [ho, hx, Instr.loadAt, Instr.sureAddr, Sem.run_bind, Sem.run_pure, Result.andThen_ok, hlv]
/-- One that is known, by its cells. -/
theorem Mc.at_ {w : World} {cm gm p : Nat} {l : List Hd} {fz : Bool} (h : Mc w cm gm p l fz) {i : Nat} {s : Hd} (hi : l[i]? = some s) :
    ∃ ad c, w.cell? ⟨cm, 0, none⟩ = some (.int .u64 (p : Int)) ∧ w.cell? ⟨cm, 1, none⟩ = some (.slice (some ad) l.length c) ∧ w.cell? ⟨cm, 2, none⟩ = some (.bool fz) ∧ ad.block = gm ∧ s.ok ∧ l.length ≤ 9223372036854775807 ∧ (∀ (j : Nat) u, (knC s)[j]? = some u → w.cell? ((ad.add (i * 162)).add j) = some u) := by
  obtain ⟨h1, h2, h3, A, c, hr, hs⟩ := h
  obtain ⟨ad, cs, rfl, hf, ⟨rfl, hk⟩, hcell⟩ := hs.at_ hi
  refine ⟨ad, c, row_cell hr rfl, row_cell hr rfl, row_cell hr rfl, hf, hk, Nat.le_trans hs.le hs.max_, fun j u hj => ?_⟩
  rw [add_add']
  exact hcell j u hj
theorem knC_hd {s : Hd} (k : s.ok) {j : Nat} {u : Value} (h : (hdC s)[j]? = some u) : (knC s)[j]? = some u := by
  unfold knC
  rw [List.getElem?_append_left (List.getElem?_eq_some_iff.1 h).1]
  exact h
set_option maxHeartbeats 4000000 in
set_option maxRecDepth 100000 in
theorem RLatest_calls (w : World) (cm gm p : Nat) (l : List Hd) (fz : Bool) (h : Mc w cm gm p l fz) (m : Nat) (hm : l.length = m + 1) (s : Hd) (hs : l[m]? = some s) :
    Calls Tryd.prog 40 #[.pointer (some ⟨cm, 0, none⟩)] w fun e w' => (∃ ds : Array Value, e = .returned (.agg ds) ∧ Fact (ds.toList = hdC s)) ∧ Below w.heap.size w w' := by
  obtain ⟨ad, c, c0, c1, c2, hbl, hk, hlm, hc⟩ := Mc.at_ h hs
  rw [hm] at c1 hlm
  have hcm := h.1
  have hgm := h.2.1
  obtain ⟨ds, hds⟩ : ∃ ds : Array Value, ds = (hdC s).toArray := ⟨_, rfl⟩
  have HDS : Fact (ds.toList = hdC s) := ⟨by rw [hds]⟩
  have HI : Fact ((Tryd.prog.info? 54).map (·.size) = some ds.size) := ⟨HdKit.hd_i (by rw [← Array.length_toList, HDS.out, HdKit.hdC_len hk])⟩
  have HZ : Fact (HdKit.zHdA.size = ds.size) := ⟨by rw [show ds.size = 130 by rw [← Array.length_toList, HDS.out, HdKit.hdC_len hk]]; rfl⟩
  have HO : Fact (ds.all (·.oneCell') = true) := ⟨by
    have := HdKit.hdC_one s
    rw [← HDS.out] at this
    simpa using this⟩
  have HC : Fact (∀ W, Below w.heap.size w W → ∀ (j : Nat) u, ds.toList[j]? = some u → W.cell? ((ad.add (m * 162)).add j) = some u) := ⟨fun W hW j u hj => by
    rw [HDS.out] at hj
    exact (hW.cell (p := (ad.add (m * 162)).add j) (by rw [Lib.block_add, Lib.block_add, hbl]; exact hgm)).trans (hc j u (knC_hd hk hj))⟩
  have HC1 : Fact (∀ W, Below w.heap.size w W → W.cell? ⟨cm, 1, none⟩ = some (.slice (some ad) (m + 1) c)) := ⟨fun W hW => (hW.cell (p := ⟨cm, 1, none⟩) hcm).trans c1⟩
  have hwm : IntKind.i64.wrap (m : Int) = m := by rw [IntKind.wrap_i64]; omega
  have e1 : (((m + 1 : Nat) : Int)) - 1 = (m : Int) := by omega
  have e2 : (m : Int) < (m : Int) + 1 := by omega
  have HB1 : Fact (Below w.heap.size w (w.alloc (.cells HdKit.zHdA 54))) := ⟨(Below.refl _ _).alloc (Nat.le_refl _) _⟩
  have HR1 : Fact ((w.alloc (.cells HdKit.zHdA 54)).heap[w.heap.size]? = some (.cells HdKit.zHdA 54 (0, 0))) := ⟨heap_alloc_new _ _⟩
  clear hc hs hm h hk hds c0 c1 c2 hbl
  go_enter Tryd.func40, Tryd.ntmps40
  go_wp2_with (refine wpList_ok rfl (ShaB.exec_alloc rfl (HdKit.alloc_hd _)) ?_)
  simp only [Act.put, List.setIfInBounds_toArray, List.set_cons_succ, List.set_cons_zero]
  generalize w.alloc (.cells HdKit.zHdA 54) = w1 at HB1 HR1 ⊢
  refine wp_region_P (fun W => Below w.heap.size w1 W) (.tell 0 (.tell 1 (.tell 2 (.tell 3 (.tell 4 (.tell 5 (.tell 6 (.tell 7 (.tell 8 (.tell 9 (.tell 10 (.tell 11 (.tell 12 (.one 13 .done)))))))))))))) (by kernel_rfl) (by kernel_rfl) (by kernel_rfl) (by intro c a d v w h; cases d <;> exact h) (Below.refl _ _).drew ?_
  have HBd : Fact (Below w.heap.size w w1.drew) := ⟨HB1.out.drew⟩
  have HRd : Fact (w1.drew.heap[w.heap.size]? = some (.cells HdKit.zHdA 54 (0, 0))) := ⟨HR1.out⟩
  have HBe : Fact (Below w.heap.size w1 w1.drew) := ⟨(Below.refl _ _).drew⟩
  generalize w1.drew = wd at HBd HRd HBe ⊢
  refine plan_tell rfl rfl (fun W hS => by
    go_simp
    first | done | rfl) ?_
  simp only [List.getElem_toArray, List.getElem_cons_succ, List.getElem_cons_zero, Act.put, List.setIfInBounds_toArray, List.set_cons_succ, List.set_cons_zero]
  refine plan_tell rfl rfl (fun W hS => by
    go_simp
    first | done | rfl) ?_
  simp only [List.getElem_toArray, List.getElem_cons_succ, List.getElem_cons_zero, Act.put, List.setIfInBounds_toArray, List.set_cons_succ, List.set_cons_zero]
  refine plan_tell rfl rfl (fun W hS => by
    go_simp
    first | done | rfl) ?_
  simp only [List.getElem_toArray, List.getElem_cons_succ, List.getElem_cons_zero, Act.put, List.setIfInBounds_toArray, List.set_cons_succ, List.set_cons_zero]
  refine plan_tell rfl rfl (fun W hS => by
    have p1 := HC1.out W (HB1.out.trans hS)
    go_simp
    first | done | rfl) ?_
  simp only [List.getElem_toArray, List.getElem_cons_succ, List.getElem_cons_zero, Act.put, List.setIfInBounds_toArray, List.set_cons_succ, List.set_cons_zero]
  refine plan_tell rfl rfl (fun W hS => by
    go_simp
    first | done | rfl) ?_
  simp only [List.getElem_toArray, List.getElem_cons_succ, List.getElem_cons_zero, Act.put, List.setIfInBounds_toArray, List.set_cons_succ, List.set_cons_zero]
  refine plan_tell rfl rfl (fun W hS => by
    go_simp
    first | done | rfl) ?_
  simp only [List.getElem_toArray, List.getElem_cons_succ, List.getElem_cons_zero, Act.put, List.setIfInBounds_toArray, List.set_cons_succ, List.set_cons_zero]
  refine plan_tell rfl rfl (fun W hS => by
    go_simp
    first | done | rfl) ?_
  simp only [List.getElem_toArray, List.getElem_cons_succ, List.getElem_cons_zero, Act.put, List.setIfInBounds_toArray, List.set_cons_succ, List.set_cons_zero]
  refine plan_tell rfl rfl (fun W hS => by
    have p1 := HC1.out W (HB1.out.trans hS)
    go_simp
    first | done | rfl) ?_
  simp only [List.getElem_toArray, List.getElem_cons_succ, List.getElem_cons_zero, Act.put, List.setIfInBounds_toArray, List.set_cons_succ, List.set_cons_zero]
  refine plan_tell rfl rfl (fun W hS => by
    go_simp
    first | done | rfl) ?_
  simp only [List.getElem_toArray, List.getElem_cons_succ, List.getElem_cons_zero, Act.put, List.setIfInBounds_toArray, List.set_cons_succ, List.set_cons_zero]
  refine plan_tell rfl rfl (fun W hS => by
    go_simp
    first | done | rfl) ?_
  simp only [List.getElem_toArray, List.getElem_cons_succ, List.getElem_cons_zero, Act.put, List.setIfInBounds_toArray, List.set_cons_succ, List.set_cons_zero]
  refine plan_tell rfl rfl (fun W hS => by
    go_simp
    first | done | rfl) ?_
  simp only [List.getElem_toArray, List.getElem_cons_succ, List.getElem_cons_zero, Act.put, List.setIfInBounds_toArray, List.set_cons_succ, List.set_cons_zero]
  refine plan_tell rfl rfl (fun W hS => by
    go_simp
    first | done | rfl) ?_
  simp only [List.getElem_toArray, List.getElem_cons_succ, List.getElem_cons_zero, Act.put, List.setIfInBounds_toArray, List.set_cons_succ, List.set_cons_zero]
  refine plan_tell rfl rfl (v := .agg ds) (fun W hS => exec_loadS rfl rfl (HC.out W (HB1.out.trans hS)) Tryd.underlying54 HI.out) ?_
  simp only [List.getElem_toArray, List.getElem_cons_succ, List.getElem_cons_zero, Act.put, List.setIfInBounds_toArray, List.set_cons_succ, List.set_cons_zero]
  have HR6 : Fact ((wd.setRow w.heap.size ds).heap[w.heap.size]? = some (.cells ds 54 (0, 0))) := ⟨setRow_heap _ _ _ _ _ _ HRd.out⟩
  have HB6 : Fact (Below w.heap.size w (wd.setRow w.heap.size ds)) := ⟨below_setRow HBd.out (Nat.le_refl _) _⟩
  refine turn_mute rfl rfl (exec_storeRow (g := w.heap.size) (old := HdKit.zHdA) (cells := ds) rfl rfl rfl HRd.out HI.out HZ.out HO.out) (below_setRow HBe.out (Nat.le_refl _) _) ?_
  clear HRd HBe HBd
  generalize wd.setRow w.heap.size ds = w6 at HB6 HR6 ⊢
  change wpPlan _ _ _ _ .done ⟨#[.pointer (some ⟨cm, 0, none⟩), _, .pointer (some ⟨w.heap.size, 0, none⟩), _, _, _, _, _, _, _, _, _, _, _, _, _], []⟩ w6
  unfold wpPlan
  go_wp2_with fail
  refine bodyPost_ret (results_cell_row (fn := Tryd.f40) rfl _ _ w.heap.size 54 ds (0, 0) _ rfl HR6.out Tryd.underlying54 rfl HI.out) rfl ?_
  exact ⟨⟨ds, rfl, HDS⟩, HB6.out⟩
theorem exec_field {P : Program} {o : Oper} {a : Act} {W : World} {t : TypeId} {x : Operand} {i : Nat} {ds : Array Value} {v : Value} (ho : o.op = .field t x i) (hx : a.eval x = .agg ds) (h : (Instr.field t (.agg ds) i).run P W = .ok v W) : (execOp a.eval o).run P W = .ok (.value v) W := by
  unfold execOp
  simp only [ho, hx, Sem.run_bind, Sem.run_pure, Result.andThen_ok, h]
theorem field_tm {ds : Array Value} {v : Value} (h : ds[1]? = some v) (W : World) : (Instr.field 54 (.agg ds) 1).run Tryd.prog W = .ok v W := by
  simp [Instr.field, run_underlying Tryd.underlying54, part, isAgg, run_underlying Tryd.underlying50, asAgg, h]
set_option maxHeartbeats 4000000 in
set_option maxRecDepth 100000 in
theorem RStatus_calls (w : World) (cm gm p : Nat) (l : List Hd) (fz : Bool) (h : Mc w cm gm p l fz) (m : Nat) (hm : l.length = m + 1) (s : Hd) (hs : l[m]? = some s) (hp : 1 ≤ p) (hp2 : p ≤ 4294967296) (htm : s.tm ≤ 1099511627776) (now : Nat) (hn : now < 18446744073709551616) :
    Calls Tryd.prog 42 #[.pointer (some ⟨cm, 0, none⟩), .int .u64 (now : Int)] w fun e w' => e = .returned (.int .i64 (statE fz p (ofH s) now)) ∧ Below w.heap.size w w' := by
  obtain ⟨ad, c, c0, c1, c2, hbl, hk, hlm, hc⟩ := Mc.at_ h hs
  have hcm := h.1
  have HM := Fact.mk h
  have HLM := Fact.mk hm
  have HLS := Fact.mk hs
  have e1 : (ofH s).tm = s.tm := rfl
  cases fz with
  | true =>
    have he : statE true p (ofH s) now = 30 := rfl
    rw [he]
    clear hc hs hm h hk c0 c1 hbl hlm
    go_enter Tryd.func42, Tryd.ntmps42
    go_wp2_with fail
    go_ret
    exact ⟨rfl, Below.refl _ _⟩
  | false =>
    obtain ⟨z, hz⟩ : ∃ z, s.tm + p = z := ⟨_, rfl⟩
    have hw1 : IntKind.u64.wrap ((s.tm : Int) + (p : Int)) = (z : Int) := by rw [IntKind.wrap_u64]; omega
    have he : statE false p (ofH s) now = if z ≤ now then 31 else 0 := by
      unfold statE
      rw [e1]
      by_cases q : z ≤ now
      · rw [if_pos q, if_neg (by decide), if_pos (by omega)]
      · rw [if_neg q, if_neg (by decide), if_neg (by omega)]
    obtain ⟨R, hR⟩ : ∃ R, (if z ≤ now then (31 : Int) else 0) = R := ⟨_, rfl⟩
    rw [he, hR]
    have HR := Fact.mk hR
    have HC0 : Fact (∀ W, Below w.heap.size w W → W.cell? ⟨cm, 0, none⟩ = some (.int .u64 (p : Int))) := ⟨fun W hW => (hW.cell (p := ⟨cm, 0, none⟩) hcm).trans c0⟩
    clear hc hs hm h hk c0 c1 hbl hlm e1 he hz hR
    go_enter Tryd.func42, Tryd.ntmps42
    go_wp2_with fail
    clear c2
    refine wp_region_P (fun W => Below w.heap.size w W) (.tell 0 (.tell 1 (.tell 4 (.tell 5 (.tell 6 (.tell 7 (.one 2 (.tell 3 (.tell 8 (.tell 9 .done)))))))))) (by kernel_rfl) (by kernel_rfl) (by kernel_rfl) (by intro c a d v w h; cases d <;> exact h) (Below.refl _ _).drew ?_
    have HBd : Fact (Below w.heap.size w w.drew) := ⟨(Below.refl _ _).drew⟩
    generalize w.drew = wd at HBd ⊢
    refine plan_tell rfl rfl (fun W hS => by
      go_simp
      first | done | rfl) ?_
    simp only [List.getElem_toArray, List.getElem_cons_succ, List.getElem_cons_zero, Act.put, List.setIfInBounds_toArray, List.set_cons_succ, List.set_cons_zero]
    refine plan_tell rfl rfl (fun W hS => by
      go_simp
      first | done | rfl) ?_
    simp only [List.getElem_toArray, List.getElem_cons_succ, List.getElem_cons_zero, Act.put, List.setIfInBounds_toArray, List.set_cons_succ, List.set_cons_zero]
    refine plan_tell rfl rfl (fun W hS => by
      go_simp
      first | done | rfl) ?_
    simp only [List.getElem_toArray, List.getElem_cons_succ, List.getElem_cons_zero, Act.put, List.setIfInBounds_toArray, List.set_cons_succ, List.set_cons_zero]
    refine plan_tell rfl rfl (fun W hS => by
      go_simp
      first | done | rfl) ?_
    simp only [List.getElem_toArray, List.getElem_cons_succ, List.getElem_cons_zero, Act.put, List.setIfInBounds_toArray, List.set_cons_succ, List.set_cons_zero]
    refine plan_tell rfl rfl (fun W hS => by
      go_simp
      first | done | rfl) ?_
    simp only [List.getElem_toArray, List.getElem_cons_succ, List.getElem_cons_zero, Act.put, List.setIfInBounds_toArray, List.set_cons_succ, List.set_cons_zero]
    refine plan_tell rfl rfl (fun W hS => by
      have p0 := HC0.out W hS
      go_simp
      first | done | rfl) ?_
    simp only [List.getElem_toArray, List.getElem_cons_succ, List.getElem_cons_zero, Act.put, List.setIfInBounds_toArray, List.set_cons_succ, List.set_cons_zero]
    refine turn_call (f := 40) (args := #[.pointer (some ⟨cm, 0, none⟩)]) rfl rfl rfl Tryd.func40 (by kernel_rfl) rfl (by simp only [List.map_toArray, List.map_cons, List.map_nil]; rfl) ?_
    refine (RLatest_calls wd cm gm p l false (HM.out.below HBd.out) m HLM.out s HLS.out).mono ?_
    rintro e w3 ⟨⟨ds, rfl, hds⟩, hb3⟩
    have HB3 : Fact (Below w.heap.size w w3) := ⟨HBd.out.trans (hb3.mono HBd.out.size)⟩
    have hd1 : ds[1]? = some (.int .u64 (s.tm : Int)) := by rw [← Array.getElem?_toList, hds.out]; rfl
    have HD1 := Fact.mk hd1
    clear hb3 hds hd1
    refine ⟨_, rfl, HB3.out, ?_⟩
    simp only [List.getElem_toArray, List.getElem_cons_succ, List.getElem_cons_zero, Act.put, List.setIfInBounds_toArray, List.set_cons_succ, List.set_cons_zero]
    refine plan_tell rfl rfl (v := .int .u64 (s.tm : Int)) (fun W hS => exec_field rfl rfl (field_tm HD1.out W)) ?_
    simp only [List.getElem_toArray, List.getElem_cons_succ, List.getElem_cons_zero, Act.put, List.setIfInBounds_toArray, List.set_cons_succ, List.set_cons_zero]
    refine plan_tell rfl rfl (v := .int .u64 (z : Int)) (fun W hS => by
      have w1 := hw1
      go_simp
      first | done | rfl) ?_
    simp only [List.getElem_toArray, List.getElem_cons_succ, List.getElem_cons_zero, Act.put, List.setIfInBounds_toArray, List.set_cons_succ, List.set_cons_zero]
    refine plan_tell rfl rfl (fun W hS => by
      go_simp
      first | done | rfl) ?_
    simp only [List.getElem_toArray, List.getElem_cons_succ, List.getElem_cons_zero, Act.put, List.setIfInBounds_toArray, List.set_cons_succ, List.set_cons_zero]
    unfold wpPlan
    by_cases q : z ≤ now
    · have q1 : (z : Int) ≤ (now : Int) := by omega
      obtain rfl : 31 = R := (if_pos q).symm.trans HR.out
      clear HR
      go_wp2_with fail
      go_ret
      exact ⟨rfl, HB3.out⟩
    · have q1 : ¬ (z : Int) ≤ (now : Int) := by omega
      obtain rfl : 0 = R := (if_neg q).symm.trans HR.out
      clear HR
      go_wp2_with fail
      go_ret
      exact ⟨rfl, HB3.out⟩
/-- Where a height stands. -/
def atI (l : List Hd) (n : Nat) : Int := match l.findIdx? (fun h => h.ht == n) with | some i => (i : Int) | none => -1
theorem atI_hit {l : List Hd} {n k : Nat} {s : Hd} (hs : l[k]? = some s) (he : s.ht = n) (hn : ∀ (j : Nat) (t : Hd), j < k → l[j]? = some t → t.ht ≠ n) : atI l n = (k : Int) := by
  unfold atI
  have : l.findIdx? (fun h => h.ht == n) = some k := by
    rw [List.findIdx?_eq_some_iff_getElem]
    obtain ⟨hk, he2⟩ := List.getElem?_eq_some_iff.1 hs
    refine ⟨hk, by rw [he2]; simp [he], fun j hj => ?_⟩
    have := hn j _ hj (List.getElem?_eq_getElem (by omega))
    simpa using this
  rw [this]
theorem atI_miss {l : List Hd} {n : Nat} (hn : ∀ (j : Nat) (t : Hd), l[j]? = some t → t.ht ≠ n) : atI l n = -1 := by
  unfold atI
  have : l.findIdx? (fun h => h.ht == n) = none := by
    rw [List.findIdx?_eq_none_iff]
    intro x hx
    obtain ⟨j, hj, rfl⟩ := List.getElem_of_mem hx
    have := hn j _ (List.getElem?_eq_getElem hj)
    simpa using this
  rw [this]
set_option maxHeartbeats 2000000 in
set_option maxRecDepth 100000 in
theorem RAt_calls (w : World) (cm gm p : Nat) (l : List Hd) (fz : Bool) (h : Mc w cm gm p l fz) (hl : 0 < l.length) (n : Nat) :
    Calls Tryd.prog 43 #[.pointer (some ⟨cm, 0, none⟩), .int .u64 (n : Int)] w fun e w' => e = .returned (.int .i64 (atI l n)) ∧ w' = w := by
  obtain ⟨s0, hs0⟩ : ∃ s, l[0]? = some s := ⟨_, List.getElem?_eq_getElem hl⟩
  obtain ⟨ad, c, c0, c1, c2, hbl, hk, hlm, -⟩ := Mc.at_ h hs0
  obtain ⟨m, hm⟩ : ∃ m, l.length = m := ⟨_, rfl⟩
  rw [hm] at c1 hlm
  have HM := Fact.mk hm
  have HC : Fact (∀ (i : Nat) (s : Hd), l[i]? = some s → w.cell? (ad.add (i * 162)) = some (.int .u64 (s.ht : Int))) := ⟨fun i s hi => by
    obtain ⟨ad', c', -, d1, -, -, hks, -, hcell⟩ := Mc.at_ h hi
    rw [hm, c1] at d1
    injection d1 with d1
    injection d1 with d1
    obtain rfl := Option.some.inj d1
    have := hcell 0 (.int .u64 (s.ht : Int)) (knC_hd hks rfl)
    rwa [add_zero'] at this⟩
  clear h hl hs0 hm c0 c2 hbl hk
  go_enter Tryd.func43, Tryd.ntmps43
  go_wp2_with fail
  go_loopg [5] m (fun kq v5 wr => ∃ k : Nat, v5 = .int .i64 (k : Int) ∧ Fact (k + kq = m) ∧ Fact (∀ (j : Nat) (t : Hd), j < k → l[j]? = some t → t.ht ≠ n) ∧ Fact (wr = w))
  case atStart => exact ⟨0, rfl, ⟨by omega⟩, ⟨fun j t hj => absurd hj (Nat.not_lt_zero _)⟩, ⟨rfl⟩⟩
  case round =>
    obtain ⟨k, rfl, HK, HN, HW⟩ := hrel
    have hkm := HK.out
    obtain rfl : w = wr := HW.out.symm
    by_cases hlt : k < m
    · obtain ⟨s, hs⟩ : ∃ s, l[k]? = some s := ⟨_, List.getElem?_eq_getElem (by rw [HM.out]; exact hlt)⟩
      have hc := HC.out k s hs
      obtain ⟨x, hx⟩ : ∃ x, s.ht = x := ⟨_, rfl⟩
      rw [hx] at hc
      have HX := Fact.mk hx
      have HS := Fact.mk hs
      clear hx hs
      by_cases hxn : x = n
      · have hz : ((x : Int) == (n : Int)) = true := by simp [hxn]
        have HE : Fact (atI l n = (k : Int)) := ⟨atI_hit HS.out (HX.out.trans hxn) HN.out⟩
        clear hxn
        go_wp2_with fail
        go_ret
        exact ⟨by rw [HE.out]; rfl, rfl⟩
      · have hz : ((x : Int) == (n : Int)) = false := by simp; omega
        have HN2 : Fact (∀ (j : Nat) (t : Hd), j < k + 1 → l[j]? = some t → t.ht ≠ n) := ⟨fun j t hj ht => by
          rcases Nat.lt_or_ge j k with h1 | h1
          · exact HN.out j t h1 ht
          · obtain rfl : j = k := by omega
            rw [HS.out] at ht
            rw [← Option.some.inj ht, HX.out]
            exact hxn⟩
        clear hxn
        go_wp2_with fail
        go_roundg (m - (k + 1))
        case measure => omega
        case rel => exact ⟨k + 1, by go_num, ⟨by omega⟩, HN2, ⟨rfl⟩⟩
    · have HE : Fact (atI l n = -1) := ⟨atI_miss (fun j t ht => HN.out j t (by have := (List.getElem?_eq_some_iff.1 ht).1; have := HM.out; omega) ht)⟩
      go_wp2_with fail
      go_ret
      exact ⟨by rw [HE.out]; rfl, rfl⟩
end Go.Proofs.YtkmcjokoinoahaaDoor.RefF
