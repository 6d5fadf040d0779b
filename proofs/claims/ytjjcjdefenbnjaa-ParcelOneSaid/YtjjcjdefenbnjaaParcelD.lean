/- The reader of sums: a contract over any world. -/
import Derived.Test.YtjjcjdefenbnjaaParcelC
import Derived.Laws.CopyRow
import Derived.Laws.CopyOwn
set_option linter.unusedVariables false
set_option linter.unusedSimpArgs false
namespace Go.Proofs.Ytjjcjdefenbnjaa.ParcelD
open Go.RowKit Go.Proofs.Ytjjcjdefenbnjaa.Lib Go.Proofs.Ytjjcjdefenbnjaa.Reg Go.Proofs.Ytjjcjdefenbnjaa.TlvA Go.Proofs.Ytjjcjdefenbnjaa.TlvC Go.Proofs.Ytjjcjdefenbnjaa.TlvF Go.Proofs.Ytjjcjdefenbnjaa.TlvI Go.Proofs.Ytjjcjdefenbnjaa.LawNums Go.Proofs.Ytjjcjdefenbnjaa.PlainP Go.Proofs.Ytjjcjdefenbnjaa.LawOne Go.Proofs.Ytjjcjdefenbnjaa.DenomA Go.Proofs.Ytjjcjdefenbnjaa.ParcelA Go.Proofs.Ytjjcjdefenbnjaa.ParcelB Go.Proofs.Ytjjcjdefenbnjaa.ParcelC

theorem bytes_one {x : List UInt8} {cs : Array Value} (hc : cs.toList = x.map vu8) : cs.all (·.oneCell') = true := by
  rw [Array.all_eq_true_iff_forall_mem]
  intro v hv
  have : v ∈ x.map vu8 := by rw [← hc]; simpa using hv
  obtain ⟨b, _, rfl⟩ := List.mem_map.1 this
  rfl
theorem bytes_size {x : List UInt8} {cs : Array Value} (hc : cs.toList = x.map vu8) (hx : x.length = 32) : cs.size = 32 := by rw [← Array.length_toList, hc, List.length_map, hx]
theorem hash_i {cs : Array Value} (h : cs.size = 32) : (Try.prog.info? 89).map (·.size) = some cs.size := by rw [h]; kernel_rfl
theorem arr_i {cs : Array Value} (h : cs.size = 32) : (Try.prog.info? 88).map (·.size) = some cs.size := by rw [h]; kernel_rfl
theorem arr_u : Try.prog.underlying 88 = some (.array 32 5) := Try.underlying88
theorem arr_c : Try.prog.cellsOf 88 = 32 := by kernel_rfl
theorem arr_k : Try.prog.keyTypeAt 2 88 = true := by kernel_rfl
theorem heap_new (W : World) (o : Obj) : (W.alloc o).heap[W.heap.size]? = some o := heap_alloc_new W o
/-- A whole array from wherever its cells lie. -/
theorem exec_load {P : Program} {o : Oper} {a : Act} {w : World} {ty : TypeId} {x : Operand} {ad : Addr} {cs : Array Value} {n : Nat} {e : TypeId} (ho : o.op = .load ty x) (hx : a.eval x = .pointer (some ad)) (hc : ∀ (j : Nat) v, cs.toList[j]? = some v → w.cell? (ad.add j) = some v)
    (hu : P.underlying ty = some (.array n e)) (hi : (P.info? ty).map (·.size) = some cs.size) : (execOp a.eval o).run P w = .ok (.value (.agg cs)) w := by
  have hl : (loadCells ad cs.toList.length).run P w = .ok cs.toList.toArray w := run_loadCells_list (P := P) w ad cs.toList hc
  cases hq : P.info? ty with
  | none => simp [hq] at hi
  | some i =>
    have hs : i.size = cs.size := by simpa [hq] using hi
    have hagg : (isAgg ty).run P w = .ok true w := by
      unfold isAgg
      rw [Sem.run_bind, run_underlying hu w]
      simp
    have hlv : (loadVar ty ad).run P w = .ok (.agg cs) w := by
      have hl' : (loadCells ad cs.size).run P w = .ok cs w := by simpa using hl
      simp [loadVar, Sem.run_bind, hagg, sizeOf, typeInfo, hq, hs, hl']
    unfold execOp
    simp only [ho, hx, Instr.loadAt, Instr.sureAddr, Sem.run_bind, Sem.run_pure, Result.andThen_ok, hlv]
/-- copy(row, bytes). -/
theorem exec_copy {P : Program} {o : Oper} {a : Act} {s x : Operand} {t u : TypeId} {v y : Value} (w : World) (ho : o.op = .call { callee := .builtin .copy, args := #[s, x], argTypes := #[t, u] }) (hs : a.eval s = v) (hx : a.eval x = y)
    {v' : Value} {w' : World} (hr : (Builtin.copy_ #[t, u] o.type #[v, y]).run P w = .ok v' w') : (execOp a.eval o).run P w = .ok (.value v') w' := by
  unfold execOp
  simp only [ho, resolve, invoke, builtin, Sem.run_bind, Sem.run_pure, Result.andThen_ok, List.map_toArray, List.map_cons, List.map_nil, hs, hx, hr]
theorem got_cells {w : World} {pb : Nat} {ad : Addr} {c : Nat} {v : List UInt8} (h : Got w pb (some ad) c v) {cs : Array Value} (hc : cs.toList = v.map vu8) : ∀ (j : Nat) u, cs.toList[j]? = some u → w.cell? (ad.add j) = some u := by
  intro j u hj
  rw [hc, List.getElem?_map] at hj
  obtain ⟨b, hb, rfl⟩ := Option.map_eq_some_iff.1 hj
  obtain ⟨ad', e, _, hcell⟩ := Sl.byte h hb
  injection e with e
  subst e
  exact hcell
theorem Below.row {B g : Nat} {w W : World} (h : Below B w W) (hg : B ≤ g) (cs : Array Value) : Below B w (W.setRow g cs) := below_setRow h hg cs
theorem zA_size : zA.size = 32 := rfl
theorem zA_one : zA.all (·.oneCell') = true := bytes_one zA_list
set_option maxHeartbeats 4000000 in
set_option maxRecDepth 100000 in
theorem RHash_calls (w : World) (pb : Nat) (s : St) (h : Rd w pb s) (ti : Int) (t : UInt8) (ht : ti = (t.toNat : Int)) : Calls Try.prog 75 #[.pointer (some ⟨pb, 0, none⟩), .int .u8 ti] w fun e w' => (∃ cs : Array Value, e = .returned (.agg cs) ∧ Fact (cs.toList = (rH s t).1.map vu8)) ∧ Fact (Rd w' pb (rH s t).2) ∧ Below pb w w' := by
  have H := Fact.mk h
  have HT := Fact.mk ht
  have HPB := Fact.mk h.1
  clear h ht
  have hiz := hash_i zA_size
  have HIZ := Fact.mk hiz
  clear hiz
  go_enter Try.func75, Try.ntmps75
  go_wp2_with (go_at_call 73; fail)
  refine (RBytes_calls _ pb s (H.out.move ((Below.refl _ _).alloc (Nat.le_refl _) (.cells zA 89))) ti t HT.out).mono ?_
  rintro e w1 ⟨A, c, rfl, hg, hr, hb⟩
  have HR0 : Fact (w1.heap[w.heap.size]? = some (.cells zA 89)) := ⟨by rw [hb.2 w.heap.size (by simp) (by have := HPB.out; omega)]; exact heap_new _ _⟩
  have HB1 : Fact (Below pb w w1) := ⟨((Below.refl _ _).alloc (Nat.le_of_lt HPB.out) _).trans hb.1⟩
  have HS1 : Fact (w.heap.size < w1.heap.size) := ⟨by have := hb.1.size; simp at this; omega⟩
  obtain ⟨x, hx⟩ : ∃ x, rB s t = x := ⟨_, rfl⟩
  have HXX := Fact.mk hx
  rw [hx] at hg hr ⊢
  clear hx hb
  obtain ⟨v, s'⟩ := x
  have HG := Fact.mk hg.out
  have HR := Fact.mk hr.out
  clear hg hr
  simp only
  have HRm : Fact (∀ W, Below (pb + 1) w1 W → Rd W pb s') := ⟨fun W hW => HR.out.moveLe hW⟩
  have hpb1 : pb + 1 ≤ w.heap.size := HPB.out
  have HP1 := Fact.mk hpb1
  have HBA : Fact (Below (pb + 1) w1 (w1.alloc (.cells zA 89))) := ⟨(Below.refl _ _).alloc (by have := HP1.out; have := HS1.out; omega) _⟩
  have HRA : Fact ((w1.alloc (.cells zA 89)).heap[w.heap.size]? = some (.cells zA 89)) := ⟨by rw [Below.heap_alloc _ _ _ HS1.out]; exact HR0.out⟩
  by_cases hv : v = []
  · subst hv
    have HH : Fact (rH s t = (Z32, s')) := ⟨by unfold rH; rw [HXX.out]; simp⟩
    clear hpb1
    go_wp2_with (first
      | (refine wpList_load_row rfl 89 (.tmp 6) rfl w1.heap.size rfl 89 zA (0, 0) _ (heap_new w1 _) hash_u rfl HIZ.out ?_)
      | (refine wpList_store_row rfl 89 (.tmp 4) (.tmp 30) rfl w.heap.size zA rfl rfl 89 zA HRA.out HIZ.out rfl zA_one ?_))
    refine bodyPost_ret (results_cell_row (fn := Try.f75) rfl _ _ w.heap.size 89 zA (0, 0) _ rfl (setRow_heap _ _ _ _ _ _ HRA.out) hash_u rfl HIZ.out) rfl ?_
    rw [HH.out]
    have hbl : Below (pb + 1) w1 ((w1.alloc (.cells zA 89)).setRow w.heap.size zA) := Below.row HBA.out HP1.out _
    exact ⟨⟨zA, rfl, ⟨zA_list⟩⟩, ⟨HRm.out _ hbl⟩, HB1.out.trans (hbl.mono (Nat.le_succ _))⟩
  · have hv0 : 0 < v.length := List.length_pos_iff.2 hv
    obtain ⟨ad, rfl, _⟩ := HG.out.some_ hv0
    obtain ⟨n, hn⟩ : ∃ n, v.length = n := ⟨_, rfl⟩
    rw [hn]
    have k0 : ((n : Int) == 0) = false := by simp; omega
    have HNV := Fact.mk hn
    have HV := Fact.mk hv
    clear hpb1
    by_cases h32 : n = 32
    · subst h32
      obtain ⟨cs, hcs⟩ : ∃ cs : Array Value, cs.toList = v.map vu8 := ⟨(v.map vu8).toArray, rfl⟩
      have HCS := Fact.mk hcs
      have heq := eq_hash arr_u arr_c arr_k cs zA v Z32 hcs zA_list hn Z32_len
      unfold zA at heq
      have harr : ∀ W : World, (Instr.arrayAt 88 (.slice (some ad) 32 c)).run Try.prog W = .ok (.pointer (some ad)) W := fun W => by simp [Instr.arrayAt, run_underlying arr_u]
      have HI8 := Fact.mk (arr_i (bytes_size hcs hn))
      have HI9 := Fact.mk (hash_i (bytes_size hcs hn))
      have HGC : Fact (∀ (j : Nat) u, cs.toList[j]? = some u → (w1.alloc (.cells zA 89)).cell? (ad.add j) = some u) := ⟨got_cells (Got.move HG.out (HBA.out.mono (Nat.le_succ _))) hcs⟩
      clear hv hv0 hcs hn
      by_cases hz : v = Z32
      · have hb : (v == Z32) = true := by simpa using hz
        rw [hb] at heq
        have HH : Fact (rH s t = (Z32, rFail s' 7)) := ⟨by unfold rH; rw [HXX.out]; simp only; rw [if_neg HV.out, if_pos (.inr hz)]⟩
        clear hz hb
        go_wp2_with (first
          | (go_at_call 72; fail)
          | (refine wpList_okG rfl (exec_load rfl rfl HGC.out arr_u HI8.out) ?_))
        refine (RFail_calls _ pb s' (HRm.out _ HBA.out) 7).mono ?_
        rintro e w3 ⟨rfl, hr, hb⟩
        have HR3 : Fact (w3.heap[w.heap.size]? = some (.cells zA 89)) := ⟨by rw [hb.2 _ (by have := HS1.out; simp; omega) (by have := HP1.out; omega)]; exact HRA.out⟩
        have HG3 : Fact (w3.heap[w1.heap.size]? = some (.cells zA 89)) := ⟨by rw [hb.2 _ (by simp) (by have := HP1.out; have := HS1.out; omega)]; exact heap_new _ _⟩
        have HRF := Fact.mk hr.out
        have HB3 : Fact (Below pb w w3) := ⟨HB1.out.trans ((HBA.out.mono (Nat.le_succ _)).trans hb.1)⟩
        clear hr hb
        go_wp2_with (first
          | (refine wpList_load_row rfl 89 (.tmp 6) rfl w1.heap.size rfl 89 zA (0, 0) _ HG3.out hash_u rfl HIZ.out ?_)
          | (refine wpList_store_row rfl 89 (.tmp 4) (.tmp 30) rfl w.heap.size zA rfl rfl 89 zA HR3.out HIZ.out rfl zA_one ?_))
        refine bodyPost_ret (results_cell_row (fn := Try.f75) rfl _ _ w.heap.size 89 zA (0, 0) _ rfl (setRow_heap _ _ _ _ _ _ HR3.out) hash_u rfl HIZ.out) rfl ?_
        rw [HH.out]
        exact ⟨⟨zA, rfl, ⟨zA_list⟩⟩, ⟨HRF.out.moveLe (Below.row (Below.refl _ _) HP1.out _)⟩, HB3.out.trans (Below.row (Below.refl _ _) (by have := HP1.out; omega) _)⟩
      · have hb : (v == Z32) = false := by simpa using hz
        rw [hb] at heq
        have HH : Fact (rH s t = (v, s')) := ⟨by unfold rH; rw [HXX.out]; simp only; rw [if_neg HV.out, if_neg (by rw [not_or]; exact ⟨by have := HNV.out; omega, hz⟩)]⟩
        have HCP : Fact (∀ ty, (Builtin.copy_ #[22, 22] ty #[.slice (some ⟨w1.heap.size, 0, none⟩) 32 32, .slice (some ad) 32 c]).run Try.prog (w1.alloc (.cells zA 89)) = .ok (goInt 32) ((w1.alloc (.cells zA 89)).setRow w1.heap.size cs)) := ⟨fun ty => by
          have hl : cs.toList.length = 32 := by rw [HCS.out, List.length_map, HNV.out]
          have := run_copy_row (P := Try.prog) (w1.alloc (.cells zA 89)) 22 22 ty 5 w1.heap.size 0 32 32 ad 32 c zA 89 cs.toList Try.underlying22 (by kernel_rfl) (heap_new _ _) (by rw [hl]; rfl) HGC.out (by rw [hl]; decide) (fun u hu => (Array.all_eq_true_iff_forall_mem.1 (bytes_one HCS.out)) u (by simpa using hu))
          rw [hl] at this
          rw [this]
          congr 2
          rw [List.drop_of_length_le (by decide)]
          simp⟩
        have HRB : Fact (((w1.alloc (.cells zA 89)).setRow w1.heap.size cs).heap[w.heap.size]? = some (.cells zA 89)) := ⟨by rw [setRow_other _ _ _ _ (by have := HS1.out; omega)]; exact HRA.out⟩
        have HGB : Fact (((w1.alloc (.cells zA 89)).setRow w1.heap.size cs).heap[w1.heap.size]? = some (.cells cs 89)) := ⟨setRow_heap _ _ _ _ _ _ (heap_new _ _)⟩
        have HSZ : Fact (zA.size = cs.size) := ⟨by rw [zA_size, bytes_size HCS.out HNV.out]⟩
        clear hz hb
        go_wp2_with (first
          | (refine wpList_okG rfl (exec_load rfl rfl HGC.out arr_u HI8.out) ?_)
          | (refine wpList_ok rfl (exec_copy _ rfl rfl rfl (HCP.out _)) ?_)
          | (refine wpList_load_row rfl 89 (.tmp 6) rfl w1.heap.size rfl 89 cs (0, 0) _ HGB.out hash_u rfl HI9.out ?_)
          | (refine wpList_store_row rfl 89 (.tmp 4) (.tmp 30) rfl w.heap.size cs rfl rfl 89 zA HRB.out HI9.out HSZ.out (bytes_one HCS.out) ?_))
        refine bodyPost_ret (results_cell_row (fn := Try.f75) rfl _ _ w.heap.size 89 cs (0, 0) _ rfl (setRow_heap _ _ _ _ _ _ HRB.out) hash_u rfl HI9.out) rfl ?_
        rw [HH.out]
        have hbl : Below (pb + 1) w1 (((w1.alloc (.cells zA 89)).setRow w1.heap.size cs).setRow w.heap.size cs) := Below.row (Below.row HBA.out (by have := HP1.out; have := HS1.out; omega) _) HP1.out _
        exact ⟨⟨cs, rfl, HCS⟩, ⟨HRm.out _ hbl⟩, HB1.out.trans (hbl.mono (Nat.le_succ _))⟩
    · have k1 : ((n : Int) != 32) = true := by simp; omega
      have HH : Fact (rH s t = (Z32, rFail s' 7)) := ⟨by unfold rH; rw [HXX.out]; simp only; rw [if_neg HV.out, if_pos (.inl (by omega))]⟩
      clear hv hv0 h32 hn
      go_wp2_with (go_at_call 72; fail)
      refine (RFail_calls _ pb s' (HRm.out _ HBA.out) 7).mono ?_
      rintro e w3 ⟨rfl, hr, hb⟩
      have HR3 : Fact (w3.heap[w.heap.size]? = some (.cells zA 89)) := ⟨by rw [hb.2 _ (by have := HS1.out; simp; omega) (by have := HP1.out; omega)]; exact HRA.out⟩
      have HG3 : Fact (w3.heap[w1.heap.size]? = some (.cells zA 89)) := ⟨by rw [hb.2 _ (by simp) (by have := HP1.out; have := HS1.out; omega)]; exact heap_new _ _⟩
      have HRF := Fact.mk hr.out
      have HB3 : Fact (Below pb w w3) := ⟨HB1.out.trans ((HBA.out.mono (Nat.le_succ _)).trans hb.1)⟩
      clear hr hb
      go_wp2_with (first
        | (refine wpList_load_row rfl 89 (.tmp 6) rfl w1.heap.size rfl 89 zA (0, 0) _ HG3.out hash_u rfl HIZ.out ?_)
        | (refine wpList_store_row rfl 89 (.tmp 4) (.tmp 30) rfl w.heap.size zA rfl rfl 89 zA HR3.out HIZ.out rfl zA_one ?_))
      refine bodyPost_ret (results_cell_row (fn := Try.f75) rfl _ _ w.heap.size 89 zA (0, 0) _ rfl (setRow_heap _ _ _ _ _ _ HR3.out) hash_u rfl HIZ.out) rfl ?_
      rw [HH.out]
      exact ⟨⟨zA, rfl, ⟨zA_list⟩⟩, ⟨HRF.out.moveLe (Below.row (Below.refl _ _) HP1.out _)⟩, HB3.out.trans (Below.row (Below.refl _ _) (by have := HP1.out; omega) _)⟩
end Go.Proofs.Ytjjcjdefenbnjaa.ParcelD
