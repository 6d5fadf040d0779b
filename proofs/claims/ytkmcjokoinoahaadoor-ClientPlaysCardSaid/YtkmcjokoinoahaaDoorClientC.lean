/- client: Latest, Status: contracts over any world. -/
import Derived.Test.YtkmcjokoinoahaaDoorClientB
set_option linter.unusedVariables false
set_option linter.unusedSimpArgs false
namespace Go.Proofs.YtkmcjokoinoahaaDoor.ClientC
open Go.RowKit Go.Proofs.YtkmcjokoinoahaaDoor.Lib Go.Proofs.YtkmcjokoinoahaaDoor.LibB Go.Proofs.YtkmcjokoinoahaaDoor.Reg Go.Proofs.YtkmcjokoinoahaaDoor.RegC Go.Proofs.YtkmcjokoinoahaaDoor.PlainS Go.Proofs.YtkmcjokoinoahaaDoor.ShaB Go.Proofs.YtkmcjokoinoahaaDoor.ShaC Go.Proofs.YtkmcjokoinoahaaDoor.ShaD Go.Proofs.YtkmcjokoinoahaaDoor.ShaDS Go.Proofs.YtkmcjokoinoahaaDoor.ShaE Go.Proofs.YtkmcjokoinoahaaDoor.PlainP Go.Proofs.YtkmcjokoinoahaaDoor.ParcelB Go.Proofs.YtkmcjokoinoahaaDoor.SealA Go.Proofs.YtkmcjokoinoahaaDoor.SealB Go.Proofs.YtkmcjokoinoahaaDoor.ClientA Go.Proofs.YtkmcjokoinoahaaDoor.ClientB Go.Proofs.YtkmcjokoinoahaaDoor.FaultB Go.Proofs.YtkmcjokoinoahaaDoor.FaultC Go.Proofs.YtkmcjokoinoahaaDoor.FaultD
theorem Cl.at_ {w : World} {B cb p : Nat} {l : List Stt} {fz : Bool} (h : Cl w B cb p l fz) {i : Nat} {s : Stt} (hi : l[i]? = some s) :
    ∃ ad c, w.cell? ⟨cb, 0, none⟩ = some (.int .u64 (p : Int)) ∧ w.cell? ⟨cb, 1, none⟩ = some (.slice (some ad) l.length c) ∧ w.cell? ⟨cb, 2, none⟩ = some (.bool fz) ∧ B ≤ ad.block ∧ ad.block < w.heap.size ∧ s.ok ∧ l.length ≤ 9223372036854775807 ∧ (∀ (j : Nat) u, (stC s)[j]? = some u → w.cell? ((ad.add (i * 98)).add j) = some u) := by
  obtain ⟨h1, h2, v, hr, ho, hn⟩ := h
  obtain ⟨A, c, rfl, hs⟩ := ho.sl
  obtain ⟨ad, cs, rfl, hf, ⟨rfl, hk⟩, hcell⟩ := hs.at_ hi
  have hb : B ≤ ad.block ∧ ad.block < w.heap.size := by
    rcases hf with hf | hf
    · exact hf.elim
    · exact ho.lt _ hf
  refine ⟨ad, c, row_cell hr rfl, row_cell hr rfl, row_cell hr rfl, hb.1, hb.2, hk, Nat.le_trans hs.le hs.max_, fun j u hj => ?_⟩
  rw [add_add']
  exact hcell j u hj
theorem neq_nil (e : Ch) (w : World) : (binOp .neq 27 (vOf e) .nilIface).run Tryd.prog w = .ok (.bool true) w := by
  obtain ⟨t, v, h⟩ := vOf_iface e
  rw [h]
  have hu := Tryd.underlying27
  have h : ∀ d : Nat, (Op.equalIn (d + 1) 27 (.iface t v) .nilIface).run Tryd.prog w = .ok false w := fun d => by simp [Op.equalIn, run_underlying hu]
  simp only [binOp]
  simp [Op.equal, Op.maxDepth, h 9999]
theorem guard_neq (e : Ch) (t : TypeId) (x y : Operand) : eqGuard .neq t x y (vOf e) .nilIface = pure () := by
  obtain ⟨u, v, h⟩ := vOf_iface e
  rw [h]
  rfl
/-- What an error's value says: its number; 0: nil; its Step's block is from B on. -/
def Er (B : Nat) (v : Value) (w : World) (c : Int) : Prop := c = 0 ∧ v = .nilIface ∨ c ≠ 0 ∧ ∃ b s n, B ≤ b ∧ v = vOf (.step b s n (.num c)) ∧ In w w.heap.size (.step b s n (.num c))
theorem Er.above {B : Nat} {v : Value} {w w' : World} {c : Int} (h : Er B v w c) (hb : ∀ k, B ≤ k → k < w.heap.size → w'.heap[k]? = w.heap[k]?) (hs : w.heap.size ≤ w'.heap.size) : Er B v w' c := by
  rcases h with h | ⟨h, b, s, n, hB, hv, h1, h2, h3, h4, -⟩
  · exact .inl h
  · exact .inr ⟨h, b, s, n, hB, hv, Nat.lt_of_lt_of_le h1 hs, (cell_same (hb b hB h1)).trans h2, (cell_same (hb b hB h1)).trans h3, (cell_same (hb b hB h1)).trans h4, trivial⟩
theorem Er.move {B : Nat} {v : Value} {w w' : World} {c : Int} (h : Er B v w c) (hb : Below w.heap.size w w') : Er B v w' c := h.above (fun k _ hk => hb.block k hk) hb.size
theorem Er.low {B B' : Nat} {v : Value} {w : World} {c : Int} (h : Er B v w c) (hb : B' ≤ B) : Er B' v w c := by
  rcases h with h | ⟨h, b, s, n, hB, hv, hi⟩
  · exact .inl h
  · exact .inr ⟨h, b, s, n, Nat.le_trans hb hB, hv, hi⟩
theorem Er.code {B : Nat} {v : Value} {w : World} {c : Int} (h : Er B v w c) (hg : Laid w) : Calls Tryd.prog 19 #[v] w fun ev w' => ev = .returned (.int .i64 c) ∧ Below w.heap.size w w' := by
  rcases h with ⟨rfl, rfl⟩ | ⟨h, b, s, n, -, rfl, hi⟩
  · exact Code_nil w
  · exact Code_calls w _ _ hi hg (Nat.le_refl _)
theorem At_num (w : World) (s : ByteArray) (n c : Int) (hc : c ≠ 0) : Calls Tryd.prog 23 #[.string s, .int .i64 n, .iface 24 (.int .i64 c)] w fun ev w' => ∃ v, ev = .returned v ∧ Fact (Er w.heap.size v w' c) ∧ Below w.heap.size w w' := by
  refine (At_calls w 0 s n (.num c) trivial (Nat.zero_le _)).mono ?_
  rintro ev w' ⟨rfl, hi, rfl⟩
  exact ⟨_, rfl, ⟨.inr ⟨hc, _, _, _, Nat.le_refl _, rfl, by simpa using hi.out⟩⟩, (Below.refl _ _).alloc (Nat.le_refl _) _⟩
set_option maxHeartbeats 4000000 in
set_option maxRecDepth 100000 in
theorem Latest_calls (w : World) (B cb p : Nat) (l : List Stt) (fz : Bool) (h : Cl w B cb p l fz) (m : Nat) (hm : l.length = m + 1) (s : Stt) (hs : l[m]? = some s) :
    Calls Tryd.prog 35 #[.pointer (some ⟨cb, 0, none⟩)] w fun e w' => e = .returned (.int .u64 (s.ht : Int)) ∧ ∃ q, w' = w.drewN q := by
  obtain ⟨ad, c, c0, c1, c2, hb1, hb2, hk, hlm, hc⟩ := Cl.at_ h hs
  rw [hm] at c1 hlm
  have hwm : IntKind.i64.wrap (m : Int) = m := by rw [IntKind.wrap_i64]; omega
  have e1 : (((m + 1 : Nat) : Int)) - 1 = (m : Int) := by omega
  have e2 : (m : Int) < (m : Int) + 1 := by omega
  have k0 := hc 0 _ rfl
  have k1 := hc 1 _ rfl
  clear hc hs hm h hk
  go_enter Tryd.func35, Tryd.ntmps35
  go_wp2_with fail
  have C1 : Fact (∀ q, (w.drewN q).cell? ⟨cb, 1, none⟩ = some (.slice (some ad) (m + 1) c)) := ⟨fun q => c1⟩
  have K0 : Fact (∀ q, (w.drewN q).cell? (ad.add (m * 98)) = some (.int .u64 (s.ht : Int))) := ⟨fun q => by rw [← k0, add_zero']; rfl⟩
  clear c0 c1 c2 k0 k1
  refine wp_region_S (fun W => ∃ q, W = w.drewN q) ((List.range 14).map fun i => (i, true)) (by kernel_rfl) (by kernel_rfl) (by kernel_rfl) rfl rfl (by intro c a d v w h; cases d <;> exact h) ⟨1, rfl⟩ ?_
  simp only [pick, List.range, List.range.loop, List.map_cons, List.map_nil, List.filterMap_cons, List.filterMap_nil, Option.map_some, List.getElem?_toArray, List.getElem?_cons_zero, List.getElem?_cons_succ]
  iterate 14
    (apply seq_tell rfl
     · intro w2 hS
       obtain ⟨q, rfl⟩ := hS
       have c1 := C1.out q
       have k0 := K0.out q
       go_simp
       first | done | rfl
     simp only [Act.put, List.setIfInBounds_toArray, List.set_cons_succ, List.set_cons_zero])
  unfold wpSeqS
  go_wp2_with fail
  go_ret
  exact ⟨rfl, 1, rfl⟩
theorem Latest_nil (w : World) : Calls Tryd.prog 35 #[.pointer none] w fun e w' => e = .returned (.int .u64 0) ∧ w' = w := by
  go_enter Tryd.func35, Tryd.ntmps35
  go_wp2_with fail
  go_ret
  exact ⟨rfl, rfl⟩
theorem Heights_nil (w : World) : Calls Tryd.prog 34 #[.pointer none] w fun e w' => e = .returned (.slice none 0 0) ∧ w' = w := by
  go_enter Tryd.func34, Tryd.ntmps34
  go_wp2_with fail
  go_ret
  exact ⟨rfl, rfl⟩
theorem Status_nil (w : World) (n : Nat) : Calls Tryd.prog 36 #[.pointer none, .int .u64 (n : Int)] w fun e w' => ∃ v, e = .returned v ∧ Fact (Er w.heap.size v w' 1) ∧ Below w.heap.size w w' := by
  go_enter Tryd.func36, Tryd.ntmps36
  go_wp2_with (go_at_call 23; fail)
  refine (At_num _ _ _ 1 (by decide)).mono ?_
  rintro ev w2 ⟨v, rfl, he, hb⟩
  have HB := Fact.mk hb
  clear hb
  go_wp2_with fail
  go_ret
  exact ⟨v, rfl, he, HB.out⟩
set_option maxHeartbeats 4000000 in
set_option maxRecDepth 100000 in
theorem Root_nil (w : World) (n : Nat) : Calls Tryd.prog 37 #[.pointer none, .int .u64 (n : Int)] w fun e w' => ∃ v, e = .returned (.tuple #[.agg (bArr []), v]) ∧ Fact (Er w.heap.size v w' 1) ∧ Below w.heap.size w w' := by
  go_enter Tryd.func37, Tryd.ntmps37
  have HR0 : Fact ((w.alloc (.cells (bArr []) 52)).heap[w.heap.size]? = some (.cells (bArr []) 52 (0, 0))) := ⟨heap_alloc_new _ _⟩
  have HB0 : Fact (Below w.heap.size w (w.alloc (.cells (bArr []) 52))) := ⟨(Below.refl _ _).alloc (Nat.le_refl _) _⟩
  go_wp2_with (first
    | (refine wpList_ok rfl (exec_alloc rfl (alloc_b _)) ?_)
    | (go_at_call 23; fail))
  have HS1 : Fact ((w.alloc (.cells (bArr []) 52)).heap.size = w.heap.size + 1) := ⟨by simp⟩
  generalize w.alloc (.cells (bArr []) 52) = w1 at HR0 HB0 HS1 ⊢
  refine (At_num w1 _ _ 1 (by decide)).mono ?_
  rintro ev w2 ⟨v, rfl, he, hb⟩
  have HR2 : Fact (w2.heap[w.heap.size]? = some (.cells (bArr []) 52 (0, 0))) := ⟨(hb.block _ (Array.getElem?_eq_some_iff.1 HR0.out).1).trans HR0.out⟩
  have HB2 : Fact (Below w.heap.size w w2) := ⟨HB0.out.trans (hb.mono HB0.out.size)⟩
  clear hb
  have HBI : Fact ((Tryd.prog.info? 52).map (·.size) = some (bArr []).size) := ⟨hash_i (bArr_size (by decide))⟩
  go_wp2_with (refine wpList_store_row rfl 52 (.tmp 4) (.tmp 10) rfl w.heap.size (bArr []) rfl rfl 52 (bArr []) HR2.out HBI.out rfl (bArr_one _) ?_)
  have hE : Er w.heap.size v (w2.setRow w.heap.size (bArr [])) 1 := (he.out.above (w' := w2.setRow w.heap.size (bArr [])) (fun k hk _ => setRow_other _ _ _ _ (by have := HS1.out; omega)) (by simp)).low (by have := HS1.out; omega)
  refine bodyPost_ret (HdKit.results_cell_tmp (fn := Tryd.f37) rfl _ _ w.heap.size 52 (bArr []) (0, 0) _ rfl (setRow_heap _ _ _ _ _ _ HR2.out) hash_u rfl HBI.out) rfl ?_
  exact ⟨v, rfl, ⟨hE⟩, below_setRow HB2.out (Nat.le_refl _) _⟩
set_option maxHeartbeats 4000000 in
set_option maxRecDepth 100000 in
theorem Update_nil (w : World) (cs : Array Value) (n : Nat) : Calls Tryd.prog 33 #[.pointer none, .agg cs, .int .u64 (n : Int)] w fun e w' => ∃ v, e = .returned v ∧ Fact (Er w.heap.size v w' 1) ∧ Below w.heap.size w w' := by
  go_enter Tryd.func33, Tryd.ntmps33
  have HB0 : Fact (Below w.heap.size w (w.alloc (.cells cs 54))) := ⟨(Below.refl _ _).alloc (Nat.le_refl _) _⟩
  go_wp2_with (go_at_call 36; fail)
  generalize w.alloc (.cells cs 54) = w1 at HB0 ⊢
  refine (Status_nil w1 n).mono ?_
  rintro ev w2 ⟨v, rfl, he, hb⟩
  have HB2 : Fact (Below w.heap.size w w2) := ⟨HB0.out.trans (hb.mono HB0.out.size)⟩
  clear hb
  obtain ⟨h0, -⟩ | ⟨-, b, s, m, hbb, rfl, hi⟩ := he.out
  · cases h0
  have en := neq_nil (.step b s m (.num 1))
  have gn := guard_neq (.step b s m (.num 1))
  have HE := Fact.mk (he.out.low HB0.out.size)
  clear he hi hbb
  generalize vOf (.step b s m (.num 1)) = v at en gn HE ⊢
  go_wp2_with fail
  go_ret
  exact ⟨v, rfl, HE, HB2.out⟩
end Go.Proofs.YtkmcjokoinoahaaDoor.ClientC
