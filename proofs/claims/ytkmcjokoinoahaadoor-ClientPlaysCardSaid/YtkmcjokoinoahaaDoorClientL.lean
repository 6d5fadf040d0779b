/- law 11's vals; what an Act is in memory: contracts over any world. -/
import Derived.Test.YtkmcjokoinoahaaDoorClientK
import Derived.Laws.Shifts
set_option linter.unusedVariables false
set_option linter.unusedSimpArgs false
namespace Go.Proofs.YtkmcjokoinoahaaDoor.ClientL
open Go.RowKit Go.Proofs.YtkmcjokoinoahaaDoor.Lib Go.Proofs.YtkmcjokoinoahaaDoor.LibB Go.Proofs.YtkmcjokoinoahaaDoor.Reg Go.Proofs.YtkmcjokoinoahaaDoor.RegC Go.Proofs.YtkmcjokoinoahaaDoor.RegD Go.Proofs.YtkmcjokoinoahaaDoor.PlainS Go.Proofs.YtkmcjokoinoahaaDoor.ShaB Go.Proofs.YtkmcjokoinoahaaDoor.ShaC Go.Proofs.YtkmcjokoinoahaaDoor.ShaD Go.Proofs.YtkmcjokoinoahaaDoor.ShaDS Go.Proofs.YtkmcjokoinoahaaDoor.ShaE Go.Proofs.YtkmcjokoinoahaaDoor.PlainP Go.Proofs.YtkmcjokoinoahaaDoor.ParcelB Go.Proofs.YtkmcjokoinoahaaDoor.SealA Go.Proofs.YtkmcjokoinoahaaDoor.SealB Go.Proofs.YtkmcjokoinoahaaDoor.ClientA
/-- What vals answers. -/
def valsL (n : Nat) : List UInt8 := [1, lo n, lo (n / 256)] ++ List.replicate 29 0
theorem valsL_len (n : Nat) : (valsL n).length = 32 := by simp [valsL]
def valsA (x y : Int) : Array Value := ([Value.int .u8 1, Value.int .u8 x, Value.int .u8 y] ++ List.replicate 29 (Value.int .u8 0)).toArray
theorem built_vals (x y : Int) : Tryd.prog.built 52 [(0, .int .u8 1), (1, .int .u8 x), (2, .int .u8 y)] = some (valsA x y) := by kernel_rfl
theorem valsA_eq (n : Nat) : (valsA ((lo n).toNat : Int) ((lo (n / 256)).toNat : Int)).toList = (valsL n).map vu8 := by
  unfold valsA valsL vu8
  simp
set_option maxHeartbeats 1000000 in
set_option maxRecDepth 100000 in
theorem vals_calls (w : World) (n : Nat) (hn : n < 18446744073709551616) : Calls Tryd.prog 31 #[.int .u64 (n : Int)] w fun e w' => (∃ ds : Array Value, e = .returned (.agg ds) ∧ Fact (ds.toList = (valsL n).map vu8)) ∧ Below w.heap.size w w' := by
  have HDV := Fact.mk (valsA_eq n)
  have HBU := Fact.mk (built_vals ((lo n).toNat : Int) ((lo (n / 256)).toNat : Int))
  have hc1 : IntKind.u8.wrap (n : Int) = ((lo n).toNat : Int) := by rw [IntKind.wrap_u8, lo_int]
  have hc2 : IntKind.u8.wrap ((n / 256 : Nat) : Int) = ((lo (n / 256)).toNat : Int) := by rw [IntKind.wrap_u8, lo_int]
  have hs1 : (n : Int) / 256 = ((n / 256 : Nat) : Int) := by omega
  have hs2 : (n : Int) / 2 ^ 8 = ((n / 256 : Nat) : Int) := by omega
  obtain ⟨m, hm⟩ : ∃ m, n / 256 = m := ⟨_, rfl⟩
  rw [hm] at HDV HBU hc2 hs1 hs2
  obtain ⟨x, hx⟩ : ∃ x, (lo n).toNat = x := ⟨_, rfl⟩
  obtain ⟨y, hy⟩ : ∃ y, (lo m).toNat = y := ⟨_, rfl⟩
  rw [hx] at HDV HBU hc1
  rw [hy] at HDV HBU hc2
  clear hm hx hy
  obtain ⟨dv, hdv⟩ : ∃ dv, valsA (x : Int) (y : Int) = dv := ⟨_, rfl⟩
  rw [hdv] at HDV HBU
  clear hdv
  have HA : Fact ((w.alloc (.cells (bArr []) 52)).heap[w.heap.size]? = some (.cells (bArr []) 52 (0, 0))) := ⟨heap_alloc_new _ _⟩
  have HSZ : Fact (dv.size = 32) := ⟨bytes_size HDV.out (valsL_len n)⟩
  have HI : Fact ((Tryd.prog.info? 52).map (·.size) = some dv.size) := ⟨hash_i HSZ.out⟩
  have HZ : Fact ((bArr []).size = dv.size) := ⟨by rw [HSZ.out]; rfl⟩
  have HB : Fact (Below w.heap.size w (w.alloc (.cells (bArr []) 52))) := ⟨(Below.refl _ _).alloc (Nat.le_refl _) _⟩
  go_enter Tryd.func31, Tryd.ntmps31
  go_wp2_with (first
    | (refine wpList_ok rfl (ShaB.exec_alloc rfl (alloc_b _)) ?_)
    | (refine wpList_ok rfl (HdKit.exec_build rfl (by simp only [List.map_toArray, List.map_cons, List.map_nil]; rfl) HBU.out) ?_)
    | (refine wpList_store_row rfl 52 (.tmp 2) (.tmp 8) rfl w.heap.size dv rfl rfl 52 (bArr []) HA.out HI.out HZ.out (bytes_one HDV.out) ?_))
  refine bodyPost_ret (results_cell_row (fn := Tryd.f31) rfl _ _ w.heap.size 52 dv (0, 0) _ rfl (setRow_heap _ _ _ _ _ _ HA.out) hash_u rfl HI.out) rfl ?_
  exact ⟨⟨_, rfl, HDV⟩, below_setRow HB.out (Nat.le_refl _) _⟩
/-- A call of the script. -/
structure Ac where
  kd : Nat
  wh : Nat
  h : Hd
  n : Nat
  sl : Bool
structure Ac.ok (a : Ac) : Prop where
  kd : a.kd < 256
  wh : a.wh < 256
  h : a.h.ok
  n : a.n < 18446744073709551616
def acC (a : Ac) : List Value := [.int .u8 (a.kd : Int), .int .u8 (a.wh : Int)] ++ (hdC a.h ++ [.int .u64 (a.n : Int), .bool a.sl])
theorem acC_len {a : Ac} (k : a.ok) : (acC a).length = 134 := by simp [acC, HdKit.hdC_len k.h]
theorem acC_part {a : Ac} (k : a.ok) {o : Nat} (ho : o + 32 ≤ 130) {r : List Value} (h : ((hdC a.h).drop o).take 32 = r) : ((acC a).drop (2 + o)).take 32 = r := by
  have hl := HdKit.hdC_len k.h
  rw [← h]
  unfold acC
  rw [← List.drop_drop]
  have e : ([Value.int .u8 (a.kd : Int), Value.int .u8 (a.wh : Int)] ++ (hdC a.h ++ [Value.int .u64 (a.n : Int), Value.bool a.sl])).drop 2 = hdC a.h ++ [Value.int .u64 (a.n : Int), Value.bool a.sl] := rfl
  rw [e, List.drop_append_of_le_length (by omega), List.take_append_of_le_length (by rw [List.length_drop]; omega)]
theorem ac_parts {a : Ac} (k : a.ok) {cs : Array Value} (hcs : cs.toList = acC a) {w : World} {b : Nat} {t : TypeId} (hr : w.heap[b]? = some (.cells cs t (0, 0))) :
    w.cell? ⟨b, 0, none⟩ = some (.int .u8 (a.kd : Int)) ∧ w.cell? ⟨b, 1, none⟩ = some (.int .u8 (a.wh : Int)) ∧ w.cell? ⟨b, 2, none⟩ = some (.int .u64 (a.h.ht : Int)) ∧ w.cell? ⟨b, 3, none⟩ = some (.int .u64 (a.h.tm : Int)) ∧
      w.rangeAt b 4 (a.h.root.map vu8) ∧ w.rangeAt b 36 (a.h.vals.map vu8) ∧ w.rangeAt b 68 (a.h.next.map vu8) ∧ w.rangeAt b 100 (a.h.sel.map vu8) ∧ w.cell? ⟨b, 132, none⟩ = some (.int .u64 (a.n : Int)) ∧ w.cell? ⟨b, 133, none⟩ = some (.bool a.sl) := by
  have hc : ∀ (j : Nat) v, (acC a)[j]? = some v → w.cell? ⟨b, j, none⟩ = some v := fun j v hj => row_cell hr (by rw [← hcs] at hj; simpa using hj)
  have hp := hdC_parts k.h
  have hl := HdKit.hdC_len k.h
  have he : ∀ i, i < 2 → (acC a)[132 + i]? = ([.int .u64 (a.n : Int), .bool a.sl] : List Value)[i]? := by
    intro i hi
    unfold acC
    rw [List.getElem?_append_right (by simp; omega), List.getElem?_append_right (by simp [hl]; omega)]
    congr 1
    simp [hl]
    omega
  exact ⟨hc 0 _ rfl, hc 1 _ rfl, hc 2 _ rfl, hc 3 _ rfl, part_range hc (acC_part k (by decide) hp.1), part_range hc (acC_part k (by decide) hp.2.1), part_range hc (acC_part k (by decide) hp.2.2.1), part_range hc (acC_part k (by decide) hp.2.2.2), hc 132 _ (he 0 (by decide)), hc 133 _ (he 1 (by decide))⟩
theorem ac_i {cs : Array Value} {a : Ac} (k : a.ok) (h : cs.toList = acC a) : (Tryd.prog.info? 70).map (·.size) = some cs.size := by rw [← Array.length_toList, h, acC_len k]; kernel_rfl
/-- A header built without its seal. -/
theorem built_hd5 (h : Hd) (k : h.ok) (hz : h.sel = Z32) (c d e : Array Value) (hc : c.toList = h.root.map vu8) (hd : d.toList = h.vals.map vu8) (he : e.toList = h.next.map vu8) :
    Tryd.prog.built 54 [(0, .int .u64 (h.ht : Int)), (1, .int .u64 (h.tm : Int)), (2, .agg c), (3, .agg d), (4, .agg e)] = some (hdC h).toArray := by
  have l1 : (h.root.map vu8).length = 32 := by rw [List.length_map, k.root]
  have l2 : (h.vals.map vu8).length = 32 := by rw [List.length_map, k.vals]
  have l3 : (h.next.map vu8).length = 32 := by rw [List.length_map, k.next]
  rw [HdKit.built_eq]
  have hzl := HdKit.zHd_len
  have e0 : HdKit.zHdA = ([] ++ HdKit.zHd).toArray := rfl
  rw [e0, HdKit.fill_app (x := [.int .u64 (h.ht : Int)]) (by rfl) (by rfl) (by simp [hzl])]
  rw [HdKit.fill_app (x := [.int .u64 (h.tm : Int)]) (by rfl) (by rfl) (by simp [hzl])]
  rw [HdKit.fill_app (v := .agg c) (x := h.root.map vu8) (by rw [l1]; rfl) hc (by simp only [List.length_map, k.root, List.length_drop, hzl, List.length_cons, List.length_nil]; decide)]
  rw [HdKit.fill_app (v := .agg d) (x := h.vals.map vu8) (by rw [l2, List.length_append, l1]; rfl) hd (by simp only [List.length_map, k.root, k.vals, List.length_drop, hzl, List.length_cons, List.length_nil]; decide)]
  rw [HdKit.fill_app (v := .agg e) (x := h.next.map vu8) (by rw [l3, List.length_append, List.length_append, l1, l2]; rfl) he (by simp only [List.length_map, k.root, k.vals, k.next, List.length_drop, hzl, List.length_cons, List.length_nil]; decide)]
  unfold Instr.fill
  congr 1
  rw [l1, l2, l3]
  have ez : (((((HdKit.zHd.drop [Value.int .u64 (h.ht : Int)].length).drop [Value.int .u64 (h.tm : Int)].length).drop 32).drop 32).drop 32) = h.sel.map vu8 := by rw [hz]; rfl
  rw [ez]
  unfold hdC
  simp
end Go.Proofs.YtkmcjokoinoahaaDoor.ClientL
