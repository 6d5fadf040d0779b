/- A law's arguments opened: what the form reads as data, as slices that are read (Sl). Over any program. -/
import Derived.Test.YtkmcjokoinoahaaDoorMBase
import Derived.ProofKit
import Derived.OpenShut
import Derived.Deep.Slices
set_option linter.unusedVariables false
set_option linter.unusedSimpArgs false
namespace Go.Proofs.YtkmcjokoinoahaaDoor.Open
open Go.ChangeShapes Go.WideShapes Go.ChangeAt Go.RowKit Go.Proofs.YtkmcjokoinoahaaDoor.Lib
section
variable {H : Type} {enc : TypeId × Value → H} {P : Program} {w : World}
theorem wf_u8 {z : Int} (h : (Lit.int .u8 z).wf = true) : 0 ≤ z ∧ z ≤ 255 := by simpa [Lit.wf, IntKind.signed, IntKind.bits, IntKind.min, IntKind.max] using h
theorem wf_u16 {z : Int} (h : (Lit.int .u16 z).wf = true) : 0 ≤ z ∧ z ≤ 65535 := by simpa [Lit.wf, IntKind.signed, IntKind.bits, IntKind.min, IntKind.max] using h
theorem wf_u64 {z : Int} (h : (Lit.int .u64 z).wf = true) : 0 ≤ z ∧ z ≤ 18446744073709551615 := by simpa [Lit.wf, IntKind.signed, IntKind.bits, IntKind.min, IntKind.max] using h
theorem wf_i64 {z : Int} (h : (Lit.int .i64 z).wf = true) : -9223372036854775808 ≤ z ∧ z ≤ 9223372036854775807 := by simpa [Lit.wf, IntKind.signed, IntKind.bits, IntKind.min, IntKind.max] using h
theorem byte_of (z : Int) (h : (Lit.int .u8 z).wf = true) : ((UInt8.ofNat z.toNat).toNat : Int) = z := by
  have h' := wf_u8 h
  rw [UInt8.toNat_ofNat']
  omega
/-- []byte. -/
theorem open_bytes {t e : TypeId} {v : Value} {d : DataW H} {p : List MemPlace} {r : Reach} {b0 : Nat} (ht : P.underlying t = some (.slice e)) (he : P.underlying e = some (.int .u8)) (hC : P.cellsOf e = 1) (hv : Value.okWide P w r b0 t v) (h : DataW.Trod enc P w 0 (fun _ => true) true t v d p) :
    ∃ (a : Option Addr) (n c : Nat) (l : List UInt8), v = .slice a n c ∧ Sl rU8 w (fun k => k < w.heap.size) a n c l := by
  obtain ⟨a, n, c, rfl⟩ := okWide_slice ht hv
  obtain ⟨fuel, hf⟩ := h
  rcases open_ints ht he hC hf with ⟨hcs, _⟩ | ⟨x, l, c', zs, hcs, _, hl, hm, hz, _, hcell, hwz⟩
  · simp [Value.cells] at hcs
    obtain ⟨rfl, rfl, rfl⟩ := hcs
    exact ⟨none, 0, 0, [], rfl, Sl.nil _ _ _ _ _ (by omega)⟩
  · simp [Value.cells] at hcs
    obtain ⟨rfl, rfl, rfl⟩ := hcs
    simp only [if_true] at hz
    simp only [maxLen] at hm
    refine ⟨_, _, _, (zs.take n).map fun z => UInt8.ofNat z.toNat, rfl, hl, hm, by rw [List.length_map, List.length_take]; omega, fun hn => ⟨x, rfl, ?_, fun i b hi => ⟨[vu8 b], rfl, fun j u hj => ?_⟩⟩⟩
    · have := lt_of_cell (hcell 0 (by omega))
      rwa [Lib.block_add] at this
    · match j, hj with
      | 0, hj =>
        simp at hj
        subst hj
        simp only [List.getElem?_map, Option.map_eq_some_iff] at hi
        obtain ⟨z, hzi, rfl⟩ := hi
        rw [List.getElem?_take] at hzi
        split at hzi
        · rename_i hin
          obtain ⟨hlz, hze⟩ := List.getElem?_eq_some_iff.1 hzi
          have hc := hcell i hlz
          rw [List.getD_eq_getElem?_getD, hzi] at hc
          simp only [Option.getD_some] at hc
          show w.cell? (x.add (i * 1 + 0)) = _
          rw [Nat.mul_one, Nat.add_zero, hc]
          unfold vu8
          rw [byte_of z (hwz z (hze ▸ List.getElem_mem hlz))]
        · cases hzi

/-- What the form reads as a value of type t is what r says of its cells. -/
def Opens {α : Type} (enc : TypeId × Value → H) (P : Program) (w : World) (t : TypeId) (r : Rep α) : Prop :=
  ∀ fuel cs x, DataW.trod enc P w 0 (fun _ => true) true fuel t cs = some x → ∃ a : α, r.K w (fun k => k < w.heap.size) a cs
theorem Opens.u8 {t : TypeId} (ht : P.underlying t = some (.int .u8)) : Opens enc P w t rU8 := by
  intro fuel cs x h
  obtain ⟨n, rfl, -, hw⟩ := DataW.trod_int ht h
  refine ⟨UInt8.ofNat n.toNat, ?_⟩
  show [Value.int .u8 n] = [vu8 _]
  unfold vu8
  rw [byte_of n hw]
theorem Opens.u64 {t : TypeId} (ht : P.underlying t = some (.int .u64)) : Opens enc P w t rU64 := by
  intro fuel cs x h
  obtain ⟨n, rfl, -, hw⟩ := DataW.trod_int ht h
  have hb := wf_u64 hw
  refine ⟨UInt64.ofNat n.toNat, ?_⟩
  show [Value.int .u64 n] = [Value.int .u64 ((UInt64.ofNat n.toNat).toNat : Int)]
  have : ((UInt64.ofNat n.toNat).toNat : Int) = n := by
    rw [UInt64.toNat_ofNat']
    omega
  rw [this]
theorem Opens.i64 {t : TypeId} (ht : P.underlying t = some (.int .i64)) : Opens enc P w t rI64 := by
  intro fuel cs x h
  obtain ⟨n, rfl, -, hw⟩ := DataW.trod_int ht h
  have hb := wf_i64 hw
  refine ⟨Int64.ofInt n, ?_⟩
  show [Value.int .i64 n] = [Value.int .i64 (Int64.ofInt n).toInt]
  rw [Int64.toInt_ofInt_of_le (by omega) (by omega)]
theorem Opens.bool {t : TypeId} (ht : P.underlying t = some .bool) : Opens enc P w t rBool := by
  intro fuel cs x h
  obtain ⟨b, rfl, -⟩ := DataW.trod_bool ht h
  exact ⟨b, rfl⟩
theorem Opens.str {t : TypeId} (ht : P.underlying t = some .string) : Opens enc P w t rStr := by
  intro fuel cs x h
  obtain ⟨s, rfl, -, -⟩ := DataW.trod_string ht h
  exact ⟨s, rfl⟩
/-- A slice: what its cells are. -/
theorem Opens.row {α : Type} {r : Rep α} {t e : TypeId} (ht : P.underlying t = some (.slice e)) (hC : P.cellsOf e = r.sz) (hsz : 0 < r.sz) (he : Opens enc P w e r) {fuel : Nat} {cs : List Value} {x : DataW H × List MemPlace} (h : DataW.trod enc P w 0 (fun _ => true) true fuel t cs = some x) :
    ∃ (a : Option Addr) (n c : Nat) (xs : List α), cs = [.slice a n c] ∧ Sl r w (fun k => k < w.heap.size) a n c xs := by
  rcases Go.Deep.open_slice ht h with ⟨rfl, -⟩ | ⟨a, len, cap, m, n, D, Pl, rfl, -, hl, hm, hmm, -, hi⟩
  · exact ⟨none, 0, 0, [], rfl, Sl.nil _ _ _ _ _ (by omega)⟩
  · simp only [if_true] at hmm
    simp only [maxLen] at hm
    rw [hC] at hi
    rcases Nat.eq_zero_or_pos len with h0 | h0
    · subst h0
      exact ⟨some a, 0, cap, [], rfl, Sl.nil _ _ _ _ _ hm⟩
    · have hx : ∀ i : Nat, ∃ y : α, i < len → ∃ cs', r.K w (fun k => k < w.heap.size) y cs' ∧ ∀ j u, cs'[j]? = some u → w.cell? (a.add (i * r.sz + j)) = some u := by
        intro i
        by_cases hil : i < len
        · obtain ⟨cs', hc, hd⟩ := hi i (by omega)
          obtain ⟨y, hy⟩ := he _ _ _ hd
          obtain ⟨_, hcl, hat⟩ := World.cells?_some hc
          refine ⟨y, fun _ => ⟨cs', hy, fun j u hj => ?_⟩⟩
          have hjl : j < r.sz := by
            rw [← hcl]
            exact (List.getElem?_eq_some_iff.1 hj).1
          have := hat j hjl
          rw [add_add'] at this
          rw [this, hj]
        · obtain ⟨cs', hc, hd⟩ := hi 0 (by omega)
          obtain ⟨y, hy⟩ := he _ _ _ hd
          exact ⟨y, fun h => absurd h hil⟩
      let f : Nat → α := fun i => Classical.choose (hx i)
      have hf : ∀ i, i < len → ∃ cs', r.K w (fun k => k < w.heap.size) (f i) cs' ∧ ∀ j u, cs'[j]? = some u → w.cell? (a.add (i * r.sz + j)) = some u := fun i => Classical.choose_spec (hx i)
      refine ⟨some a, len, cap, (List.range len).map f, rfl, hl, hm, by simp, fun _ => ⟨a, rfl, ?_, fun i y hy => ?_⟩⟩
      · obtain ⟨cs', hk, hc⟩ := hf 0 h0
        have hl0 := r.len hk
        have := lt_of_cell (hc 0 cs'[0] (List.getElem?_eq_getElem (by omega)))
        rwa [Lib.block_add] at this
      · simp only [List.getElem?_map, Option.map_eq_some_iff] at hy
        obtain ⟨i', hi', rfl⟩ := hy
        have hin : i < len := by
          have := (List.getElem?_eq_some_iff.1 hi').1
          simpa using this
        rw [List.getElem?_range hin] at hi'
        injection hi' with hi'
        subst hi'
        exact hf i hin
theorem Opens.slice {α : Type} {r : Rep α} {t e : TypeId} (ht : P.underlying t = some (.slice e)) (hC : P.cellsOf e = r.sz) (hsz : 0 < r.sz) (he : Opens enc P w e r) : Opens enc P w t (Rep.slice r) := by
  intro fuel cs x h
  obtain ⟨a, n, c, xs, rfl, hs⟩ := Opens.row ht hC hsz he h
  have hl := hs.len
  subst hl
  exact ⟨xs, a, c, rfl, hs⟩
/-- Fields from an offset on. -/
def OpensFs {α : Type} (enc : TypeId × Value → H) (P : Program) (w : World) (fs : List Field) (off : Nat) (r : Rep α) : Prop :=
  ∀ (n : Nat) (cs : List Value), cs.length = off + r.sz → (∀ (i : Nat) (f : Field), fs[i]? = some f → ∃ y, DataW.trod enc P w 0 (fun _ => true) true n f.type ((cs.drop f.offset).take (P.cellsOf f.type)) = some y) → ∃ a : α, r.K w (fun k => k < w.heap.size) a (cs.drop off)
theorem OpensFs.nil (off : Nat) : OpensFs enc P w [] off rUnit := by
  intro n cs hl _
  refine ⟨(), ?_⟩
  show cs.drop off = []
  rw [List.drop_eq_nil_iff]
  exact Nat.le_of_eq hl
theorem OpensFs.cons {α β : Type} {f : Field} {fs : List Field} {off : Nat} {r : Rep α} {s : Rep β} (ho : f.offset = off) (hC : P.cellsOf f.type = r.sz) (h1 : Opens enc P w f.type r) (h2 : OpensFs enc P w fs (off + r.sz) s) : OpensFs enc P w (f :: fs) off (r.pair s) := by
  intro n cs hl h
  obtain ⟨y, hy⟩ := h 0 f rfl
  obtain ⟨a, ha⟩ := h1 _ _ _ hy
  obtain ⟨b, hb⟩ := h2 n cs (by rw [hl]; show off + (r.sz + s.sz) = _; omega) (fun i g hg => h (i + 1) g hg)
  refine ⟨(a, b), _, _, ?_, ha, hb⟩
  rw [ho, hC, ← List.drop_drop, List.take_append_drop]
theorem Opens.struct {α : Type} {r : Rep α} {t : TypeId} {fs : Array Field} (ht : P.underlying t = some (.struct fs)) (hC : P.cellsOf t = r.sz) (h : OpensFs enc P w fs.toList 0 r) : Opens enc P w t r := by
  intro fuel cs x hx
  obtain ⟨xs, n, -, -, hl, hn, hf⟩ := DataW.trod_struct ht hx
  have := h n cs (by omega) (fun i f hi => by
    have hi' : fs[i]? = some f := by simpa using hi
    have hlt : i < xs.length := by rw [hn]; exact (Array.getElem?_eq_some_iff.1 hi').1
    exact ⟨_, (hf i f hi').trans (List.getElem?_eq_getElem hlt)⟩)
  simpa using this
theorem Opens.by_ {α β : Type} {r : Rep α} {t : TypeId} (f : β → α) (g : α → β) (hg : ∀ a, f (g a) = a) (h : Opens enc P w t r) : Opens enc P w t (r.by_ f) := by
  intro fuel cs x hx
  obtain ⟨a, ha⟩ := h fuel cs x hx
  refine ⟨g a, ?_⟩
  show r.K w _ (f (g a)) cs
  rw [hg]
  exact ha
theorem Opens.array {α : Type} {r : Rep α} {t e : TypeId} {m : Nat} (ht : P.underlying t = some (.array m e)) (hC : P.cellsOf e = r.sz) (hT : P.cellsOf t = m * r.sz) (he : Opens enc P w e r) : Opens enc P w t (r.array m) := by
  intro fuel cs x hx
  obtain ⟨xs, n, -, -, hl, hn, hf⟩ := DataW.trod_array ht hx
  rw [hC] at hf
  have hy : ∀ i : Fin m, ∃ y : α, r.K w (fun k => k < w.heap.size) y ((cs.drop (i.val * r.sz)).take r.sz) := by
    intro i
    have h := hf i.val i.isLt
    rw [List.getElem?_eq_getElem (by omega)] at h
    exact he _ _ _ h
  let f : Fin m → α := fun i => Classical.choose (hy i)
  have hfs : ∀ i, r.K w (fun k => k < w.heap.size) (f i) ((cs.drop (i.val * r.sz)).take r.sz) := fun i => Classical.choose_spec (hy i)
  refine ⟨List.ofFn f, by simp, by omega, fun i y hi => ?_⟩
  rw [List.getElem?_ofFn] at hi
  split at hi
  · rename_i him
    injection hi with hi
    subst hi
    exact hfs ⟨i, him⟩
  · cases hi
/-- A parameter that is a slice. -/
theorem Opens.param {α : Type} {r : Rep α} {t e : TypeId} {v : Value} {d : DataW H} {p : List MemPlace} {rr : Reach} {b0 : Nat} (he : Opens enc P w e r) (ht : P.underlying t = some (.slice e)) (hC : P.cellsOf e = r.sz) (hsz : 0 < r.sz) (hv : Value.okWide P w rr b0 t v) (h : DataW.Trod enc P w 0 (fun _ => true) true t v d p) :
    ∃ (a : Option Addr) (n c : Nat) (xs : List α), v = .slice a n c ∧ Sl r w (fun k => k < w.heap.size) a n c xs := by
  obtain ⟨a, n, c, rfl⟩ := okWide_slice ht hv
  obtain ⟨fuel, hf⟩ := h
  obtain ⟨a', n', c', xs, e', hs⟩ := Opens.row ht hC hsz he hf
  simp only [Value.cells] at e'
  injection e' with e' _
  injection e' with e1 e2 e3
  subst e1 e2 e3
  exact ⟨a, n, c, xs, rfl, hs⟩
/-- A parameter that is a struct. -/
theorem Opens.paramS {α : Type} {r : Rep α} {t : TypeId} {v : Value} {d : DataW H} {p : List MemPlace} {rr : Reach} {b0 : Nat} {fs : Array Field} (ho : Opens enc P w t r) (ht : P.underlying t = some (.struct fs)) (hv : Value.okWide P w rr b0 t v) (h : DataW.Trod enc P w 0 (fun _ => true) true t v d p) :
    ∃ (cs : List Value) (x : α), v = .agg cs.toArray ∧ r.K w (fun k => k < w.heap.size) x cs := by
  obtain ⟨cs, rfl, -⟩ := okWide_struct ht hv
  obtain ⟨fuel, hf⟩ := h
  obtain ⟨x, hx⟩ := ho _ _ _ hf
  exact ⟨cs.toList, x, by simp, hx⟩
end
end Go.Proofs.YtkmcjokoinoahaaDoor.Open
