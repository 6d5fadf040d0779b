/- slices.Sort at uint64, the library's own text: cmp.Less, insertion sort. An array in a block; contracts over any world. -/
import Derived.Test.YtkmcjokoinoahaaDoorMBase
import Derived.Sort.LotA
import Derived.BigGuard
import Derived.BigCall
import Derived.CellFam
import Derived.BigRegion
import Derived.Deep.Draws
set_option linter.unusedVariables false
set_option linter.unusedSimpArgs false
namespace Go.Proofs.YtkmcjokoinoahaaDoor.SortA
open Go.RowKit Go.Proofs.YtkmcjokoinoahaaDoor.Lib
open Go.Sort (swp insInner insOuter insertionSort)
def vn (n : Nat) : Value := .int .u64 (n : Int)
def ltN (x y : Nat) : Bool := decide (x < y)
/-- An array of numbers in block g from off on; the block has N cells. -/
def Arr (w : World) (g off : Nat) (d : Array Nat) (N : Nat) : Prop :=
  ∃ C : Array Value, w.heap[g]? = some (.cells C 50 (0, 0)) ∧ C.size = N ∧ off + d.size ≤ N ∧ ∀ j, j < d.size → C[off + j]? = some (vn d[j]!)
theorem rowc {w : World} {g j : Nat} {C : Array Value} {t : TypeId} {v : Value} (h : w.heap[g]? = some (.cells C t (0, 0))) (hv : C[j]? = some v) : w.cell? ⟨g, j, none⟩ = some v := (cell_of_row w g j C t (0, 0) h).trans hv
section
variable {w w' : World} {g off N : Nat} {d : Array Nat}
theorem Arr.cell (h : Arr w g off d N) {j : Nat} (hj : j < d.size) : w.cell? ⟨g, off + j, none⟩ = some (vn d[j]!) := by
  obtain ⟨C, hC, hN, hle, hc⟩ := h
  exact rowc hC (hc j hj)
theorem Arr.free (h : Arr w g off d N) (o : Nat) : w.frozen? ⟨g, o, none⟩ = false := by
  obtain ⟨C, hC, hN, hle, hc⟩ := h
  exact frozen_of_row w g o C _ hC
theorem Arr.lt (h : Arr w g off d N) : g < w.heap.size := by
  obtain ⟨C, hC, -⟩ := h
  exact (Array.getElem?_eq_some_iff.1 hC).1
theorem Arr.move (h : Arr w g off d N) (hb : w'.heap[g]? = w.heap[g]?) : Arr w' g off d N := by
  obtain ⟨C, hC, r⟩ := h
  exact ⟨C, hb.trans hC, r⟩
theorem Arr.drewN (h : Arr w g off d N) (q : Nat) : Arr (w.drewN q) g off d N := h.move rfl
theorem get_swp (d : Array Nat) {i j k : Nat} (hi : i < d.size) (hj : j < d.size) (hk : k < d.size) : (swp d i j)[k]! = if k = j then d[i]! else if k = i then d[j]! else d[k]! := by
  by_cases h2 : k = j
  · rw [if_pos h2, h2, Go.Sort.swp_right d i j hj]
  · rw [if_neg h2]
    by_cases h1 : k = i
    · subst h1
      rw [if_pos rfl, Go.Sort.swp_left d k j hi h2]
    · rw [if_neg h1, Go.Sort.swp_other d i j k h1 h2]
theorem Arr.swap (h : Arr w g off d N) {i j : Nat} (hi : i < d.size) (hj : j < d.size) : Arr ((w.setCell ⟨g, off + i, none⟩ (vn d[j]!)).setCell ⟨g, off + j, none⟩ (vn d[i]!)) g off (swp d i j) N := by
  obtain ⟨C, hC, hN, hle, hc⟩ := h
  refine ⟨_, heap_setCell_same _ _ _ _ _ _ (heap_setCell_same _ _ _ _ _ _ hC), by simp [hN], by rw [Go.Sort.size_swp]; exact hle, fun k hk => ?_⟩
  rw [Go.Sort.size_swp] at hk
  rw [get_swp d hi hj hk, Array.getElem?_setIfInBounds]
  by_cases h2 : k = j
  · subst h2
    rw [if_pos rfl, if_pos rfl, if_pos (by simp; omega)]
  · rw [if_neg (by omega), if_neg h2, Array.getElem?_setIfInBounds]
    by_cases h1 : k = i
    · subst h1
      rw [if_pos rfl, if_pos rfl, if_pos (by omega)]
    · rw [if_neg (by omega), if_neg h1]
      exact hc k hk
end
theorem grown_set {a b : World} {g : Nat} (h : a.grownBy b (some g)) (o : Nat) (v : Value) : a.grownBy (b.setCell ⟨g, o, none⟩ v) (some g) := by
  have hb := (Below.refl g b).setCell (p := ⟨g, o, none⟩) (Nat.le_refl _) v
  exact ⟨hb.os.trans h.os, hb.tape.trans h.tape, hb.output.trans h.output, Nat.le_trans h.size hb.size, fun k hk hne => (heap_setCell_other _ _ _ _ (by intro e; exact hne (by rw [e]))).trans (h.block k hk hne)⟩
theorem grown_drewN {a b : World} {r : Option Nat} (h : a.grownBy b r) (q : Nat) : a.grownBy (b.drewN q) r := ⟨h.os, h.tape, h.output, h.size, h.block⟩
theorem grown_trans {a b c : World} {r : Option Nat} (h : a.grownBy b r) (k : b.grownBy c r) : a.grownBy c r :=
  ⟨k.os.trans h.os, k.tape.trans h.tape, k.output.trans h.output, Nat.le_trans h.size k.size, fun i hi hne => (k.block i (Nat.lt_of_lt_of_le hi h.size) hne).trans (h.block i hi hne)⟩
theorem grown_refl (w : World) (r : Option Nat) : w.grownBy w r := World.grownBy.refl w r
theorem NaN_calls (w : World) (x : Nat) : Calls Tryd.prog 117 #[.int .u64 (x : Int)] w fun e w' => e = .returned (.bool false) ∧ w' = w := by
  go_enter Tryd.func117, Tryd.ntmps117
  go_wp2
  go_ret
  exact ⟨rfl, rfl⟩
theorem Less_calls (w : World) (x y : Nat) : Calls Tryd.prog 106 #[.int .u64 (x : Int), .int .u64 (y : Int)] w fun e w' => e = .returned (.bool (ltN x y)) ∧ w' = w := by
  obtain ⟨b, hb⟩ : ∃ b, ltN x y = b := ⟨_, rfl⟩
  have h1 : decide ((x : Int) < (y : Int)) = b := by rw [← hb]; unfold ltN; exact decide_eq_decide.2 (by omega)
  have h2 : decide (x < y) = b := hb
  rw [hb]
  clear hb
  go_enter Tryd.func106, Tryd.ntmps106
  go_wp2_with (go_at_call 117; refine (NaN_calls _ _).mono ?_; rintro e w' ⟨rfl, rfl⟩)
  go_ret
  exact ⟨rfl, rfl⟩
end Go.Proofs.YtkmcjokoinoahaaDoor.SortA
