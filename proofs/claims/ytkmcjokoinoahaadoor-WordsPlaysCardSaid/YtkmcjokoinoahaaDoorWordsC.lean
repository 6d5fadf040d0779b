/- math/bits.TrailingZeros64: the place of the lowest bit, by the table that the statements lay. -/
import Derived.Test.YtkmcjokoinoahaaDoorPlainW
import Derived.OpenShut
import Derived.LaidLaws
import Derived.ChangeVars
set_option linter.unusedVariables false
set_option linter.unusedSimpArgs false
namespace Go.Proofs.YtkmcjokoinoahaaDoor.WordsC
open Go.RowKit Go.Proofs.YtkmcjokoinoahaaDoor.Lib Go.Proofs.YtkmcjokoinoahaaDoor.WordsA Go.Proofs.YtkmcjokoinoahaaDoor.PlainW
def dbL : List Nat := [0, 1, 56, 2, 57, 49, 28, 3, 61, 58, 42, 50, 38, 29, 17, 4, 62, 47, 59, 36, 45, 43, 51, 22, 53, 39, 33, 30, 24, 18, 12, 5, 63, 55, 48, 27, 60, 41, 37, 16, 46, 35, 44, 21, 52, 32, 23, 11, 54, 26, 40, 15, 34, 20, 31, 10, 25, 14, 19, 9, 13, 8, 7, 6]
def dbA : Array Value := (dbL.map fun x : Nat => Value.int .u8 (x : Int)).toArray
/-- The table lies. -/
def LaidB (w : World) : Prop := ∃ ty fr, w.heap[2]? = some (.cells dbA ty fr)
theorem LaidB.lt {w : World} (h : LaidB w) : 2 < w.heap.size := by
  obtain ⟨ty, fr, hh⟩ := h
  exact Go.lt_of_block hh
theorem LaidB.below {w w' : World} {B : Nat} (h : LaidB w) (hb : Below B w w') (hB : 2 < B) : LaidB w' := by
  obtain ⟨ty, fr, hh⟩ := h
  exact ⟨ty, fr, (hb.block _ hB).trans hh⟩
def dbI (b : Nat) : Nat := (2 ^ b * 285870213051353865 % 18446744073709551616) / 288230376151711744
theorem db_all : ∀ b : Fin 64, dbI b.val < 64 ∧ dbL[dbI b.val]? = some b.val := by decide +kernel
theorem LaidB.cell {w : World} (h : LaidB w) {b : Nat} (hb : b < 64) : w.cell? ⟨2, dbI b, none⟩ = some (.int .u8 (b : Int)) := by
  obtain ⟨ty, fr, hh⟩ := h
  have := (db_all ⟨b, hb⟩).2
  have hc := cell_of_row w 2 (dbI b) dbA ty fr hh
  rw [hc]
  unfold dbA
  rw [List.getElem?_toArray, List.getElem?_map, this]
  rfl
set_option maxHeartbeats 1000000 in
set_option maxRecDepth 100000 in
theorem TZ_calls (w : World) (hg : LaidB w) (x b m : Nat) (hx : x = 2 ^ b * (2 * m + 1)) (hl : x < 18446744073709551616) :
    Calls Tryd.prog 76 #[.int .u64 (x : Int)] w fun e w' => e = .returned (.int .i64 (b : Int)) ∧ w' = w := by
  have hb := low_lt hx hl
  have hx0 : x ≠ 0 := by
    rw [hx]
    have := Nat.two_pow_pos b
    have := Nat.mul_pos this (show 0 < 2 * m + 1 by omega)
    omega
  have hz : ((x : Int) == 0) = false := by simp; omega
  have han := and_neg hx hl
  obtain ⟨p, hp⟩ : ∃ p, 2 ^ b = p := ⟨_, rfl⟩
  obtain ⟨y, hy⟩ : ∃ y, 18446744073709551616 - x = y := ⟨_, rfl⟩
  rw [hp, hy] at han
  have hpl : p < 18446744073709551616 := by rw [← hp]; exact Nat.pow_lt_pow_right (n := 64) (by omega) hb
  have hcell := hg.cell hb
  have hr64 := (db_all ⟨b, hb⟩).1
  unfold dbI at hcell hr64
  simp only at hr64
  rw [hp] at hcell hr64
  obtain ⟨q, hq⟩ : ∃ q, p * 285870213051353865 % 18446744073709551616 = q := ⟨_, rfl⟩
  rw [hq] at hcell hr64
  obtain ⟨r, hr⟩ : ∃ r, q / 288230376151711744 = r := ⟨_, rfl⟩
  rw [hr] at hcell hr64
  have e1 : IntKind.u64.wrap (-(x : Int)) = (y : Int) := by rw [IntKind.wrap_u64]; omega
  have e2 : bits .and .u64 (x : Int) (y : Int) = (p : Int) := by rw [bits_and_u64_nat _ _ hl (by omega), han]
  have e3 : IntKind.u64.wrap ((p : Int) * 285870213051353865) = (q : Int) := by rw [IntKind.wrap_u64]; omega
  have e4 : (q : Int) / 288230376151711744 = (r : Int) := by omega
  clear hx han hp hy hq hr
  go_enter Tryd.func76, Tryd.ntmps76
  go_wp2
  go_ret
  exact ⟨rfl, rfl⟩
/-! The table, as the statements lay it. -/
theorem u8s_of_trod {H : Type} {enc : TypeId × Value → H} {P : Program} {w : World} {base : Nat} {sp : Nat → Bool} {held : Bool} {fuel m : Nat} {t e : TypeId} {cs : List Value} {ds : List (DataW H)} {p : List MemPlace} {ws : List Nat}
    (ht : P.underlying t = some (.array m e)) (he : P.underlying e = some (.int .u8)) (hC : P.cellsOf e = 1) (hT : P.cellsOf t = m) (hm : ws.length = m) (h : DataW.trod enc P w base sp held fuel t cs = some (.agg ds, p)) (hd : ds = ws.map fun x : Nat => .lit (.int .u8 (x : Int))) : cs = ws.map fun x : Nat => Value.int .u8 (x : Int) := by
  obtain ⟨xs, n, -, hx, hl, hn, hf⟩ := DataW.trod_array ht h
  injection hx with hx1 hx2
  injection hx1 with hx1
  have hxs : xs.map (·.1) = ws.map fun x : Nat => .lit (.int .u8 (x : Int)) := by rw [← hx1, hd]
  apply List.ext_getElem?
  intro i
  by_cases hi : i < m
  · have h1 := hf i hi
    rw [hC, Nat.mul_one, List.getElem?_eq_getElem (by omega)] at h1
    obtain ⟨z, hz, hy, hw⟩ := DataW.trod_int he h1
    have hcl : i < cs.length := by omega
    rw [List.drop_eq_getElem_cons hcl] at hz
    simp only [List.take_succ_cons, List.take_zero, List.cons.injEq, and_true] at hz
    have h2 : (xs.map (·.1))[i]? = some (.lit (.int .u8 z)) := by rw [List.getElem?_map, List.getElem?_eq_getElem (by omega), hy]; rfl
    rw [hxs, List.getElem?_map, List.getElem?_eq_getElem (by omega)] at h2
    simp only [Option.map_some, Option.some.injEq] at h2
    injection h2 with h2
    injection h2 with _ h2
    rw [List.getElem?_eq_getElem hcl, hz, List.getElem?_map, List.getElem?_eq_getElem (by omega), ← h2]
    rfl
  · rw [List.getElem?_eq_none (by omega), List.getElem?_eq_none (by simp; omega)]
theorem var_block {P : Program} {w : World} {n : String} {g : Nat} {cs : Array Value} (hg : P.globalNamed n = some g) (h : w.var? P n = some cs) : ∃ ty fr, w.heap[g]? = some (.cells cs ty fr) := by
  simp only [World.var?, hg, Option.bind_some] at h
  split at h
  · rename_i h1
    injection h with h
    subst h
    exact ⟨_, _, h1⟩
  · cases h
theorem tab_g : Tryd.prog.globalNamed "math/bits.deBruijn64tab" = some 2 := by kernel_rfl
theorem tab_t : (Tryd.prog.globals[2]?).map (·.type) = some 172 := by kernel_rfl
theorem laidB_of {W : World} {l : List (String × DataW Unit)} {ds : List (DataW Unit)} (h : laidMet Tryd.prog l W) (hm : ("math/bits.deBruijn64tab", DataW.agg ds) ∈ l) (hk : ds = dbL.map fun x : Nat => .lit (.int .u8 (x : Int))) : LaidB W := by
  obtain ⟨ps, hl, -, -⟩ := h
  induction l generalizing ps with
  | nil => cases hm
  | cons x r ih =>
    obtain ⟨n', d'⟩ := x
    obtain ⟨g', t', cs, fuel, p, q, e1, e2, e3, e4, e5, e6⟩ := hl
    rcases List.mem_cons.1 hm with hm | hm
    · injection hm with hm1 hm2
      subst hm1 hm2
      obtain rfl := Option.some.inj (tab_g.symm.trans e1)
      obtain ⟨ty, fr, hh⟩ := var_block tab_g e3
      obtain rfl := Option.some.inj (tab_t.symm.trans e2)
      have := u8s_of_trod (m := 64) (ws := dbL) Tryd.underlying172 Tryd.underlying5 (by kernel_rfl) (by kernel_rfl) rfl e4 hk
      refine ⟨ty, fr, ?_⟩
      rw [hh]
      congr 2
      apply Array.ext'
      rw [this]
      rfl
    · exact ih hm _ e5
end Go.Proofs.YtkmcjokoinoahaaDoor.WordsC
