/- words: numbers as bits of words, in a map behind a pointer: what its functions do to the map. -/
import Derived.Test.YtkmcjokoinoahaaDoorProg
import Derived.Test.YtkmcjokoinoahaaDoorMBase
import Derived.KernelRfl
import Derived.Maps.OwnSet
import Derived.Laws.Bits64b
import Derived.Laws.BitsAll
import Derived.Laws.Shifts
import Derived.WalkSpells
import Derived.BigQuiet
import Derived.Deep.QuietTactic
set_option linter.unusedVariables false
set_option linter.unusedSimpArgs false
namespace Go.Proofs.YtkmcjokoinoahaaDoor.WordsA
open Go.RowKit Go.Proofs.YtkmcjokoinoahaaDoor.Lib Go.Proofs.YtkmcjokoinoahaaDoor.Reg Go.Proofs.YtkmcjokoinoahaaDoor.RegB Go.Maps

abbrev U : TypeId := 50
abbrev M : TypeId := 135
theorem zero_u (w : World) : (zeroValue U).run Tryd.prog w = .ok (.int .u64 0) w := by kernel_rfl
theorem law : Keyed Tryd.prog U := int_keyed Tryd.underlying50
/-- A word's bits. -/
def wd (D : DataW Unit) (k : Nat) : Nat := match D.atKey (.int .u64 k) (.lit (.int .u64 0)) with | .lit (.int .u64 c) => c.toNat | _ => 0
/-- Words at block pb; the map in block mb reads as D. -/
structure Ws (w : World) (pb mb n : Nat) (D : DataW Unit) : Prop where
  cell : w.cell? ⟨pb, 0, none⟩ = some (.map (some mb))
  own : w.ownsMap Tryd.prog U (plainElem Tryd.prog U) mb n D
theorem wf_u {k : Nat} (hk : k < 18446744073709551616) : (Lit.int .u64 (k : Int)).wf = true := WalkArith.wf_u64 (by omega)
theorem key_u {k : Nat} (hk : k < 18446744073709551616) : keyOf Tryd.prog U (.int .u64 (k : Int)) = some (.int .u64 (k : Int)) := keyOf_int_mk Tryd.underlying50 (wf_u hk)
theorem Ws.look {w : World} {pb mb n : Nat} {D : DataW Unit} (h : Ws w pb mb n D) {k : Nat} (hk : k < 18446744073709551616) :
    (Instr.lookup M (.map (some mb)) (.int .u64 (k : Int)) false).run Tryd.prog w = .ok (.int .u64 (wd D k : Int)) w ∧ wd D k < 18446744073709551616 ∧ D.atKey (.int .u64 k) (.lit (.int .u64 0)) = .lit (.int .u64 (wd D k : Int)) := by
  obtain ⟨c, hrun, hat, hwf⟩ := h.own.lookup_int law Tryd.underlying135 Tryd.underlying50 (zero_u w) (key_u hk)
  have hb : 0 ≤ c ∧ c ≤ 18446744073709551615 := by simpa [Lit.wf, IntKind.signed, IntKind.bits, IntKind.min, IntKind.max] using hwf
  have hc : wd D k = c.toNat := by unfold wd; rw [hat]
  have hcc : (wd D k : Int) = c := by rw [hc]; omega
  refine ⟨by rw [hcc]; exact hrun, by omega, by rw [hcc]; exact hat⟩

set_option maxHeartbeats 1000000 in
set_option maxRecDepth 100000 in
theorem New_calls (w : World) : Calls Tryd.prog 45 #[] w fun e w' => ∃ pb mb, e = .returned (.pointer (some ⟨pb, 0, none⟩)) ∧ Fact (w.heap.size ≤ pb) ∧ Fact (w.heap.size ≤ mb) ∧ Fact (Ws w' pb mb 0 (.map [])) ∧ Below w.heap.size w w' := by
  have hmm := @run_makeMap Tryd.prog
  go_enter Tryd.func45, Tryd.ntmps45
  go_wp2
  go_ret
  refine ⟨_, w.heap.size, rfl, ⟨by omega⟩, ⟨Nat.le_refl _⟩, ⟨⟨by go_simp, (World.ownsMap_made _ _ _ _).alloc _⟩⟩, ((Below.refl _ _).alloc (Nat.le_refl _) _).alloc (by simp) _⟩
theorem Place_calls (w : World) (n : Nat) (hn : 1 ≤ n) (hn2 : n < 18446744073709551616) : Calls Tryd.prog 73 #[.int .u64 (n : Int)] w fun e w' => e = .returned (.tuple #[.int .u64 (((n - 1) / 64 : Nat) : Int), .int .i64 (((n - 1) % 64 : Nat) : Int)]) ∧ w' = w := by
  have h1 : IntKind.u64.wrap ((n : Int) - 1) = ((n - 1 : Nat) : Int) := by rw [IntKind.wrap_u64]; omega
  go_enter Tryd.func73, Tryd.ntmps73
  go_wp2
  go_ret2
  refine ⟨?_, rfl⟩
  rw [show (((n - 1) / 64 : Nat) : Int) = ((n - 1 : Nat) : Int) / 64 by omega, show (((n - 1) % 64 : Nat) : Int) = ((n - 1 : Nat) : Int) % 64 by omega]
  rfl
theorem Place_zero (w : World) : Calls Tryd.prog 73 #[.int .u64 0] w fun e w' => e = .returned (.tuple #[.int .u64 288230376151711743, .int .i64 63]) ∧ w' = w := by
  go_enter Tryd.func73, Tryd.ntmps73
  go_wp2
  go_ret2
  exact ⟨by simp [IntKind.wrap_u64, wrap64], rfl⟩
theorem Place_calls' (w : World) (n : Nat) (k b : Nat) (hn : 1 ≤ n) (hn2 : n < 18446744073709551616) (hk : (n - 1) / 64 = k) (hb : (n - 1) % 64 = b) : Calls Tryd.prog 73 #[.int .u64 (n : Int)] w fun e w' => e = .returned (.tuple #[.int .u64 (k : Int), .int .i64 (b : Int)]) ∧ w' = w := by
  subst hk hb
  exact Place_calls w n hn hn2
/-- Is number n there? -/
def hasB (D : DataW Unit) (n : Nat) : Bool := (wd D ((n - 1) / 64)).testBit ((n - 1) % 64)
theorem bit_and (x b : Nat) (hx : x < 18446744073709551616) : (bits .and .u64 ((x : Int) / 2 ^ b) 1 == 1) = x.testBit b := by
  have h1 : ((x : Int) / 2 ^ b) = ((x / 2 ^ b : Nat) : Int) := by simp
  have h2 : x / 2 ^ b < 18446744073709551616 := Nat.lt_of_le_of_lt (Nat.div_le_self _ _) hx
  rw [h1, show (1 : Int) = ((1 : Nat) : Int) from rfl, bits_and_u64_nat _ _ h2 (by omega), Nat.and_one_is_mod, Nat.testBit_eq_decide_div_mod_eq]
  rw [Bool.eq_iff_iff]
  simp
  omega
theorem bit_or (x b : Nat) (hx : x < 18446744073709551616) (hb : b < 64) : bits .or .u64 (x : Int) (IntKind.u64.wrap (2 ^ b)) = ((x ||| 2 ^ b : Nat) : Int) := by
  have h1 : (2 : Nat) ^ b < 2 ^ 64 := Nat.pow_lt_pow_right (by omega) hb
  rw [show (2 : Int) ^ b = ((2 ^ b : Nat) : Int) by simp]
  generalize (2 : Nat) ^ b = p at h1 ⊢
  have h2 : IntKind.u64.wrap (p : Int) = (p : Int) := by
    rw [IntKind.wrap_u64]
    omega
  rw [h2, bits_or_u64_nat _ _ hx (by omega)]
set_option maxHeartbeats 1000000 in
set_option maxRecDepth 100000 in
theorem Has_calls (w : World) (pb mb N : Nat) (D : DataW Unit) (n : Nat) (h : Ws w pb mb N D) (hn : 1 ≤ n) (hn2 : n < 18446744073709551616) : Calls Tryd.prog 50 #[.pointer (some ⟨pb, 0, none⟩), .int .u64 (n : Int)] w fun e w' => e = .returned (.bool (hasB D n)) ∧ ∃ q, w' = w.drewN q := by
  obtain ⟨k, hk⟩ : ∃ k, (n - 1) / 64 = k := ⟨_, rfl⟩
  obtain ⟨b, hb⟩ : ∃ b, (n - 1) % 64 = b := ⟨_, rfl⟩
  have hbl : b < 64 := by omega
  have hkl : k < 18446744073709551616 := by omega
  obtain ⟨h1, h2, h3⟩ := h.look hkl
  unfold hasB
  rw [hk, hb]
  generalize wd D k = x at h1 h2 ⊢
  have hc := h.cell
  have hnz : ((n : Int) == 0) = false := by simp; omega
  have hb0 : (0 : Int) ≤ b := by omega
  have hb1 : (b : Int) < 64 := by omega
  have hmin : min b 64 = b := by omega
  go_enter Tryd.func50, Tryd.ntmps50
  go_wp2_with (go_at_call 73; refine (Place_calls' _ n k b hn hn2 hk hb).mono ?_; rintro e w1 ⟨rfl, rfl⟩)
  go_ret
  exact ⟨by rw [← bit_and x b h2]; rfl, 0, rfl⟩
set_option maxHeartbeats 1000000 in
set_option maxRecDepth 100000 in
theorem Word_calls (w : World) (pb mb N : Nat) (D : DataW Unit) (k : Nat) (h : Ws w pb mb N D) (hk : k < 18446744073709551616) : Calls Tryd.prog 56 #[.pointer (some ⟨pb, 0, none⟩), .int .u64 (k : Int)] w fun e w' => e = .returned (.int .u64 (wd D k : Int)) ∧ ∃ q, w' = w.drewN q := by
  obtain ⟨h1, h2, h3⟩ := h.look hk
  have hc := h.cell
  go_enter Tryd.func56, Tryd.ntmps56
  go_wp2
  go_ret
  exact ⟨rfl, 0, rfl⟩
set_option maxHeartbeats 1000000 in
set_option maxRecDepth 100000 in
theorem Len_calls (w : World) (pb mb N : Nat) (D : DataW Unit) (h : Ws w pb mb N D) : Calls Tryd.prog 49 #[.pointer (some ⟨pb, 0, none⟩)] w fun e w' => e = .returned (.int .i64 (Maps.size D : Int)) ∧ ∃ q, w' = w.drewN q := by
  have hc := h.cell
  have hl := fun ty => h.own.len Tryd.underlying135 ty
  go_enter Tryd.func49, Tryd.ntmps49
  go_wp2
  go_ret
  exact ⟨rfl, 0, rfl⟩
theorem Ws.ne {w : World} {pb mb N : Nat} {D : DataW Unit} (h : Ws w pb mb N D) : pb ≠ mb := by
  intro he
  obtain ⟨es, clock, hb, _⟩ := h.own
  have hc := h.cell
  subst he
  simp [World.cell?, hb] at hc
theorem Ws.move {w w' : World} {pb mb N : Nat} {D : DataW Unit} (h : Ws w pb mb N D) (h1 : w'.heap[pb]? = w.heap[pb]?) (h2 : w'.heap[mb]? = w.heap[mb]?) : Ws w' pb mb N D := by
  refine ⟨(cell_same h1).trans h.cell, ?_⟩
  obtain ⟨es, clock, hb, F, hs, hD⟩ := h.own
  exact ⟨es, clock, h2.trans hb, F, hs, hD⟩
theorem Ws.lt {w : World} {pb mb N : Nat} {D : DataW Unit} (h : Ws w pb mb N D) : pb < w.heap.size ∧ mb < w.heap.size := ⟨lt_of_cell h.cell, h.own.lt⟩
theorem Ws.quiet {w w' : World} {pb mb N : Nat} {D : DataW Unit} (h : Ws w pb mb N D) (hw : ∃ q, w' = w.drewN q) : Ws w' pb mb N D := by
  obtain ⟨q, rfl⟩ := hw
  exact h.move rfl rfl
/-- What a store leaves. -/
def Turned (w w' : World) (mb : Nat) : Prop := w.grownBy w' (some mb)
theorem Turned.lo {w w' : World} {mb B : Nat} (h : Turned w w' mb) (h1 : B ≤ mb) (h2 : B ≤ w.heap.size) : Below B w w' :=
  (Below.refl B w).grown h h2 (by intro c hc; injection hc with hc; omega)
theorem turned_drew {w : World} {mb : Nat} (q : Nat) : Turned w (w.drewN q) mb := ⟨rfl, rfl, rfl, Nat.le_refl _, fun _ _ _ => rfl⟩
theorem turned_trans {w w1 w2 : World} {mb : Nat} (h : Turned w w1 mb) (k : w1.grownBy w2 (some mb)) : Turned w w2 mb :=
  ⟨k.os.trans h.os, k.tape.trans h.tape, k.output.trans h.output, Nat.le_trans h.size k.size, fun i hi hne => (k.block i (Nat.lt_of_lt_of_le hi h.size) hne).trans (h.block i hi hne)⟩
set_option maxHeartbeats 1000000 in
set_option maxRecDepth 100000 in
theorem Put_new (w : World) (pb mb N : Nat) (D : DataW Unit) (n : Nat) (h : Ws w pb mb N D) (hn : 1 ≤ n) (hn2 : n < 18446744073709551616) (hN : N ≤ 4294967296) (hh : hasB D n = false) : Calls Tryd.prog 46 #[.pointer (some ⟨pb, 0, none⟩), .int .u64 (n : Int)] w fun e w' => e = .returned (.bool true) ∧
    Fact (Ws w' pb mb (N + 1) (D.put (.int .u64 (((n - 1) / 64 : Nat) : Int)) (.lit (.int .u64 ((wd D ((n - 1) / 64) ||| 2 ^ ((n - 1) % 64) : Nat) : Int))))) ∧ Turned w w' mb := by
  obtain ⟨k, hk⟩ : ∃ k, (n - 1) / 64 = k := ⟨_, rfl⟩
  obtain ⟨b, hb⟩ : ∃ b, (n - 1) % 64 = b := ⟨_, rfl⟩
  have hbl : b < 64 := by omega
  have hkl : k < 18446744073709551616 := by omega
  have hnz : ((n : Int) == 0) = false := by simp; omega
  have hb0 : (0 : Int) ≤ b := by omega
  have hb1 : (b : Int) < 64 := by omega
  have hmin : min b 64 = b := by omega
  rw [hk, hb]
  obtain ⟨x, hx⟩ : ∃ x, wd D k = x := ⟨_, rfl⟩
  rw [hx]
  have HW := Fact.mk h
  clear h
  go_enter Tryd.func46, Tryd.ntmps46
  go_wp2_with (first
    | (go_at_call 73; refine (Place_calls' _ n k b hn hn2 hk hb).mono ?_; rintro e w1 ⟨rfl, rfl⟩)
    | (go_at_call 50; refine (Has_calls _ pb mb N D n HW.out hn hn2).mono ?_; rintro e w1 ⟨rfl, hw⟩; rw [hh]; have HW1 := Fact.mk (HW.out.quiet hw); have HQ := Fact.mk hw; clear hw))
  have HW2 : Fact (Ws w1.drew pb mb N D) := ⟨HW1.out.move rfl rfl⟩
  have hxl : x < 18446744073709551616 := hx ▸ (HW2.out.look hkl).2.1
  have HQd : Fact (Turned w w1.drew mb) := ⟨by obtain ⟨q, rfl⟩ := HQ.out; exact turned_trans (turned_drew q) (turned_drew 1)⟩
  refine wp_region_S (fun w' => w'.cell? ⟨pb, 0, none⟩ = some (.map (some mb))) [(0, true), (1, true), (2, true), (3, true), (4, true), (6, true), (7, true), (5, false), (8, true), (9, false)] (by kernel_rfl) (by kernel_rfl) (by kernel_rfl) rfl rfl (by intro c a d v w h; cases d <;> exact h) HW2.out.cell ?_
  simp only [pick, List.filterMap_cons, List.filterMap_nil, Option.map_some, List.getElem?_toArray, List.getElem?_cons_zero, List.getElem?_cons_succ]
  generalize w1.drew = wdr at HW2 HQd ⊢
  iterate 7
    (apply seq_tell rfl
     · intro w' hS
       go_simp
       first | done | rfl
     simp only [Act.put, List.setIfInBounds_toArray, List.set_cons_succ, List.set_cons_zero])
  have hlk := (HW2.out.look hkl).1
  rw [hx] at hlk
  apply seq_do rfl
  · go_simp
    exact ⟨rfl, rfl⟩
  · exact HW2.out.cell
  simp only [Act.put, List.setIfInBounds_toArray, List.set_cons_succ, List.set_cons_zero]
  clear hlk
  apply seq_tell rfl
  · intro w' hS
    go_simp
    first | done | rfl
  simp only [Act.put, List.setIfInBounds_toArray, List.set_cons_succ, List.set_cons_zero]
  rw [bit_or x b hxl hbl]
  have hxo : x ||| 2 ^ b < 18446744073709551616 := Nat.or_lt_two_pow (n := 64) hxl (Nat.pow_lt_pow_right (by omega) hbl)
  obtain ⟨w2, hrun, r1, r2⟩ := HW2.out.own.update law Tryd.underlying135 (by unfold maxLen; omega) (key_u hkl) (plainElem_int Tryd.underlying50 (wf_u hxo))
  have HC2 : Fact (w2.cell? ⟨pb, 0, none⟩ = some (.map (some mb))) := ⟨(cell_same (r2.block _ HW2.out.lt.1 (fun he => HW2.out.ne (by injection he)))).trans HW2.out.cell⟩
  have HE2 : Fact (Ws w2 pb mb (N + 1) (D.put (.int .u64 (k : Int)) (.lit (.int .u64 ((x ||| 2 ^ b : Nat) : Int))))) := ⟨⟨HC2.out, r1⟩⟩
  have HT2 : Fact (Turned w w2 mb) := ⟨turned_trans HQd.out r2⟩
  clear r1 r2
  refine seq_mute (w' := w2) rfl ?_ HC2.out ?_
  · go_simp
  simp only [Act.put, List.setIfInBounds_toArray, List.set_cons_succ, List.set_cons_zero]
  clear hrun
  show Exit.then _ _ _ _ _
  go_wp2_with fail
  go_ret
  exact ⟨rfl, HE2, HT2.out⟩
/-- A word without a bit. -/
def clr (x b : Nat) : Nat := x &&& (18446744073709551615 - 2 ^ b)
def cutD (D : DataW Unit) (k c : Nat) : DataW Unit := if c = 0 then (D.put (.int .u64 (k : Int)) (.lit (.int .u64 (c : Int)))).del (.int .u64 (k : Int)) else D.put (.int .u64 (k : Int)) (.lit (.int .u64 (c : Int)))
theorem bit_clr (x b : Nat) (hx : x < 18446744073709551616) (hb : b < 64) : bits .andNot .u64 (x : Int) (IntKind.u64.wrap (2 ^ b)) = (clr x b : Int) := by
  unfold clr
  have h1 : (2 : Nat) ^ b < 2 ^ 64 := Nat.pow_lt_pow_right (by omega) hb
  rw [show (2 : Int) ^ b = ((2 ^ b : Nat) : Int) by simp]
  generalize (2 : Nat) ^ b = p at h1 ⊢
  have h2 : IntKind.u64.wrap (p : Int) = (p : Int) := by
    rw [IntKind.wrap_u64]
    omega
  rw [h2, u64_andNot_nat _ _ hx (by omega)]
set_option maxHeartbeats 1000000 in
set_option maxRecDepth 100000 in
theorem Cut_has (w : World) (pb mb N : Nat) (D : DataW Unit) (n : Nat) (h : Ws w pb mb N D) (hn : 1 ≤ n) (hn2 : n < 18446744073709551616) (hN : N ≤ 4294967296) (hh : hasB D n = true) : Calls Tryd.prog 54 #[.pointer (some ⟨pb, 0, none⟩), .int .u64 (n : Int)] w fun e w' => e = .returned (.bool true) ∧
    Fact (Ws w' pb mb (N + 1) (cutD D ((n - 1) / 64) (clr (wd D ((n - 1) / 64)) ((n - 1) % 64)))) ∧ Turned w w' mb := by
  obtain ⟨k, hk⟩ : ∃ k, (n - 1) / 64 = k := ⟨_, rfl⟩
  obtain ⟨b, hb⟩ : ∃ b, (n - 1) % 64 = b := ⟨_, rfl⟩
  have hbl : b < 64 := by omega
  have hkl : k < 18446744073709551616 := by omega
  have hnz : ((n : Int) == 0) = false := by simp; omega
  have hb0 : (0 : Int) ≤ b := by omega
  have hb1 : (b : Int) < 64 := by omega
  have hmin : min b 64 = b := by omega
  rw [hk, hb]
  obtain ⟨x, hx⟩ : ∃ x, wd D k = x := ⟨_, rfl⟩
  rw [hx]
  obtain ⟨y, hy⟩ : ∃ y, clr x b = y := ⟨_, rfl⟩
  rw [hy]
  have HW := Fact.mk h
  clear h
  go_enter Tryd.func54, Tryd.ntmps54
  go_wp2_with (first
    | (go_at_call 73; refine (Place_calls' _ n k b hn hn2 hk hb).mono ?_; rintro e w1 ⟨rfl, rfl⟩)
    | (go_at_call 50; refine (Has_calls _ pb mb N D n HW.out hn hn2).mono ?_; rintro e w1 ⟨rfl, hw⟩; rw [hh]; have HW1 := Fact.mk (HW.out.quiet hw); have HQ := Fact.mk hw; clear hw))
  have HW2 : Fact (Ws w1.drew pb mb N D) := ⟨HW1.out.move rfl rfl⟩
  have hxl : x < 18446744073709551616 := hx ▸ (HW2.out.look hkl).2.1
  have HQd : Fact (Turned w w1.drew mb) := ⟨by obtain ⟨q, rfl⟩ := HQ.out; exact turned_trans (turned_drew q) (turned_drew 1)⟩
  refine wp_region_S (fun w' => w'.cell? ⟨pb, 0, none⟩ = some (.map (some mb))) [(0, true), (1, true), (2, true), (3, true), (4, true), (6, true), (7, true), (5, false), (8, true), (9, false)] (by kernel_rfl) (by kernel_rfl) (by kernel_rfl) rfl rfl (by intro c a d v w h; cases d <;> exact h) HW2.out.cell ?_
  simp only [pick, List.filterMap_cons, List.filterMap_nil, Option.map_some, List.getElem?_toArray, List.getElem?_cons_zero, List.getElem?_cons_succ]
  generalize w1.drew = wdr at HW2 HQd ⊢
  iterate 7
    (apply seq_tell rfl
     · intro w' hS
       go_simp
       first | done | rfl
     simp only [Act.put, List.setIfInBounds_toArray, List.set_cons_succ, List.set_cons_zero])
  have hlk := (HW2.out.look hkl).1
  rw [hx] at hlk
  apply seq_do rfl
  · go_simp
    exact ⟨rfl, rfl⟩
  · exact HW2.out.cell
  simp only [Act.put, List.setIfInBounds_toArray, List.set_cons_succ, List.set_cons_zero]
  clear hlk
  apply seq_tell rfl
  · intro w' hS
    go_simp
    first | done | rfl
  simp only [Act.put, List.setIfInBounds_toArray, List.set_cons_succ, List.set_cons_zero]
  rw [bit_clr x b hxl hbl, hy]
  have hxo : y < 18446744073709551616 := hy ▸ Nat.lt_of_le_of_lt Nat.and_le_left hxl
  obtain ⟨w2, hrun, r1, r2⟩ := HW2.out.own.update law Tryd.underlying135 (by unfold maxLen; omega) (key_u hkl) (plainElem_int Tryd.underlying50 (wf_u hxo))
  have HC2 : Fact (w2.cell? ⟨pb, 0, none⟩ = some (.map (some mb))) := ⟨(cell_same (r2.block _ HW2.out.lt.1 (fun he => HW2.out.ne (by injection he)))).trans HW2.out.cell⟩
  have HE2 : Fact (Ws w2 pb mb (N + 1) (D.put (.int .u64 (k : Int)) (.lit (.int .u64 (y : Int))))) := ⟨⟨HC2.out, r1⟩⟩
  have HT2 : Fact (Turned w w2 mb) := ⟨turned_trans HQd.out r2⟩
  clear r1 r2
  refine seq_mute (w' := w2) rfl ?_ HC2.out ?_
  · go_simp
  simp only [Act.put, List.setIfInBounds_toArray, List.set_cons_succ, List.set_cons_zero]
  clear hrun
  show Exit.then _ _ _ _ _
  obtain ⟨hl1, hl2, hl3⟩ := HE2.out.look hkl
  have hwy : wd (D.put (.int .u64 (k : Int)) (.lit (.int .u64 (y : Int)))) k = y := by
    unfold wd
    rw [Maps.atKey_put_same HW2.out.own.isMap (by simp [WideAt.IsKeyLit])]
    simp
  rw [hwy] at hl1
  have hc2 := HC2.out
  by_cases hy0 : y = 0
  · have hy1 : ((y : Int) == 0) = true := by simp [hy0]
    go_wp2_with (first
      | (at_delete
         go_must (refine wpList_delete_own _ rfl _ _ 135 50 rfl 50 law Tryd.underlying135 _ mb (N + 1) _ rfl HE2.out.own _ _ rfl (key_u hkl) ?_)
         intro w3 h3 g3
         have HE3 : Fact (Ws w3 pb mb (N + 1) ((D.put (.int .u64 (k : Int)) (.lit (.int .u64 (y : Int)))).del (.int .u64 (k : Int)))) := ⟨⟨(cell_same (g3.grown.block _ HE2.out.lt.1 (fun he => HE2.out.ne (by injection he)))).trans HE2.out.cell, h3⟩⟩
         have HT3 : Fact (Turned w w3 mb) := ⟨turned_trans HT2.out g3.grown⟩
         clear h3 g3))
    go_ret
    unfold cutD
    rw [if_pos hy0]
    exact ⟨rfl, HE3, HT3.out⟩
  · have hy1 : ((y : Int) == 0) = false := by simp; exact hy0
    go_wp2_with fail
    go_ret
    unfold cutD
    rw [if_neg hy0]
    exact ⟨rfl, HE2, HT2.out⟩
end Go.Proofs.YtkmcjokoinoahaaDoor.WordsA
