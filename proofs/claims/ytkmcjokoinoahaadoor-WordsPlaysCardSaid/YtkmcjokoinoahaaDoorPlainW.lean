/- Plain laws of words: lowest bits, the numbers of a map of words, in order. -/
import Derived.Test.YtkmcjokoinoahaaDoorWordsB
import Derived.Test.YtkmcjokoinoahaaDoorKeysU
set_option linter.unusedVariables false
set_option linter.unusedSimpArgs false
namespace Go.Proofs.YtkmcjokoinoahaaDoor.PlainW
open Go.RowKit Go.Proofs.YtkmcjokoinoahaaDoor.Lib Go.Proofs.YtkmcjokoinoahaaDoor.WordsA Go.Maps
open Go.Proofs.YtkmcjokoinoahaaDoor.KeysU (natKeys natOf)
/-! Sorted lists. -/
theorem sorted_ext : ∀ {l l' : List Nat}, l.Pairwise (· < ·) → l'.Pairwise (· < ·) → (∀ x, x ∈ l ↔ x ∈ l') → l = l'
  | [], [], _, _, _ => rfl
  | [], y :: r, _, _, h => absurd ((h y).2 List.mem_cons_self) (by simp)
  | y :: r, [], _, _, h => absurd ((h y).1 List.mem_cons_self) (by simp)
  | x :: l, y :: l', h1, h2, h => by
    rw [List.pairwise_cons] at h1 h2
    have hxy : x = y := by
      rcases Nat.lt_trichotomy x y with hlt | he | hlt
      · rcases List.mem_cons.1 ((h x).1 List.mem_cons_self) with e | e
        · exact e
        · have := h2.1 x e; omega
      · exact he
      · rcases List.mem_cons.1 ((h y).2 List.mem_cons_self) with e | e
        · exact e.symm
        · have := h1.1 y e; omega
    subst hxy
    rw [sorted_ext h1.2 h2.2 fun z => ?_]
    have hz := h z
    rw [List.mem_cons, List.mem_cons] at hz
    constructor
    · intro hm
      rcases hz.1 (.inr hm) with e | e
      · have := h1.1 z hm; omega
      · exact e
    · intro hm
      rcases hz.2 (.inr hm) with e | e
      · have := h2.1 z hm; omega
      · exact e
theorem sorted_len : ∀ {l : List Nat} {a M : Nat}, l.Pairwise (· < ·) → (∀ x ∈ l, a ≤ x ∧ x < M) → l.length ≤ M - a
  | [], _, _, _, _ => by simp
  | x :: r, a, M, h, hb => by
    rw [List.pairwise_cons] at h
    have hx := hb x List.mem_cons_self
    have := sorted_len (a := x + 1) (M := M) h.2 (fun y hy => ⟨h.1 y hy, (hb y (List.mem_cons_of_mem _ hy)).2⟩)
    simp only [List.length_cons]
    omega
/-! The lowest bit. -/
theorem low_ex : ∀ (x : Nat), x ≠ 0 → ∃ b m, x = 2 ^ b * (2 * m + 1) := by
  intro x
  induction x using Nat.strongRecOn with
  | _ x ih =>
    intro h
    rcases Nat.mod_two_eq_zero_or_one x with h0 | h1
    · obtain ⟨b, m, hb⟩ := ih (x / 2) (by omega) (by omega)
      refine ⟨b + 1, m, ?_⟩
      have : x = 2 * (x / 2) := by omega
      rw [this, hb, Nat.pow_succ]
      rw [Nat.mul_comm (2 ^ b) 2, Nat.mul_assoc]
    · exact ⟨0, x / 2, by omega⟩
theorem low_lt {x b m : Nat} (hx : x = 2 ^ b * (2 * m + 1)) (h : x < 18446744073709551616) : b < 64 := by
  rcases Nat.lt_or_ge b 64 with hb | hb
  · exact hb
  · have h1 : (2 : Nat) ^ 64 ≤ 2 ^ b := Nat.pow_le_pow_right (by omega) hb
    have h2 : 2 ^ b * 1 ≤ 2 ^ b * (2 * m + 1) := Nat.mul_le_mul_left _ (by omega)
    omega
theorem odd_bit (m i : Nat) : (2 * m + 1).testBit i = (decide (i = 0) || (decide (0 < i) && m.testBit (i - 1))) := by
  cases i with
  | zero => simp
  | succ i => simp [Nat.testBit_succ, show (2 * m + 1) / 2 = m by omega]
theorem even_bit (m i : Nat) : (2 * m).testBit i = (decide (0 < i) && m.testBit (i - 1)) := by
  cases i with
  | zero => simp
  | succ i => simp [Nat.testBit_succ, show (2 * m) / 2 = m by omega]
theorem mul_bit (a b i : Nat) : (2 ^ b * a).testBit i = (decide (b ≤ i) && a.testBit (i - b)) := by
  rw [Nat.testBit_two_pow_mul]
theorem and_pred {x b m : Nat} (hx : x = 2 ^ b * (2 * m + 1)) : x &&& (x - 1) = 2 ^ b * (2 * m) := by
  have hp : 0 < 2 ^ b := Nat.two_pow_pos b
  have e : x - 1 = 2 ^ b * (2 * m) + (2 ^ b - 1) := by
    rw [hx, Nat.mul_add, Nat.mul_one]
    generalize 2 ^ b * (2 * m) = y
    omega
  apply Nat.eq_of_testBit_eq
  intro i
  rw [Nat.testBit_and, e, Nat.testBit_two_pow_mul_add _ (by omega), hx, mul_bit, mul_bit, odd_bit, even_bit]
  by_cases h : i < b
  · simp [h, show ¬ b ≤ i by omega]
  · rw [if_neg h]
    have hb : b ≤ i := by omega
    simp only [hb, decide_true, Bool.true_and]
    by_cases h0 : i - b = 0
    · simp [h0]
    · simp [h0, show 0 < i - b by omega, even_bit]
theorem and_neg {x b m : Nat} (hx : x = 2 ^ b * (2 * m + 1)) (h : x < 18446744073709551616) : x &&& (18446744073709551616 - x) = 2 ^ b := by
  have hb := low_lt hx h
  have hw : (18446744073709551616 : Nat) = 2 ^ b * 2 ^ (64 - b) := by
    rw [← Nat.pow_add, show b + (64 - b) = 64 by omega]
  have hm : 2 * m + 1 < 2 ^ (64 - b) := by
    rcases Nat.lt_or_ge (2 * m + 1) (2 ^ (64 - b)) with hl | hl
    · exact hl
    · have := Nat.mul_le_mul_left (2 ^ b) hl
      rw [← hw] at this
      omega
  have e : 18446744073709551616 - x = 2 ^ b * (2 ^ (64 - b) - (2 * m + 1)) := by
    rw [hx, hw, Nat.mul_sub]
  apply Nat.eq_of_testBit_eq
  intro i
  rw [Nat.testBit_and, e, hx, mul_bit, mul_bit, Nat.testBit_two_pow_sub_succ (show 2 * m < 2 ^ (64 - b) by omega), odd_bit, even_bit, Nat.testBit_two_pow]
  by_cases h : b ≤ i
  · by_cases h0 : i - b = 0
    · have : b = i := by omega
      simp [h0, this, show i < 64 by omega, show 0 < 64 - i by omega]
    · have : ¬ b = i := by omega
      cases hm2 : m.testBit (i - b - 1)
      · simp [h, h0, this, show 0 < i - b by omega, hm2]
      · simp [h, h0, this, show 0 < i - b by omega, hm2]
  · have : ¬ b = i := by omega
    simp [h, this]
/-- The bits that are set, rising. -/
def bitsL (x : Nat) : List Nat := (List.range 64).filter fun b => x.testBit b
theorem mem_bitsL {x b : Nat} : b ∈ bitsL x ↔ b < 64 ∧ x.testBit b = true := by
  unfold bitsL
  rw [List.mem_filter, List.mem_range]
theorem bitsL_sorted (x : Nat) : (bitsL x).Pairwise (· < ·) := List.Pairwise.filter _ List.pairwise_lt_range
theorem bitsL_zero : bitsL 0 = [] := by
  unfold bitsL
  rw [List.filter_eq_nil_iff]
  intro b hb
  simp
theorem bitsL_low {x b m : Nat} (hx : x = 2 ^ b * (2 * m + 1)) (h : x < 18446744073709551616) : bitsL x = b :: bitsL (2 ^ b * (2 * m)) := by
  have hb := low_lt hx h
  refine sorted_ext (bitsL_sorted _) ?_ fun i => ?_
  · rw [List.pairwise_cons]
    refine ⟨fun i hi => ?_, bitsL_sorted _⟩
    have := (mem_bitsL.1 hi).2
    rw [mul_bit, even_bit] at this
    simp at this
    omega
  · rw [List.mem_cons, mem_bitsL, mem_bitsL, hx, mul_bit, mul_bit, odd_bit, even_bit]
    constructor
    · rintro ⟨h1, h2⟩
      by_cases h0 : i = b
      · exact .inl h0
      · refine .inr ⟨h1, ?_⟩
        simp at h2 ⊢
        refine ⟨h2.1, ?_⟩
        rcases h2.2 with h3 | h3
        · omega
        · exact h3
    · rintro (rfl | ⟨h1, h2⟩)
      · exact ⟨hb, by simp⟩
      · refine ⟨h1, ?_⟩
        simp at h2 ⊢
        exact ⟨h2.1, .inr h2.2⟩
theorem bitsL_ne {x : Nat} (h0 : x ≠ 0) (h : x < 18446744073709551616) : bitsL x ≠ [] := by
  obtain ⟨b, m, hx⟩ := low_ex x h0
  rw [bitsL_low hx h]
  simp
/-! The numbers of words. -/
def numsOf (k x : Nat) : List Nat := (bitsL x).map fun b => 64 * k + b + 1
def allK (D : DataW Unit) (ks : List Nat) : List Nat := ks.flatMap fun k => numsOf k (wd D k)
abbrev leN : Nat → Nat → Bool := fun x y => decide (x ≤ y)
def keysL (D : DataW Unit) : List Nat := (natKeys D).mergeSort leN
def allL (D : DataW Unit) : List Nat := allK D (keysL D)
theorem mem_numsOf {k x n : Nat} : n ∈ numsOf k x ↔ ∃ b, b < 64 ∧ x.testBit b = true ∧ 64 * k + b + 1 = n := by
  unfold numsOf
  rw [List.mem_map]
  constructor
  · rintro ⟨b, hb, rfl⟩
    exact ⟨b, (mem_bitsL.1 hb).1, (mem_bitsL.1 hb).2, rfl⟩
  · rintro ⟨b, h1, h2, rfl⟩
    exact ⟨b, mem_bitsL.2 ⟨h1, h2⟩, rfl⟩
theorem numsOf_sorted (k x : Nat) : (numsOf k x).Pairwise (· < ·) := by
  unfold numsOf
  rw [List.pairwise_map]
  exact (bitsL_sorted x).imp (fun h => by omega)
theorem mem_allK {D : DataW Unit} {ks : List Nat} {n : Nat} : n ∈ allK D ks ↔ ∃ k ∈ ks, ∃ b, b < 64 ∧ (wd D k).testBit b = true ∧ 64 * k + b + 1 = n := by
  unfold allK
  rw [List.mem_flatMap]
  constructor
  · rintro ⟨k, hk, hn⟩
    exact ⟨k, hk, mem_numsOf.1 hn⟩
  · rintro ⟨k, hk, hn⟩
    exact ⟨k, hk, mem_numsOf.2 hn⟩
theorem allK_sorted (D : DataW Unit) : ∀ {ks : List Nat}, ks.Pairwise (· < ·) → (allK D ks).Pairwise (· < ·)
  | [], _ => List.Pairwise.nil
  | k :: r, h => by
    rw [List.pairwise_cons] at h
    show (numsOf k (wd D k) ++ allK D r).Pairwise (· < ·)
    rw [List.pairwise_append]
    refine ⟨numsOf_sorted _ _, allK_sorted D h.2, fun a ha c hc => ?_⟩
    obtain ⟨b, hb, -, rfl⟩ := mem_numsOf.1 ha
    obtain ⟨k', hk', b', hb', -, rfl⟩ := mem_allK.1 hc
    have := h.1 k' hk'
    omega
/-- What holds of a map of words: those that it has are not nought; all are small; the number 2^64 is none. -/
structure WInv (D : DataW Unit) : Prop where
  is : IsMap D
  nz : ∀ k : Nat, k < 18446744073709551616 → (has D (.int .u64 (k : Int)) = true ↔ wd D k ≠ 0)
  small : ∀ k : Nat, k < 18446744073709551616 → has D (.int .u64 (k : Int)) = true → k < 288230376151711744
  top : (wd D 288230376151711743).testBit 63 = false
theorem key_ne {a b : Nat} (h : a ≠ b) : (Lit.int .u64 (a : Int)) ≠ (Lit.int .u64 (b : Int)) := by
  intro e
  injection e with _ e
  omega
theorem keyLit (k : Nat) : WideAt.IsKeyLit (Lit.int .u64 (k : Int)) := by
  unfold WideAt.IsKeyLit
  trivial
theorem wd_put_same {D : DataW Unit} (h : IsMap D) (k v : Nat) : wd (D.put (.int .u64 (k : Int)) (.lit (.int .u64 (v : Int)))) k = v := by
  unfold wd
  rw [atKey_put_same h (keyLit k)]
  simp
theorem wd_put_other {D : DataW Unit} {k k' : Nat} (h : k' ≠ k) (v : Nat) : wd (D.put (.int .u64 (k : Int)) (.lit (.int .u64 (v : Int)))) k' = wd D k' := by
  unfold wd
  rw [atKey_put_other (key_ne h)]
theorem wd_del_same (D : DataW Unit) (k : Nat) : wd (D.del (.int .u64 (k : Int))) k = 0 := by
  unfold wd
  rw [atKey_del_same]
  rfl
theorem wd_del_other {D : DataW Unit} {k k' : Nat} (h : k' ≠ k) : wd (D.del (.int .u64 (k : Int))) k' = wd D k' := by
  unfold wd
  rw [atKey_del_other (key_ne h)]
theorem isMap_put {D : DataW Unit} (h : IsMap D) (k : Lit) (v : DataW Unit) : IsMap (D.put k v) := by
  obtain ⟨es, rfl⟩ := h
  exact ⟨_, rfl⟩
theorem isMap_del {D : DataW Unit} (h : IsMap D) (k : Lit) : IsMap (D.del k) := by
  obtain ⟨es, rfl⟩ := h
  exact ⟨_, rfl⟩
theorem WInv.empty : WInv (.map []) where
  is := ⟨[], rfl⟩
  nz k hk := by
    have h1 : has (.map [] : DataW Unit) (.int .u64 (k : Int)) = false := rfl
    have h2 : wd (.map []) k = 0 := rfl
    rw [h1, h2]
    simp
  small k hk h := by
    have h1 : has (.map [] : DataW Unit) (.int .u64 (k : Int)) = false := rfl
    rw [h1] at h
    cases h
  top := by
    have h2 : wd (.map []) 288230376151711743 = 0 := rfl
    rw [h2]
    simp
theorem WInv.put {D : DataW Unit} (h : WInv D) {k v : Nat} (hk : k < 288230376151711744) (hv : v ≠ 0) (ht : k = 288230376151711743 → v.testBit 63 = false) : WInv (D.put (.int .u64 (k : Int)) (.lit (.int .u64 (v : Int)))) where
  is := isMap_put h.is _ _
  nz k' hk' := by
    by_cases e : k' = k
    · subst e
      rw [has_put_same h.is (keyLit _), wd_put_same h.is]
      simp [hv]
    · rw [has_put_other (key_ne e), wd_put_other e]
      exact h.nz k' hk'
  small k' hk' hh := by
    by_cases e : k' = k
    · subst e; exact hk
    · rw [has_put_other (key_ne e)] at hh
      exact h.small k' hk' hh
  top := by
    by_cases e : (288230376151711743 : Nat) = k
    · subst e
      rw [wd_put_same h.is]
      exact ht rfl
    · rw [wd_put_other e]
      exact h.top
theorem WInv.del {D : DataW Unit} (h : WInv D) (k v : Nat) : WInv ((D.put (.int .u64 (k : Int)) (.lit (.int .u64 (v : Int)))).del (.int .u64 (k : Int))) where
  is := isMap_del (isMap_put h.is _ _) _
  nz k' hk' := by
    by_cases e : k' = k
    · subst e
      rw [has_del_same, wd_del_same]
      simp
    · rw [has_del_other (key_ne e), has_put_other (key_ne e), wd_del_other e, wd_put_other e]
      exact h.nz k' hk'
  small k' hk' hh := by
    by_cases e : k' = k
    · subst e
      rw [has_del_same] at hh
      cases hh
    · rw [has_del_other (key_ne e), has_put_other (key_ne e)] at hh
      exact h.small k' hk' hh
  top := by
    by_cases e : (288230376151711743 : Nat) = k
    · subst e
      rw [wd_del_same]
      simp
    · rw [wd_del_other e, wd_put_other e]
      exact h.top
theorem WInv.cut {D : DataW Unit} (h : WInv D) {k c : Nat} (hk : k < 288230376151711744) (ht : k = 288230376151711743 → c.testBit 63 = false) : WInv (cutD D k c) := by
  unfold cutD
  split
  · exact h.del k c
  · exact h.put hk (by assumption) ht
/-! Members. -/
theorem hasB_put {D : DataW Unit} (h : IsMap D) {n m : Nat} (hn : 1 ≤ n) (hm : 1 ≤ m) : hasB (D.put (.int .u64 (((n - 1) / 64 : Nat) : Int)) (.lit (.int .u64 ((wd D ((n - 1) / 64) ||| 2 ^ ((n - 1) % 64) : Nat) : Int)))) m = (decide (m = n) || hasB D m) := by
  unfold hasB
  by_cases hk : (m - 1) / 64 = (n - 1) / 64
  · rw [hk, wd_put_same h, Nat.testBit_or, Nat.testBit_two_pow]
    by_cases hb : (n - 1) % 64 = (m - 1) % 64
    · have : m = n := by omega
      simp [hb, this]
    · have : ¬ m = n := by intro e; subst e; exact hb rfl
      simp [hb, this]
  · have : ¬ m = n := by intro e; subst e; exact hk rfl
    rw [wd_put_other hk]
    simp [this]
theorem clr_bit {x b i : Nat} (hx : x < 18446744073709551616) (hb : b < 64) : (clr x b).testBit i = (x.testBit i && !decide (i = b)) := by
  unfold clr
  rw [Nat.testBit_and, show (18446744073709551615 - 2 ^ b : Nat) = 2 ^ 64 - (2 ^ b + 1) by omega, Nat.testBit_two_pow_sub_succ (Nat.pow_lt_pow_right (by omega) hb), Nat.testBit_two_pow]
  by_cases hi : i < 64
  · by_cases e : i = b
    · simp [e]
    · have e' : ¬ b = i := fun x => e x.symm
      simp [hi, e, e']
  · have : x.testBit i = false := Nat.testBit_lt_two_pow (Nat.lt_of_lt_of_le hx (by
      have : (2 : Nat) ^ 64 ≤ 2 ^ i := Nat.pow_le_pow_right (by omega) (by omega)
      simpa using this))
    simp [this]
theorem wd_cut_same {D : DataW Unit} (h : IsMap D) (k c : Nat) : wd (cutD D k c) k = c := by
  unfold cutD
  split
  · rename_i e
    rw [wd_del_same, e]
  · exact wd_put_same h k c
theorem wd_cut_other {D : DataW Unit} {k k' c : Nat} (h : k' ≠ k) : wd (cutD D k c) k' = wd D k' := by
  unfold cutD
  split
  · rw [wd_del_other h, wd_put_other h]
  · exact wd_put_other h c
theorem hasB_cut {D : DataW Unit} (h : IsMap D) {n m : Nat} (hn : 1 ≤ n) (hm : 1 ≤ m) (hx : wd D ((n - 1) / 64) < 18446744073709551616) : hasB (cutD D ((n - 1) / 64) (clr (wd D ((n - 1) / 64)) ((n - 1) % 64))) m = (!decide (m = n) && hasB D m) := by
  unfold hasB
  by_cases hk : (m - 1) / 64 = (n - 1) / 64
  · rw [hk, wd_cut_same h, clr_bit hx (by omega)]
    by_cases hb : (m - 1) % 64 = (n - 1) % 64
    · have : m = n := by omega
      simp [this]
    · have : ¬ m = n := by intro e; subst e; exact hb rfl
      simp [hb, this]
  · have : ¬ m = n := by intro e; subst e; exact hk rfl
    rw [wd_cut_other hk]
    simp [this]
theorem WInv.putN {D : DataW Unit} (h : WInv D) {n : Nat} (hn : 1 ≤ n) (hn2 : n < 18446744073709551616) (hx : wd D ((n - 1) / 64) < 18446744073709551616) : WInv (D.put (.int .u64 (((n - 1) / 64 : Nat) : Int)) (.lit (.int .u64 ((wd D ((n - 1) / 64) ||| 2 ^ ((n - 1) % 64) : Nat) : Int)))) := by
  refine h.put (by omega) (fun e => ?_) (fun e => ?_)
  · have h1 := congrArg (fun x => x.testBit ((n - 1) % 64)) e
    simp [Nat.testBit_or, Nat.testBit_two_pow] at h1
  · rw [Nat.testBit_or, Nat.testBit_two_pow, e, h.top]
    simp
    omega
theorem WInv.cutN {D : DataW Unit} (h : WInv D) {n : Nat} (hn : 1 ≤ n) (hn2 : n < 18446744073709551616) (hx : wd D ((n - 1) / 64) < 18446744073709551616) : WInv (cutD D ((n - 1) / 64) (clr (wd D ((n - 1) / 64)) ((n - 1) % 64))) := by
  refine h.cut (by omega) (fun e => ?_)
  rw [clr_bit hx (by omega), e, h.top]
  rfl
/-- A key of the list is small, its word is none of nought. -/
theorem WInv.key {D : DataW Unit} (h : WInv D) {k : Nat} (hl : ∀ x ∈ natKeys D, x < 18446744073709551616) (hk : k ∈ keysL D) (hm : ∀ k : Nat, k < 18446744073709551616 → (k ∈ natKeys D ↔ has D (.int .u64 (k : Int)) = true)) : k < 288230376151711744 ∧ wd D k ≠ 0 := by
  have h1 : k ∈ natKeys D := (List.mem_mergeSort).1 hk
  have h2 := hl k h1
  have h3 := (hm k h2).1 h1
  exact ⟨h.small k h2 h3, (h.nz k h2).1 h3⟩
end Go.Proofs.YtkmcjokoinoahaaDoor.PlainW
