/- TlvNums: for every input the law answers true; what was in memory before is as it was. -/
import Derived.Test.YtjjcjdefenbnjaaTlvI
import Derived.Test.YtjjcjdefenbnjaaNumLaw
set_option linter.unusedVariables false
set_option linter.unusedSimpArgs false
namespace Go.Proofs.Ytjjcjdefenbnjaa.LawNums
open Go.RowKit Go.Proofs.Ytjjcjdefenbnjaa.Lib Go.Proofs.Ytjjcjdefenbnjaa.Reg Go.Proofs.Ytjjcjdefenbnjaa.TlvA Go.Proofs.Ytjjcjdefenbnjaa.TlvB Go.Proofs.Ytjjcjdefenbnjaa.TlvF Go.Proofs.Ytjjcjdefenbnjaa.TlvG Go.Proofs.Ytjjcjdefenbnjaa.TlvH Go.Proofs.Ytjjcjdefenbnjaa.TlvI Go.Proofs.Ytjjcjdefenbnjaa.NumLaw

/-- Are bytes a number's? -/
def okN (l : List UInt8) : Bool := decide (l.length ≤ 8 ∧ l.head? ≠ some 0)
def valN (l : List UInt8) : Nat := if okN l then valL l else 0
def errN (l : List UInt8) : Int := if okN l then 0 else 7
theorem valN_lt (l : List UInt8) : valN l < 18446744073709551616 := by
  unfold valN okN
  split
  · rename_i h
    rw [decide_eq_true_eq] at h
    exact Nat.lt_of_lt_of_le (valL_lt l) (Nat.le_trans (Nat.pow_le_pow_right (by omega) h.1) (by decide))
  · omega
theorem Value_calls (w : World) (F : Nat → Prop) (A : Option Addr) (n c : Nat) (l : List UInt8) (h : Sl rU8 w F A n c l) :
    Calls Try.prog 23 #[.slice A n c] w fun e w' => e = .returned (.tuple #[.int .u64 (valN l : Int), .int .i64 (errN l)]) ∧ w' = w := by
  have hl := h.len
  have hm := Nat.le_trans h.le h.max_
  by_cases h8 : n ≤ 8
  · by_cases h0 : l.head? = some 0
    · match l, h, h0, hl with
      | t :: r, h, h0, hl =>
        have ht : t = 0 := by simpa using h0
        subst ht
        have e1 : valN (0 :: r) = 0 := by unfold valN okN; rw [if_neg (by simp)]
        have e2 : errN (0 :: r) = 7 := by unfold errN okN; rw [if_neg (by simp)]
        rw [e1, e2]
        exact Value_nought w F A n c r h h8
    · have e1 : valN l = valL l := by unfold valN okN; rw [if_pos (by rw [decide_eq_true_eq]; exact ⟨by omega, h0⟩)]
      have e2 : errN l = 0 := by unfold errN okN; rw [if_pos (by rw [decide_eq_true_eq]; exact ⟨by omega, h0⟩)]
      rw [e1, e2]
      exact Value_right w F A n c l h h8 h0
  · have e1 : valN l = 0 := by unfold valN okN; rw [if_neg (by rw [decide_eq_true_eq]; omega)]
    have e2 : errN l = 7 := by unfold errN okN; rw [if_neg (by rw [decide_eq_true_eq]; omega)]
    rw [e1, e2]
    exact Value_long w A n c (by omega) hm
theorem RValue_calls (w : World) (F : Nat → Prop) (A : Option Addr) (n c : Nat) (l : List UInt8) (h : Sl rU8 w F A n c l) :
    Calls Try.prog 24 #[.slice A n c] w fun e w' => e = .returned (.tuple #[.int .u64 (valN l : Int), .bool (okN l)]) ∧ w' = w := by
  have hl := h.len
  have hm := Nat.le_trans h.le h.max_
  by_cases h8 : n ≤ 8
  · by_cases h0 : l.head? = some 0
    · match l, h, h0, hl with
      | t :: r, h, h0, hl =>
        have ht : t = 0 := by simpa using h0
        subst ht
        have e1 : valN (0 :: r) = 0 := by unfold valN okN; rw [if_neg (by simp)]
        have e2 : okN (0 :: r) = false := by unfold okN; simp
        rw [e1, e2]
        exact RValue_nought w F A n c r h h8
    · have e1 : valN l = valL l := by unfold valN okN; rw [if_pos (by rw [decide_eq_true_eq]; exact ⟨by omega, h0⟩)]
      have e2 : okN l = true := by unfold okN; rw [decide_eq_true_eq]; exact ⟨by omega, h0⟩
      rw [e1, e2]
      exact RValue_right w F A n c l h h8 h0
  · have e1 : valN l = 0 := by unfold valN okN; rw [if_neg (by rw [decide_eq_true_eq]; omega)]
    have e2 : okN l = false := by unfold okN; rw [decide_eq_false_iff_not]; omega
    rw [e1, e2]
    exact RValue_long w A n c (by omega) hm
theorem okN_num (n : Nat) : okN (numL n) = true := by unfold okN; rw [decide_eq_true_eq]; exact ⟨num_len n, num_head n⟩
theorem valN_num (n : Nat) (h : n < 18446744073709551616) : valN (numL n) = n := by unfold valN; rw [if_pos (okN_num n), val_num n h]
theorem errN_num (n : Nat) : errN (numL n) = 0 := by unfold errN; rw [if_pos (okN_num n)]
theorem num_valN {l : List UInt8} (h : okN l = true) : numL (valN l) = l := by
  unfold valN
  rw [if_pos h]
  unfold okN at h
  rw [decide_eq_true_eq] at h
  exact num_unique h.2 h.1

set_option maxHeartbeats 4000000 in
set_option maxRecDepth 100000 in
theorem TlvNums_calls (w : World) (F : Nat → Prop) (ni : Int) (hn0 : 0 ≤ ni ∧ ni ≤ 18446744073709551615) (A : Option Addr) (n c : Nat) (l : List UInt8) (h : Sl rU8 w F A n c l) (hF : ∀ k, F k → k < w.heap.size) :
    Calls Try.prog 5 #[.int .u64 ni, .slice A n c] w fun e w' => e = .returned (.bool true) ∧ Below w.heap.size w w' := by
  obtain ⟨x, rfl⟩ := Int.eq_ofNat_of_zero_le hn0.1
  have hx : x < 18446744073709551616 := by omega
  have hmx : n ≤ 9223372036854775807 := Nat.le_trans h.le h.max_
  have H := Fact.mk h
  have HF := Fact.mk hF
  clear h hF hn0
  by_cases hbig : 1000 < n
  · have k1 : decide (1000 < (n : Int)) = true := by simp; omega
    have k1' : decide (1000 < n) = true := by simp; omega
    go_enter Try.func5, Try.ntmps5
    go_wp2_with (go_at_call 19; refine (Awake_calls _).mono ?_; rintro e w1 ⟨rfl, hb⟩; have HB := Fact.mk hb; clear hb)
    go_ret
    exact ⟨rfl, HB.out⟩
  · have k1 : decide (1000 < (n : Int)) = false := by simp; omega
    have k1' : decide (1000 < n) = false := by simp; omega
    go_enter Try.func5, Try.ntmps5
    go_wp2_with (first
      | (go_at_call 19; refine (Awake_calls _).mono ?_; rintro e w1 ⟨rfl, hb⟩; have HB1 := Fact.mk hb; clear hb)
      | (go_at_call 22
         refine (Num_calls _ _ x rfl (by omega)).mono ?_
         rintro e w2 ⟨v1, rfl, HO1, hb⟩
         have HB2 : Fact (Below w.heap.size w w2) := ⟨HB1.out.trans (hb.mono HB1.out.size)⟩
         obtain ⟨A1, c1, hv, hs⟩ := HO1.out.sl
         subst hv
         have HS1 := Fact.mk HO1.out.slF
         have HSB : Fact (Sl rU8 w2 F A n c l) := ⟨H.out.move (Same.of_below HB2.out HF.out)⟩
         clear hs hb HO1)
      | (go_at_call 23; fail))
    refine (Value_calls _ _ _ _ _ _ HS1.out).mono ?_
    rintro e w' ⟨rfl, rfl⟩
    rw [valN_num x hx, errN_num]
    go_wp2_with fail
    refine (Value_calls _ _ _ _ _ _ HSB.out).mono ?_
    rintro e w' ⟨rfl, rfl⟩
    go_wp2_with fail
    refine (RValue_calls _ _ _ _ _ _ HSB.out).mono ?_
    rintro e w' ⟨rfl, rfl⟩
    have hvl := valN_lt l
    have HNV : Fact (okN l = true → numL (valN l) = l) := ⟨num_valN⟩
    have hsz : w.heap.size ≤ w'.heap.size := HB2.out.size
    have HK1 : Fact (∀ w2, Below w'.heap.size w' w2 → (convert 22 9 (.slice A1 (numL x).length c1)).run Try.prog w2 = .ok (.string ⟨(numL x).toArray⟩) w2) := ⟨fun w2 hS => run_str _ _ _ Try.underlying22 Try.underlying5 Try.underlying9 (HS1.out.move (Same.of_below hS (fun _ h => h.2)))⟩
    have HK2 : Fact (∀ w2, Below w'.heap.size w' w2 → (convert 22 9 (.slice A n c)).run Try.prog w2 = .ok (.string ⟨l.toArray⟩) w2) := ⟨fun w2 hS => run_str _ _ _ Try.underlying22 Try.underlying5 Try.underlying9 (HSB.out.move (Same.of_below hS (fun k h => by have := HF.out k h; omega)))⟩
    have HB9 := HB2
    clear HB1 HB2
    go_wp2_with fail
    generalize hvv : valN l = vv at *
    clear hvv
    have hok : errN l = if okN l then 0 else 7 := rfl
    generalize errN l = er at hok ⊢
    generalize hoo : okN l = ok at *
    clear hoo
    cases ok with
    | true =>
      simp only [if_true] at hok
      subst hok
      refine wp_region_S (fun w2 => Below w'.heap.size w' w2) (([0, 1, 2].map fun i => (i, true)) ++ [(3, false), (4, false)] ++ ((List.range 33).map fun i => (i + 5, true)) ++ ([40, 41].map fun i => (i, true)) ++ [(38, false), (39, false)] ++ ([42, 43, 44, 45].map fun i => (i, true))) (by kernel_rfl) (by kernel_rfl) (by kernel_rfl) rfl rfl (by intro c a d v w h; cases d <;> exact h) (Below.refl _ _).drew ?_
      simp only [pick, List.range, List.range.loop, List.map_cons, List.map_nil, List.cons_append, List.nil_append, Nat.reduceAdd, List.filterMap_cons, List.filterMap_nil, Option.map_some, List.getElem?_toArray, List.getElem?_cons_zero, List.getElem?_cons_succ]
      have HS5 : Fact (Below w'.heap.size w' w'.drew) := ⟨(Below.refl _ _).drew⟩
      generalize w'.drew = wd at HS5 ⊢
      iterate 3
        (first
          | (apply seq_tell rfl
             · intro w2 hS
               have K1 := HK1.out w2 hS
               have K2 := HK2.out w2 hS
               go_simp
               first | done | rfl)
          | (apply seq_tellG rfl
             · intro w2 hS
               have K1 := HK1.out w2 hS
               have K2 := HK2.out w2 hS
               go_simp
               first | done | rfl)
          | apply seq_skip rfl
         simp only [Act.put, List.setIfInBounds_toArray, List.set_cons_succ, List.set_cons_zero])
      refine seq_call (f := 25) (args := #[.int .u64 (x : Int)]) rfl rfl Try.func25 (by kernel_rfl) rfl (by simp only [List.map_toArray, List.map_cons, List.map_nil]; rfl) ?_
      refine (RNum_calls wd _ x rfl hx).mono ?_
      rintro e w6 ⟨A6, c6, rfl, hs6, hb6⟩
      have HS6 : Fact (Below w'.heap.size w' w6) := ⟨HS5.out.trans (hb6.mono HS5.out.size)⟩
      have hstr6 := run_str (P := Try.prog) 22 5 9 Try.underlying22 Try.underlying5 Try.underlying9 hs6.out
      clear hb6 hs6
      refine ⟨_, rfl, HS6.out, ?_⟩
      simp only [Act.put, List.setIfInBounds_toArray, List.set_cons_succ, List.set_cons_zero]
      apply seq_do rfl
      · go_simp
        exact ⟨rfl, rfl⟩
      · exact HS6.out
      simp only [Act.put, List.setIfInBounds_toArray, List.set_cons_succ, List.set_cons_zero]
      clear hstr6
      iterate 35
        (first
          | (apply seq_tell rfl
             · intro w2 hS
               have K1 := HK1.out w2 hS
               have K2 := HK2.out w2 hS
               go_simp
               first | done | rfl)
          | (apply seq_tellG rfl
             · intro w2 hS
               have K1 := HK1.out w2 hS
               have K2 := HK2.out w2 hS
               go_simp
               first | done | rfl)
          | apply seq_skip rfl
         simp only [Act.put, List.setIfInBounds_toArray, List.set_cons_succ, List.set_cons_zero])
      refine seq_callG (f := 22) (args := #[.int .u64 (vv : Int)]) rfl rfl Try.func22 (by kernel_rfl) rfl (by simp only [List.map_toArray, List.map_cons, List.map_nil]; rfl) ?_
      refine (Num_calls w6 _ vv rfl hvl).mono ?_
      rintro e w7 ⟨v7, rfl, HO7, hb7⟩
      have HS7 : Fact (Below w'.heap.size w' w7) := ⟨HS6.out.trans (hb7.mono HS6.out.size)⟩
      obtain ⟨A7, c7, hv, hs⟩ := HO7.out.sl
      subst hv
      have hstr7 := run_str (P := Try.prog) 22 5 9 Try.underlying22 Try.underlying5 Try.underlying9 HO7.out.slF
      clear hb7 hs HO7
      rw [HNV.out rfl] at hstr7 ⊢
      refine ⟨_, rfl, HS7.out, ?_⟩
      simp only [Act.put, List.setIfInBounds_toArray, List.set_cons_succ, List.set_cons_zero]
      apply seq_doG rfl
      · go_simp
        exact ⟨rfl, rfl⟩
      · exact HS7.out
      simp only [Act.put, List.setIfInBounds_toArray, List.set_cons_succ, List.set_cons_zero]
      clear hstr7
      iterate 4
        (first
          | (apply seq_tell rfl
             · intro w2 hS
               have K1 := HK1.out w2 hS
               have K2 := HK2.out w2 hS
               go_simp
               first | done | rfl)
          | (apply seq_tellG rfl
             · intro w2 hS
               have K1 := HK1.out w2 hS
               have K2 := HK2.out w2 hS
               go_simp
               first | done | rfl)
          | apply seq_skip rfl
         simp only [Act.put, List.setIfInBounds_toArray, List.set_cons_succ, List.set_cons_zero])
      show Exit.then _ _ _ _ _
      go_wp2_with fail
      go_ret
      exact ⟨rfl, HB9.out.trans (HS7.out.mono HB9.out.size)⟩
    | false =>
      simp only [Bool.false_eq_true, if_false] at hok
      subst hok
      refine wp_region_S (fun w2 => Below w'.heap.size w' w2) (([0, 1, 2].map fun i => (i, true)) ++ [(3, false), (4, false)] ++ ((List.range 33).map fun i => (i + 5, true)) ++ ([40, 41].map fun i => (i, true)) ++ [(38, false), (39, false)] ++ ([42, 43, 44, 45].map fun i => (i, true))) (by kernel_rfl) (by kernel_rfl) (by kernel_rfl) rfl rfl (by intro c a d v w h; cases d <;> exact h) (Below.refl _ _).drew ?_
      simp only [pick, List.range, List.range.loop, List.map_cons, List.map_nil, List.cons_append, List.nil_append, Nat.reduceAdd, List.filterMap_cons, List.filterMap_nil, Option.map_some, List.getElem?_toArray, List.getElem?_cons_zero, List.getElem?_cons_succ]
      have HS5 : Fact (Below w'.heap.size w' w'.drew) := ⟨(Below.refl _ _).drew⟩
      generalize w'.drew = wd at HS5 ⊢
      iterate 3
        (first
          | (apply seq_tell rfl
             · intro w2 hS
               have K1 := HK1.out w2 hS
               have K2 := HK2.out w2 hS
               go_simp
               first | done | rfl)
          | (apply seq_tellG rfl
             · intro w2 hS
               have K1 := HK1.out w2 hS
               have K2 := HK2.out w2 hS
               go_simp
               first | done | rfl)
          | apply seq_skip rfl
         simp only [Act.put, List.setIfInBounds_toArray, List.set_cons_succ, List.set_cons_zero])
      refine seq_call (f := 25) (args := #[.int .u64 (x : Int)]) rfl rfl Try.func25 (by kernel_rfl) rfl (by simp only [List.map_toArray, List.map_cons, List.map_nil]; rfl) ?_
      refine (RNum_calls wd _ x rfl hx).mono ?_
      rintro e w6 ⟨A6, c6, rfl, hs6, hb6⟩
      have HS6 : Fact (Below w'.heap.size w' w6) := ⟨HS5.out.trans (hb6.mono HS5.out.size)⟩
      have hstr6 := run_str (P := Try.prog) 22 5 9 Try.underlying22 Try.underlying5 Try.underlying9 hs6.out
      clear hb6 hs6
      refine ⟨_, rfl, HS6.out, ?_⟩
      simp only [Act.put, List.setIfInBounds_toArray, List.set_cons_succ, List.set_cons_zero]
      apply seq_do rfl
      · go_simp
        exact ⟨rfl, rfl⟩
      · exact HS6.out
      simp only [Act.put, List.setIfInBounds_toArray, List.set_cons_succ, List.set_cons_zero]
      clear hstr6
      iterate 35
        (first
          | (apply seq_tell rfl
             · intro w2 hS
               have K1 := HK1.out w2 hS
               have K2 := HK2.out w2 hS
               go_simp
               first | done | rfl)
          | (apply seq_tellG rfl
             · intro w2 hS
               have K1 := HK1.out w2 hS
               have K2 := HK2.out w2 hS
               go_simp
               first | done | rfl)
          | apply seq_skip rfl
         simp only [Act.put, List.setIfInBounds_toArray, List.set_cons_succ, List.set_cons_zero])
      refine seq_skipF rfl ?_
      simp only [Act.put, List.setIfInBounds_toArray, List.set_cons_succ, List.set_cons_zero]
      refine seq_skipF rfl ?_
      simp only [Act.put, List.setIfInBounds_toArray, List.set_cons_succ, List.set_cons_zero]
      iterate 4
        (first
          | (apply seq_tell rfl
             · intro w2 hS
               have K1 := HK1.out w2 hS
               have K2 := HK2.out w2 hS
               go_simp
               first | done | rfl)
          | (apply seq_tellG rfl
             · intro w2 hS
               have K1 := HK1.out w2 hS
               have K2 := HK2.out w2 hS
               go_simp
               first | done | rfl)
          | apply seq_skip rfl
         simp only [Act.put, List.setIfInBounds_toArray, List.set_cons_succ, List.set_cons_zero])
      show Exit.then _ _ _ _ _
      go_wp2_with fail
      go_ret
      exact ⟨rfl, HB9.out.trans (HS6.out.mono HB9.out.size)⟩
end Go.Proofs.Ytjjcjdefenbnjaa.LawNums
