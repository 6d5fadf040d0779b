/- ferrymanref11.Back, There, denom.There: contracts over any world. -/
import Derived.Test.YtjjcjdefenbnjaaDenomD
set_option linter.unusedVariables false
set_option linter.unusedSimpArgs false
namespace Go.Proofs.Ytjjcjdefenbnjaa.DenomE
open Go.RowKit Go.Proofs.Ytjjcjdefenbnjaa.Lib Go.Proofs.Ytjjcjdefenbnjaa.Reg Go.Proofs.Ytjjcjdefenbnjaa.DenomA Go.Proofs.Ytjjcjdefenbnjaa.DenomB Go.Proofs.Ytjjcjdefenbnjaa.DenomC Go.Proofs.Ytjjcjdefenbnjaa.DenomD
set_option maxHeartbeats 1000000 in
set_option maxRecDepth 100000 in
theorem RBack_calls (w : World) (ch : Int) (l : List UInt8) (hl : l.length ≤ 9223372036854775806) : Calls Try.prog 48 #[.int .i64 ch, .string (S l)] w fun e w' => e = .returned (.tuple #[.string (S (backL ch l).1), .bool (backL ch l).2]) ∧ Below w.heap.size w w' := by
  have s1 := size_S l
  have tl := toList_S
  obtain ⟨n, hn⟩ : ∃ n, l.length = n := ⟨_, rfl⟩
  rw [hn] at s1
  rcases (by omega : ch < 0 ∨ (0 ≤ ch ∧ 4 ≤ ch) ∨ (0 ≤ ch ∧ ch < 4)) with h | ⟨h1, h2⟩ | ⟨h1, h2⟩
  · rw [backL_out (.inl h)]
    have k1 : decide (ch < 0) = true := decide_eq_true h
    go_enter Try.func48, Try.ntmps48
    go_wp2_with fail
    refine wp_region_S (fun _ => True) [(0, true), (1, true), (2, true), (3, true), (4, true), (5, true), (6, true), (7, true), (8, true), (9, true), (10, true), (11, true), (12, true), (13, true), (14, true), (15, false), (16, true), (17, true)] (by kernel_rfl) (by kernel_rfl) (by kernel_rfl) rfl rfl (by intro c a d v w h; cases d <;> exact h) trivial ?_
    simp only [pick, List.filterMap_cons, List.filterMap_nil, Option.map_some, List.getElem?_toArray, List.getElem?_cons_zero, List.getElem?_cons_succ]
    have HBd : Fact (Below w.heap.size w w.drew) := ⟨(Below.refl _ _).drew⟩
    generalize w.drew = wd at HBd ⊢
    iterate 15
      (first
       | (apply seq_tell rfl
          · intro w' hS
            go_simp
            first | done | rfl)
       | (apply seq_tellG rfl
          · intro w' hS
            go_simp
            first | done | rfl)
       | apply seq_skip rfl
       simp only [Act.put, List.setIfInBounds_toArray, List.set_cons_succ, List.set_cons_zero])
    apply seq_skipF rfl
    simp only [Act.put, List.setIfInBounds_toArray, List.set_cons_succ, List.set_cons_zero]
    iterate 2
      (first
       | (apply seq_tell rfl
          · intro w' hS
            go_simp
            first | done | rfl)
       | (apply seq_tellG rfl
          · intro w' hS
            go_simp
            first | done | rfl)
       | apply seq_skip rfl
       simp only [Act.put, List.setIfInBounds_toArray, List.set_cons_succ, List.set_cons_zero])
    show Exit.then _ _ _ _ _
    go_wp2_with fail
    go_ret2
    exact ⟨rfl, HBd.out⟩
  · rw [backL_out (.inr h2)]
    have k1 : decide (ch < 0) = false := decide_eq_false (by omega)
    have k2 : decide (3 < ch) = true := decide_eq_true (by omega)
    go_enter Try.func48, Try.ntmps48
    go_wp2_with fail
    refine wp_region_S (fun _ => True) [(0, true), (1, true), (2, true), (3, true), (4, true), (5, true), (6, true), (7, true), (8, true), (9, true), (10, true), (11, true), (12, true), (13, true), (14, true), (15, false), (16, true), (17, true)] (by kernel_rfl) (by kernel_rfl) (by kernel_rfl) rfl rfl (by intro c a d v w h; cases d <;> exact h) trivial ?_
    simp only [pick, List.filterMap_cons, List.filterMap_nil, Option.map_some, List.getElem?_toArray, List.getElem?_cons_zero, List.getElem?_cons_succ]
    have HBd : Fact (Below w.heap.size w w.drew) := ⟨(Below.refl _ _).drew⟩
    generalize w.drew = wd at HBd ⊢
    iterate 15
      (first
       | (apply seq_tell rfl
          · intro w' hS
            go_simp
            first | done | rfl)
       | (apply seq_tellG rfl
          · intro w' hS
            go_simp
            first | done | rfl)
       | apply seq_skip rfl
       simp only [Act.put, List.setIfInBounds_toArray, List.set_cons_succ, List.set_cons_zero])
    apply seq_skipF rfl
    simp only [Act.put, List.setIfInBounds_toArray, List.set_cons_succ, List.set_cons_zero]
    iterate 2
      (first
       | (apply seq_tell rfl
          · intro w' hS
            go_simp
            first | done | rfl)
       | (apply seq_tellG rfl
          · intro w' hS
            go_simp
            first | done | rfl)
       | apply seq_skip rfl
       simp only [Act.put, List.setIfInBounds_toArray, List.set_cons_succ, List.set_cons_zero])
    show Exit.then _ _ _ _ _
    go_wp2_with fail
    go_ret2
    exact ⟨rfl, HBd.out⟩
  · obtain ⟨c, rfl⟩ : ∃ c : Nat, ch = (c : Int) := ⟨ch.toNat, by omega⟩
    have hc : c < 4 := by omega
    have k1 : decide ((c : Int) < 0) = false := decide_eq_false (by omega)
    have k2 : decide ((3 : Int) < c) = false := decide_eq_false (by omega)
    have k2' : decide (3 < c) = false := decide_eq_false (by omega)
    rw [backL_in hc]
    by_cases h4 : n < 4
    · have k3 : decide ((n : Int) < 4) = true := decide_eq_true (by omega)
      have k3' : decide (n < 4) = true := decide_eq_true h4
      have hf : ¬ (l.take 4 == pre c) = true := by
        intro he
        have h5 : l.take 4 = pre c := by simpa using he
        have h6 := congrArg List.length h5
        rw [List.length_take, show (pre c).length = 4 from rfl] at h6
        omega
      rw [if_neg hf]
      clear hf
      go_enter Try.func48, Try.ntmps48
      go_wp2_with fail
      refine wp_region_S (fun _ => True) [(0, true), (1, true), (2, true), (3, true), (4, true), (5, true), (6, true), (7, true), (8, true), (9, true), (10, true), (11, true), (12, true), (13, true), (14, true), (15, false), (16, true), (17, true)] (by kernel_rfl) (by kernel_rfl) (by kernel_rfl) rfl rfl (by intro c a d v w h; cases d <;> exact h) trivial ?_
      simp only [pick, List.filterMap_cons, List.filterMap_nil, Option.map_some, List.getElem?_toArray, List.getElem?_cons_zero, List.getElem?_cons_succ]
      have HBd : Fact (Below w.heap.size w w.drew) := ⟨(Below.refl _ _).drew⟩
      generalize w.drew = wd at HBd ⊢
      iterate 15
        (first
         | (apply seq_tell rfl
            · intro w' hS
              go_simp
              first | done | rfl)
         | (apply seq_tellG rfl
            · intro w' hS
              go_simp
              first | done | rfl)
         | apply seq_skip rfl
         simp only [Act.put, List.setIfInBounds_toArray, List.set_cons_succ, List.set_cons_zero])
      apply seq_skipF rfl
      simp only [Act.put, List.setIfInBounds_toArray, List.set_cons_succ, List.set_cons_zero]
      iterate 2
        (first
         | (apply seq_tell rfl
            · intro w' hS
              go_simp
              first | done | rfl)
         | (apply seq_tellG rfl
            · intro w' hS
              go_simp
              first | done | rfl)
         | apply seq_skip rfl
         simp only [Act.put, List.setIfInBounds_toArray, List.set_cons_succ, List.set_cons_zero])
      show Exit.then _ _ _ _ _
      go_wp2_with fail
      go_ret2
      exact ⟨rfl, HBd.out⟩
    · have k3 : decide ((n : Int) < 4) = false := decide_eq_false (by omega)
      have k3' : decide (n < 4) = false := decide_eq_false h4
      have hr1 := run_head l 4 (by omega) hl
      have hr2 := run_tail l 4 (by omega) hl
      have hr1 : ∀ W : World, (Instr.slice 9 (.string (S l)) none (some (.int .i64 4)) none).run Try.prog W = .ok (.string (S (l.take 4))) W := hr1
      have hr2 : ∀ W : World, (Instr.slice 9 (.string (S l)) (some (.int .i64 4)) none none).run Try.prog W = .ok (.string (S (l.drop 4))) W := hr2
      cases h : (l.take 4 == pre c)
      · simp only [Bool.false_eq_true, if_false]
        go_enter Try.func48, Try.ntmps48
        go_wp2_with fail
        refine wp_region_S (fun _ => True) [(0, true), (1, true), (2, true), (3, true), (4, true), (5, true), (6, true), (7, true), (8, true), (9, true), (10, true), (11, true), (12, true), (13, true), (14, true), (15, false), (16, true), (17, true)] (by kernel_rfl) (by kernel_rfl) (by kernel_rfl) rfl rfl (by intro c a d v w h; cases d <;> exact h) trivial ?_
        simp only [pick, List.filterMap_cons, List.filterMap_nil, Option.map_some, List.getElem?_toArray, List.getElem?_cons_zero, List.getElem?_cons_succ]
        have HBd : Fact (Below w.heap.size w w.drew) := ⟨(Below.refl _ _).drew⟩
        generalize w.drew = wd at HBd ⊢
        iterate 15
          (first
           | (apply seq_tell rfl
              · intro w' hS
                go_simp
                first | done | rfl)
           | (apply seq_tellG rfl
              · intro w' hS
                go_simp
                first | done | rfl)
           | apply seq_skip rfl
           simp only [Act.put, List.setIfInBounds_toArray, List.set_cons_succ, List.set_cons_zero])
        refine seq_callG (f := 65) (args := #[.int .i64 (c : Int)]) rfl rfl Try.func65 (by kernel_rfl) rfl (by simp only [List.map_toArray, List.map_cons, List.map_nil]; rfl) ?_
        refine (ahead_calls wd c hc).mono ?_
        rintro e w1 ⟨rfl, hb⟩
        have HB1 : Fact (Below w.heap.size w w1) := ⟨HBd.out.trans (hb.mono HBd.out.size)⟩
        clear hb
        refine ⟨_, rfl, trivial, ?_⟩
        simp only [Act.put, List.setIfInBounds_toArray, List.set_cons_succ, List.set_cons_zero]
        iterate 2
          (first
           | (apply seq_tell rfl
              · intro w' hS
                go_simp
                first | done | rfl)
           | (apply seq_tellG rfl
              · intro w' hS
                go_simp
                first | done | rfl)
           | apply seq_skip rfl
           simp only [Act.put, List.setIfInBounds_toArray, List.set_cons_succ, List.set_cons_zero])
        show Exit.then _ _ _ _ _
        go_wp2_with fail
        go_ret2
        exact ⟨rfl, HB1.out⟩
      · simp only [if_true]
        go_enter Try.func48, Try.ntmps48
        go_wp2_with fail
        refine wp_region_S (fun _ => True) [(0, true), (1, true), (2, true), (3, true), (4, true), (5, true), (6, true), (7, true), (8, true), (9, true), (10, true), (11, true), (12, true), (13, true), (14, true), (15, false), (16, true), (17, true)] (by kernel_rfl) (by kernel_rfl) (by kernel_rfl) rfl rfl (by intro c a d v w h; cases d <;> exact h) trivial ?_
        simp only [pick, List.filterMap_cons, List.filterMap_nil, Option.map_some, List.getElem?_toArray, List.getElem?_cons_zero, List.getElem?_cons_succ]
        have HBd : Fact (Below w.heap.size w w.drew) := ⟨(Below.refl _ _).drew⟩
        generalize w.drew = wd at HBd ⊢
        iterate 15
          (first
           | (apply seq_tell rfl
              · intro w' hS
                go_simp
                first | done | rfl)
           | (apply seq_tellG rfl
              · intro w' hS
                go_simp
                first | done | rfl)
           | apply seq_skip rfl
           simp only [Act.put, List.setIfInBounds_toArray, List.set_cons_succ, List.set_cons_zero])
        refine seq_callG (f := 65) (args := #[.int .i64 (c : Int)]) rfl rfl Try.func65 (by kernel_rfl) rfl (by simp only [List.map_toArray, List.map_cons, List.map_nil]; rfl) ?_
        refine (ahead_calls wd c hc).mono ?_
        rintro e w1 ⟨rfl, hb⟩
        have HB1 : Fact (Below w.heap.size w w1) := ⟨HBd.out.trans (hb.mono HBd.out.size)⟩
        clear hb
        refine ⟨_, rfl, trivial, ?_⟩
        simp only [Act.put, List.setIfInBounds_toArray, List.set_cons_succ, List.set_cons_zero]
        iterate 2
          (first
           | (apply seq_tell rfl
              · intro w' hS
                go_simp
                first | done | rfl)
           | (apply seq_tellG rfl
              · intro w' hS
                go_simp
                first | done | rfl)
           | apply seq_skip rfl
           simp only [Act.put, List.setIfInBounds_toArray, List.set_cons_succ, List.set_cons_zero])
        show Exit.then _ _ _ _ _
        go_wp2_with fail
        go_ret2
        exact ⟨rfl, HB1.out⟩
def thereL (ch : Int) (l : List UInt8) : List UInt8 × Int := if ch < 0 ∨ 4 ≤ ch then ([], 2) else if ¬ checkL l = true then ([], 43) else if (backL ch l).2 = true then ((backL ch l).1, 0) else if 36 < l.length then ([], 43) else (pre ch.toNat ++ l, 0)
set_option maxHeartbeats 1000000 in
set_option maxRecDepth 100000 in
theorem There_calls (w : World) (ch : Int) (l : List UInt8) (hl : l.length ≤ 9223372036854775806) : Calls Try.prog 45 #[.int .i64 ch, .string (S l)] w fun e w' => e = .returned (.tuple #[.string (S (thereL ch l).1), .int .i64 (thereL ch l).2]) ∧ Below w.heap.size w w' := by
  have s1 := size_S l
  obtain ⟨n, hn⟩ : ∃ n, l.length = n := ⟨_, rfl⟩
  rw [hn] at s1
  unfold thereL
  rcases (by omega : ch < 0 ∨ (0 ≤ ch ∧ 4 ≤ ch) ∨ (0 ≤ ch ∧ ch < 4)) with h | ⟨h1, h2⟩ | ⟨h1, h2⟩
  · rw [if_pos (.inl h)]
    go_enter Try.func45, Try.ntmps45
    go_wp2_with fail
    go_ret2
    exact ⟨rfl, Below.refl _ _⟩
  · rw [if_pos (.inr h2)]
    have k1 : ¬ ch < 0 := by omega
    go_enter Try.func45, Try.ntmps45
    go_wp2_with fail
    go_ret2
    exact ⟨rfl, Below.refl _ _⟩
  · obtain ⟨c, rfl⟩ : ∃ c : Nat, ch = (c : Int) := ⟨ch.toNat, by omega⟩
    have hc : c < 4 := by omega
    have k1 : ¬ (c : Int) < 0 := by omega
    have k2 : ¬ (4 : Int) ≤ c := by omega
    have k3 : ¬ (3 : Int) < c := by omega
    rw [if_neg (by omega)]
    cases hck : checkL l
    · simp only [Bool.false_eq_true, not_false_eq_true, if_true]
      go_enter Try.func45, Try.ntmps45
      go_wp2_with (go_at_call 42; refine (Check_calls _ l hl).mono ?_; rintro e w1 ⟨rfl, q, hw⟩; have HB1 : Fact (Below w.heap.size w w1) := ⟨by rw [hw]; exact below_drewN' (Below.refl _ _) q⟩; clear hw; rw [hck])
      go_ret2
      exact ⟨rfl, HB1.out⟩
    · simp only [not_true_eq_false, if_false]
      obtain ⟨⟨home, ok⟩, hbk⟩ : ∃ x, backL (c : Int) l = x := ⟨_, rfl⟩
      rw [hbk]
      cases ok
      · simp only [Bool.false_eq_true, if_false]
        by_cases h36 : 36 < n
        · have k4 : decide ((36 : Int) < n) = true := decide_eq_true (by omega)
          have k4' : decide (36 < n) = true := decide_eq_true h36
          rw [hn, if_pos h36]
          go_enter Try.func45, Try.ntmps45
          go_wp2_with (first
            | (go_at_call 42; refine (Check_calls _ l hl).mono ?_; rintro e w1 ⟨rfl, q, hw⟩; have HB1 : Fact (Below w.heap.size w w1) := ⟨by rw [hw]; exact below_drewN' (Below.refl _ _) q⟩; clear hw; rw [hck])
            | (go_at_call 47; refine (Back_calls _ (c : Int) l hl).mono ?_; rintro e w2 ⟨rfl, hb⟩; have HB2 : Fact (Below w.heap.size w w2) := ⟨HB1.out.trans (hb.mono HB1.out.size)⟩; clear hb; rw [hbk]))
          go_ret2
          exact ⟨rfl, HB2.out⟩
        · have k4 : decide ((36 : Int) < n) = false := decide_eq_false (by omega)
          have k4' : decide (36 < n) = false := decide_eq_false h36
          rw [hn, if_neg h36]
          have hadd := add_run (pre c) l (by rw [show (pre c).length = 4 from rfl]; omega)
          simp only [Int.toNat_natCast]
          go_enter Try.func45, Try.ntmps45
          go_wp2_with (first
            | (go_at_call 42; refine (Check_calls _ l hl).mono ?_; rintro e w1 ⟨rfl, q, hw⟩; have HB1 : Fact (Below w.heap.size w w1) := ⟨by rw [hw]; exact below_drewN' (Below.refl _ _) q⟩; clear hw; rw [hck])
            | (go_at_call 47; refine (Back_calls _ (c : Int) l hl).mono ?_; rintro e w2 ⟨rfl, hb⟩; have HB2 : Fact (Below w.heap.size w w2) := ⟨HB1.out.trans (hb.mono HB1.out.size)⟩; clear hb; rw [hbk])
            | (go_at_call 64; refine (prefix_calls _ c hc).mono ?_; rintro e w3 ⟨rfl, hb⟩; have HB3 : Fact (Below w.heap.size w w3) := ⟨HB2.out.trans (hb.mono HB2.out.size)⟩; clear hb))
          go_ret2
          exact ⟨rfl, HB3.out⟩
      · simp only [if_true]
        go_enter Try.func45, Try.ntmps45
        go_wp2_with (first
          | (go_at_call 42; refine (Check_calls _ l hl).mono ?_; rintro e w1 ⟨rfl, q, hw⟩; have HB1 : Fact (Below w.heap.size w w1) := ⟨by rw [hw]; exact below_drewN' (Below.refl _ _) q⟩; clear hw; rw [hck])
          | (go_at_call 47; refine (Back_calls _ (c : Int) l hl).mono ?_; rintro e w2 ⟨rfl, hb⟩; have HB2 : Fact (Below w.heap.size w w2) := ⟨HB1.out.trans (hb.mono HB1.out.size)⟩; clear hb; rw [hbk]))
        go_ret2
        exact ⟨rfl, HB2.out⟩
set_option maxHeartbeats 1000000 in
set_option maxRecDepth 100000 in
theorem RThere_calls (w : World) (ch : Int) (l : List UInt8) (hl : l.length ≤ 9223372036854775806) : Calls Try.prog 46 #[.int .i64 ch, .string (S l)] w fun e w' => e = .returned (.tuple #[.string (S (thereL ch l).1), .int .i64 (thereL ch l).2]) ∧ Below w.heap.size w w' := by
  have s1 := size_S l
  obtain ⟨n, hn⟩ : ∃ n, l.length = n := ⟨_, rfl⟩
  rw [hn] at s1
  unfold thereL
  rcases (by omega : ch < 0 ∨ (0 ≤ ch ∧ 4 ≤ ch) ∨ (0 ≤ ch ∧ ch < 4)) with h | ⟨h1, h2⟩ | ⟨h1, h2⟩
  · rw [if_pos (.inl h)]
    go_enter Try.func46, Try.ntmps46
    go_wp2_with fail
    go_ret2
    exact ⟨rfl, Below.refl _ _⟩
  · rw [if_pos (.inr h2)]
    have k1 : ¬ ch < 0 := by omega
    go_enter Try.func46, Try.ntmps46
    go_wp2_with fail
    go_ret2
    exact ⟨rfl, Below.refl _ _⟩
  · obtain ⟨c, rfl⟩ : ∃ c : Nat, ch = (c : Int) := ⟨ch.toNat, by omega⟩
    have hc : c < 4 := by omega
    have k1 : ¬ (c : Int) < 0 := by omega
    have k2 : ¬ (4 : Int) ≤ c := by omega
    have k3 : ¬ (3 : Int) < c := by omega
    rw [if_neg (by omega)]
    cases hck : checkL l
    · simp only [Bool.false_eq_true, not_false_eq_true, if_true]
      go_enter Try.func46, Try.ntmps46
      go_wp2_with (go_at_call 43; refine (RDenom_calls _ l hl).mono ?_; rintro e w1 ⟨rfl, q, hw⟩; have HB1 : Fact (Below w.heap.size w w1) := ⟨by rw [hw]; exact below_drewN' (Below.refl _ _) q⟩; clear hw; rw [hck])
      go_ret2
      exact ⟨rfl, HB1.out⟩
    · simp only [not_true_eq_false, if_false]
      obtain ⟨⟨home, ok⟩, hbk⟩ : ∃ x, backL (c : Int) l = x := ⟨_, rfl⟩
      rw [hbk]
      cases ok
      · simp only [Bool.false_eq_true, if_false]
        by_cases h36 : 36 < n
        · have k4 : decide ((36 : Int) < n) = true := decide_eq_true (by omega)
          have k4' : decide (36 < n) = true := decide_eq_true h36
          rw [hn, if_pos h36]
          go_enter Try.func46, Try.ntmps46
          go_wp2_with (first
            | (go_at_call 43; refine (RDenom_calls _ l hl).mono ?_; rintro e w1 ⟨rfl, q, hw⟩; have HB1 : Fact (Below w.heap.size w w1) := ⟨by rw [hw]; exact below_drewN' (Below.refl _ _) q⟩; clear hw; rw [hck])
            | (go_at_call 48; refine (RBack_calls _ (c : Int) l hl).mono ?_; rintro e w2 ⟨rfl, hb⟩; have HB2 : Fact (Below w.heap.size w w2) := ⟨HB1.out.trans (hb.mono HB1.out.size)⟩; clear hb; rw [hbk]))
          go_ret2
          exact ⟨rfl, HB2.out⟩
        · have k4 : decide ((36 : Int) < n) = false := decide_eq_false (by omega)
          have k4' : decide (36 < n) = false := decide_eq_false h36
          rw [hn, if_neg h36]
          have hadd := add_run (pre c) l (by rw [show (pre c).length = 4 from rfl]; omega)
          simp only [Int.toNat_natCast]
          go_enter Try.func46, Try.ntmps46
          go_wp2_with (first
            | (go_at_call 43; refine (RDenom_calls _ l hl).mono ?_; rintro e w1 ⟨rfl, q, hw⟩; have HB1 : Fact (Below w.heap.size w w1) := ⟨by rw [hw]; exact below_drewN' (Below.refl _ _) q⟩; clear hw; rw [hck])
            | (go_at_call 48; refine (RBack_calls _ (c : Int) l hl).mono ?_; rintro e w2 ⟨rfl, hb⟩; have HB2 : Fact (Below w.heap.size w w2) := ⟨HB1.out.trans (hb.mono HB1.out.size)⟩; clear hb; rw [hbk])
            | (go_at_call 65; refine (ahead_calls _ c hc).mono ?_; rintro e w3 ⟨rfl, hb⟩; have HB3 : Fact (Below w.heap.size w w3) := ⟨HB2.out.trans (hb.mono HB2.out.size)⟩; clear hb))
          go_ret2
          exact ⟨rfl, HB3.out⟩
      · simp only [if_true]
        go_enter Try.func46, Try.ntmps46
        go_wp2_with (first
          | (go_at_call 43; refine (RDenom_calls _ l hl).mono ?_; rintro e w1 ⟨rfl, q, hw⟩; have HB1 : Fact (Below w.heap.size w w1) := ⟨by rw [hw]; exact below_drewN' (Below.refl _ _) q⟩; clear hw; rw [hck])
          | (go_at_call 48; refine (RBack_calls _ (c : Int) l hl).mono ?_; rintro e w2 ⟨rfl, hb⟩; have HB2 : Fact (Below w.heap.size w w2) := ⟨HB1.out.trans (hb.mono HB1.out.size)⟩; clear hb; rw [hbk]))
        go_ret2
        exact ⟨rfl, HB2.out⟩
end Go.Proofs.Ytjjcjdefenbnjaa.DenomE
