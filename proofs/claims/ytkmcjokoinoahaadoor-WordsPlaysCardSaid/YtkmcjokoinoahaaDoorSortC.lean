/- slices.siftDownOrdered, heapSortOrdered at uint64: the library's own text computes 'siftDown', 'heapSort'. -/
import Derived.Test.YtkmcjokoinoahaaDoorSortB
import Derived.Sort.LotB
set_option linter.unusedVariables false
set_option linter.unusedSimpArgs false
namespace Go.Proofs.YtkmcjokoinoahaaDoor.SortC
open Go.RowKit Go.Proofs.YtkmcjokoinoahaaDoor.Lib Go.Proofs.YtkmcjokoinoahaaDoor.SortA Go.Proofs.YtkmcjokoinoahaaDoor.SortB
open Go.Sort (swp siftDown heapBuild heapPop heapSort size_swp)
theorem sd_stop (hi first root : Nat) (d : Array Nat) (h : hi ≤ 2 * root + 1) : siftDown ltN hi first root d = d := by
  rw [siftDown, dif_pos h]
theorem sd_left (hi first root c : Nat) (d : Array Nat) (hc : 2 * root + 1 = c) (h : c < hi) (h2 : ¬ (c + 1 < hi ∧ ltN d[first + c]! d[first + c + 1]! = true)) :
    siftDown ltN hi first root d = if ltN d[first + root]! d[first + c]! = true then siftDown ltN hi first c (swp d (first + root) (first + c)) else d := by
  subst hc
  rw [siftDown, dif_neg (by omega), if_neg (by simpa using h2)]
  cases hl : ltN d[first + root]! d[first + (2 * root + 1)]! <;> simp
theorem sd_right (hi first root c : Nat) (d : Array Nat) (hc : 2 * root + 1 = c) (h : c + 1 < hi) (h2 : ltN d[first + c]! d[first + c + 1]! = true) :
    siftDown ltN hi first root d = if ltN d[first + root]! d[first + c + 1]! = true then siftDown ltN hi first (c + 1) (swp d (first + root) (first + c + 1)) else d := by
  subst hc
  rw [siftDown, dif_neg (by omega), if_pos (by simpa using ⟨h, h2⟩)]
  show (if (!ltN d[first + root]! d[first + (2 * root + 2)]!) = true then d else _) = _
  have e : 2 * root + 1 + 1 = 2 * root + 2 := rfl
  have e2 : first + (2 * root + 1) + 1 = first + (2 * root + 2) := rfl
  rw [e, e2]
  cases hl : ltN d[first + root]! d[first + (2 * root + 2)]!
  · simp
  · rw [if_neg (by decide), dif_pos (by omega), if_pos rfl]
theorem sd_size (hi first : Nat) (n : Nat) : ∀ (root : Nat) (d : Array Nat), hi - root ≤ n → (siftDown ltN hi first root d).size = d.size := by
  induction n with
  | zero => intro root d h; rw [sd_stop _ _ _ _ (by omega)]
  | succ n ih =>
    intro root d h
    by_cases h1 : hi ≤ 2 * root + 1
    · rw [sd_stop _ _ _ _ h1]
    by_cases h2 : 2 * root + 1 + 1 < hi ∧ ltN d[first + (2 * root + 1)]! d[first + (2 * root + 1) + 1]! = true
    · rw [sd_right _ _ _ _ _ rfl h2.1 h2.2]
      split
      · rw [ih _ _ (by omega), size_swp]
      · rfl
    · rw [sd_left _ _ _ _ _ rfl (by omega) h2]
      split
      · rw [ih _ _ (by omega), size_swp]
      · rfl
set_option maxHeartbeats 2000000 in
set_option maxRecDepth 100000 in
theorem Sift_calls (w : World) (g off cap lo hi first N : Nat) (d : Array Nat) (hA : Arr w g off d N) (hlo : lo ≤ hi) (hb : first + hi ≤ d.size) (hsz : d.size < 1152921504606846976) :
    Calls Tryd.prog 112 #[.slice (some ⟨g, off, none⟩) d.size cap, .int .i64 (lo : Int), .int .i64 (hi : Int), .int .i64 (first : Int)] w fun e w' => e = .returned (.tuple #[]) ∧ Fact (Arr w' g off (siftDown ltN hi first lo d) N) ∧ Fact (w.grownBy w' (some g)) := by
  have HA := Fact.mk hA
  clear hA
  obtain ⟨n, hn⟩ : ∃ n, d.size = n := ⟨_, rfl⟩
  rw [hn] at hb hsz ⊢
  have HN := Fact.mk hn
  clear hn
  go_enter Tryd.func112, Tryd.ntmps112
  go_wp2
  go_loopg [8] (hi - lo) (fun kq vr wr => ∃ (root : Nat) (dk : Array Nat), vr = .int .i64 (root : Int) ∧ Fact (root + kq = hi) ∧ Fact (dk.size = n) ∧ Fact (Arr wr g off dk N) ∧ Fact (w.grownBy wr (some g)) ∧ Fact (siftDown ltN hi first root dk = siftDown ltN hi first lo d))
  case atStart => exact ⟨lo, d, rfl, ⟨by omega⟩, HN, HA, ⟨grown_refl _ _⟩, ⟨rfl⟩⟩
  case round =>
    obtain ⟨root, dk, rfl, HK, HSK, HAR, HGR, HO⟩ := hrel
    have hrt : root ≤ hi := by have := HK.out; omega
    obtain ⟨c, hc⟩ : ∃ c, 2 * root + 1 = c := ⟨_, rfl⟩
    have HCC := Fact.mk hc
    have e1 : 2 * (root : Int) + 1 = (c : Int) := by omega
    have hcl : root < c := by omega
    clear hc
    by_cases hlt : c < hi
    · obtain ⟨G, hG, hcw, hfw⟩ := fam HAR.out
      rw [HSK.out] at hcw hfw
      have HG := Fact.mk hG
      clear hG
      by_cases h1 : c + 1 < hi
      · have n1 : decide ((c : Int) + 1 < (hi : Int)) = true := by rw [decide_eq_true_eq]; omega
        by_cases hl : ltN (G (first + c)) (G (first + c + 1)) = true
        · have HX : Fact (c + 1 < hi ∧ ltN dk[first + c]! dk[first + c + 1]! = true) := ⟨h1, by rw [← HG.out, ← HG.out]; exact hl⟩
          by_cases hm : ltN (G (first + root)) (G (first + c + 1)) = true
          · go_wp2
            go_quiet ((go_at_call 106; refine Calls.quiet_of_same (Less_calls _ _ _)))
            have fa0 : (first : Int) + (root : Int) < (n : Int) := by omega
            have fb0 : 0 ≤ (first : Int) + (root : Int) := by omega
            have fc0 : IntKind.i64.wrap ((first : Int) + (root : Int)) = (first : Int) + (root : Int) := by rw [IntKind.wrap_i64]; omega
            have fd0 : ((first : Int) + (root : Int)).toNat = first + root := by omega
            have fa1 : (first : Int) + ((c : Int) + 1) < (n : Int) := by omega
            have fb1 : 0 ≤ (first : Int) + ((c : Int) + 1) := by omega
            have fc1 : IntKind.i64.wrap ((first : Int) + ((c : Int) + 1)) = (first : Int) + ((c : Int) + 1) := by rw [IntKind.wrap_i64]; omega
            have fd1 : ((first : Int) + ((c : Int) + 1)).toNat = first + c + 1 := by omega
            go_wp2
            all_goals go_quiet ((go_at_call 106; exact quiet_more (Less_calls _ _ _)))
            all_goals go_wp2
            all_goals go_region
            all_goals go_wp2
            all_goals clear fa0 fb0 fc0 fd0 fa1 fb1 fc1 fd1
            all_goals go_roundg (hi - (c + 1))
            all_goals (first | (case measure => have := HK.out; omega) | skip)
            all_goals exact ⟨(c + 1), swp dk (first + root) (first + c + 1), by congr 1, ⟨by omega⟩, ⟨by rw [size_swp]; exact HSK.out⟩, ⟨swap_world HAR.out HG.out (by rw [HSK.out]; omega) (by rw [HSK.out]; omega) _⟩, ⟨swap_grown HGR.out _ _ _ _ _⟩, ⟨by rw [← HO.out, sd_right hi first root c dk HCC.out HX.out.1 HX.out.2, if_pos (by rw [← HG.out, ← HG.out]; exact hm)]⟩⟩
          · have hm0 : ltN (G (first + root)) (G (first + c + 1)) = false := by simpa using hm
            clear hm
            go_wp2
            go_quiet ((go_at_call 106; refine Calls.quiet_of_same (Less_calls _ _ _)))
            have fa0 : (first : Int) + (root : Int) < (n : Int) := by omega
            have fb0 : 0 ≤ (first : Int) + (root : Int) := by omega
            have fc0 : IntKind.i64.wrap ((first : Int) + (root : Int)) = (first : Int) + (root : Int) := by rw [IntKind.wrap_i64]; omega
            have fd0 : ((first : Int) + (root : Int)).toNat = first + root := by omega
            have fa1 : (first : Int) + ((c : Int) + 1) < (n : Int) := by omega
            have fb1 : 0 ≤ (first : Int) + ((c : Int) + 1) := by omega
            have fc1 : IntKind.i64.wrap ((first : Int) + ((c : Int) + 1)) = (first : Int) + ((c : Int) + 1) := by rw [IntKind.wrap_i64]; omega
            have fd1 : ((first : Int) + ((c : Int) + 1)).toNat = first + c + 1 := by omega
            go_wp2
            all_goals go_quiet ((go_at_call 106; exact quiet_more (Less_calls _ _ _)))
            all_goals go_wp2
            all_goals clear fa0 fb0 fc0 fd0 fa1 fb1 fc1 fd1
            all_goals refine bodyPost_ret (results_none rfl _ _ _) rfl ?_
            all_goals exact ⟨rfl, ⟨by rw [← HO.out, sd_right hi first root c dk HCC.out HX.out.1 HX.out.2, if_neg (by rw [← HG.out, ← HG.out, hm0]; decide)]; exact (HAR.out.drewN _).drewN _⟩, ⟨grown_drewN (grown_drewN HGR.out _) _⟩⟩
        · have hl0 : ltN (G (first + c)) (G (first + c + 1)) = false := by simpa using hl
          have HX : Fact (¬ (c + 1 < hi ∧ ltN dk[first + c]! dk[first + c + 1]! = true)) := ⟨fun h => hl (by rw [HG.out, HG.out]; exact h.2)⟩
          clear hl
          by_cases hm : ltN (G (first + root)) (G (first + c)) = true
          · go_wp2
            go_quiet ((go_at_call 106; refine Calls.quiet_of_same (Less_calls _ _ _)))
            have fa0 : (first : Int) + (root : Int) < (n : Int) := by omega
            have fb0 : 0 ≤ (first : Int) + (root : Int) := by omega
            have fc0 : IntKind.i64.wrap ((first : Int) + (root : Int)) = (first : Int) + (root : Int) := by rw [IntKind.wrap_i64]; omega
            have fd0 : ((first : Int) + (root : Int)).toNat = first + root := by omega
            have fa1 : (first : Int) + (c : Int) < (n : Int) := by omega
            have fb1 : 0 ≤ (first : Int) + (c : Int) := by omega
            have fc1 : IntKind.i64.wrap ((first : Int) + (c : Int)) = (first : Int) + (c : Int) := by rw [IntKind.wrap_i64]; omega
            have fd1 : ((first : Int) + (c : Int)).toNat = first + c := by omega
            go_wp2
            all_goals go_quiet ((go_at_call 106; exact quiet_more (Less_calls _ _ _)))
            all_goals go_wp2
            all_goals go_region
            all_goals go_wp2
            all_goals clear fa0 fb0 fc0 fd0 fa1 fb1 fc1 fd1
            all_goals go_roundg (hi - c)
            all_goals (first | (case measure => have := HK.out; omega) | skip)
            all_goals exact ⟨c, swp dk (first + root) (first + c), by congr 1, ⟨by omega⟩, ⟨by rw [size_swp]; exact HSK.out⟩, ⟨swap_world HAR.out HG.out (by rw [HSK.out]; omega) (by rw [HSK.out]; omega) _⟩, ⟨swap_grown HGR.out _ _ _ _ _⟩, ⟨by rw [← HO.out, sd_left hi first root c dk HCC.out hlt HX.out, if_pos (by rw [← HG.out, ← HG.out]; exact hm)]⟩⟩
          · have hm0 : ltN (G (first + root)) (G (first + c)) = false := by simpa using hm
            clear hm
            go_wp2
            go_quiet ((go_at_call 106; refine Calls.quiet_of_same (Less_calls _ _ _)))
            have fa0 : (first : Int) + (root : Int) < (n : Int) := by omega
            have fb0 : 0 ≤ (first : Int) + (root : Int) := by omega
            have fc0 : IntKind.i64.wrap ((first : Int) + (root : Int)) = (first : Int) + (root : Int) := by rw [IntKind.wrap_i64]; omega
            have fd0 : ((first : Int) + (root : Int)).toNat = first + root := by omega
            have fa1 : (first : Int) + (c : Int) < (n : Int) := by omega
            have fb1 : 0 ≤ (first : Int) + (c : Int) := by omega
            have fc1 : IntKind.i64.wrap ((first : Int) + (c : Int)) = (first : Int) + (c : Int) := by rw [IntKind.wrap_i64]; omega
            have fd1 : ((first : Int) + (c : Int)).toNat = first + c := by omega
            go_wp2
            all_goals go_quiet ((go_at_call 106; exact quiet_more (Less_calls _ _ _)))
            all_goals go_wp2
            all_goals clear fa0 fb0 fc0 fd0 fa1 fb1 fc1 fd1
            all_goals refine bodyPost_ret (results_none rfl _ _ _) rfl ?_
            all_goals exact ⟨rfl, ⟨by rw [← HO.out, sd_left hi first root c dk HCC.out hlt HX.out, if_neg (by rw [← HG.out, ← HG.out, hm0]; decide)]; exact (HAR.out.drewN _).drewN _⟩, ⟨grown_drewN (grown_drewN HGR.out _) _⟩⟩
      · have n1 : decide ((c : Int) + 1 < (hi : Int)) = false := by rw [decide_eq_false_iff_not]; omega
        have HX : Fact (¬ (c + 1 < hi ∧ ltN dk[first + c]! dk[first + c + 1]! = true)) := ⟨fun h => h1 h.1⟩
        by_cases hm : ltN (G (first + root)) (G (first + c)) = true
        · go_wp2
          go_quiet ((go_at_call 106; refine Calls.quiet_of_same (Less_calls _ _ _)))
          have fa0 : (first : Int) + (root : Int) < (n : Int) := by omega
          have fb0 : 0 ≤ (first : Int) + (root : Int) := by omega
          have fc0 : IntKind.i64.wrap ((first : Int) + (root : Int)) = (first : Int) + (root : Int) := by rw [IntKind.wrap_i64]; omega
          have fd0 : ((first : Int) + (root : Int)).toNat = first + root := by omega
          have fa1 : (first : Int) + (c : Int) < (n : Int) := by omega
          have fb1 : 0 ≤ (first : Int) + (c : Int) := by omega
          have fc1 : IntKind.i64.wrap ((first : Int) + (c : Int)) = (first : Int) + (c : Int) := by rw [IntKind.wrap_i64]; omega
          have fd1 : ((first : Int) + (c : Int)).toNat = first + c := by omega
          go_wp2
          all_goals go_quiet ((go_at_call 106; exact quiet_more (Less_calls _ _ _)))
          all_goals go_wp2
          all_goals go_region
          all_goals go_wp2
          all_goals clear fa0 fb0 fc0 fd0 fa1 fb1 fc1 fd1
          all_goals go_roundg (hi - c)
          all_goals (first | (case measure => have := HK.out; omega) | skip)
          all_goals exact ⟨c, swp dk (first + root) (first + c), by congr 1, ⟨by omega⟩, ⟨by rw [size_swp]; exact HSK.out⟩, ⟨swap_world HAR.out HG.out (by rw [HSK.out]; omega) (by rw [HSK.out]; omega) _⟩, ⟨swap_grown HGR.out _ _ _ _ _⟩, ⟨by rw [← HO.out, sd_left hi first root c dk HCC.out hlt HX.out, if_pos (by rw [← HG.out, ← HG.out]; exact hm)]⟩⟩
        · have hm0 : ltN (G (first + root)) (G (first + c)) = false := by simpa using hm
          clear hm
          go_wp2
          go_quiet ((go_at_call 106; refine Calls.quiet_of_same (Less_calls _ _ _)))
          have fa0 : (first : Int) + (root : Int) < (n : Int) := by omega
          have fb0 : 0 ≤ (first : Int) + (root : Int) := by omega
          have fc0 : IntKind.i64.wrap ((first : Int) + (root : Int)) = (first : Int) + (root : Int) := by rw [IntKind.wrap_i64]; omega
          have fd0 : ((first : Int) + (root : Int)).toNat = first + root := by omega
          have fa1 : (first : Int) + (c : Int) < (n : Int) := by omega
          have fb1 : 0 ≤ (first : Int) + (c : Int) := by omega
          have fc1 : IntKind.i64.wrap ((first : Int) + (c : Int)) = (first : Int) + (c : Int) := by rw [IntKind.wrap_i64]; omega
          have fd1 : ((first : Int) + (c : Int)).toNat = first + c := by omega
          go_wp2
          all_goals go_quiet ((go_at_call 106; exact quiet_more (Less_calls _ _ _)))
          all_goals go_wp2
          all_goals clear fa0 fb0 fc0 fd0 fa1 fb1 fc1 fd1
          all_goals refine bodyPost_ret (results_none rfl _ _ _) rfl ?_
          all_goals exact ⟨rfl, ⟨by rw [← HO.out, sd_left hi first root c dk HCC.out hlt HX.out, if_neg (by rw [← HG.out, ← HG.out, hm0]; decide)]; exact (HAR.out.drewN _).drewN _⟩, ⟨grown_drewN (grown_drewN HGR.out _) _⟩⟩
    · go_wp2
      go_end0
      exact ⟨rfl, ⟨by rw [← HO.out, sd_stop _ _ _ _ (by have := HCC.out; omega)]; exact HAR.out⟩, HGR⟩
end Go.Proofs.YtkmcjokoinoahaaDoor.SortC
