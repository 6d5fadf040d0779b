/- slices.partialInsertionSortOrdered at uint64: the library's own text computes 'partialInsertionSort'. -/
import Derived.Test.YtkmcjokoinoahaaDoorSortF
set_option linter.unusedVariables false
set_option linter.unusedSimpArgs false
namespace Go.Proofs.YtkmcjokoinoahaaDoor.SortG
open Go.RowKit Go.Proofs.YtkmcjokoinoahaaDoor.Lib Go.Proofs.YtkmcjokoinoahaaDoor.SortA Go.Proofs.YtkmcjokoinoahaaDoor.SortB Go.Proofs.YtkmcjokoinoahaaDoor.SortC Go.Proofs.YtkmcjokoinoahaaDoor.SortE
open Go.Sort (swp scanSorted shiftDown shiftUp partialIns partialInsertionSort size_swp)
theorem ss_go {d : Array Nat} {b i : Nat} (h : i < b) (hl : ltN d[i]! d[i - 1]! = false) : scanSorted ltN d b i = scanSorted ltN d b (i + 1) := by
  rw [scanSorted]; simp [h, hl]
theorem ss_stop {d : Array Nat} {b i : Nat} (h : ¬ i < b ∨ ltN d[i]! d[i - 1]! = true) : scanSorted ltN d b i = i := by
  rw [scanSorted]
  rcases h with h | h
  · simp [h]
  · simp [h]
theorem sdn_go {d : Array Nat} {j : Nat} (h : 1 ≤ j) (hl : ltN d[j]! d[j - 1]! = true) : shiftDown ltN j d = shiftDown ltN (j - 1) (swp d j (j - 1)) := by
  obtain ⟨k, rfl⟩ : ∃ k, j = k + 1 := ⟨j - 1, by omega⟩
  have hl' : ltN d[k + 1]! d[k]! = true := hl
  show (if !ltN d[k + 1]! d[k]! then d else shiftDown ltN k (swp d (k + 1) k)) = _
  rw [hl']
  rfl
theorem sdn_stop {d : Array Nat} {j : Nat} (h : j = 0 ∨ ltN d[j]! d[j - 1]! = false) : shiftDown ltN j d = d := by
  rcases Nat.eq_zero_or_pos j with h0 | h0
  · subst h0; rfl
  · obtain ⟨k, rfl⟩ : ∃ k, j = k + 1 := ⟨j - 1, by omega⟩
    have hl' : ltN d[k + 1]! d[k]! = false := h.resolve_left (by omega)
    show (if !ltN d[k + 1]! d[k]! then d else shiftDown ltN k (swp d (k + 1) k)) = _
    rw [hl']
    rfl
theorem su_go {d : Array Nat} {b j : Nat} (h : j < b) (hl : ltN d[j]! d[j - 1]! = true) : shiftUp ltN b j d = shiftUp ltN b (j + 1) (swp d j (j - 1)) := by
  rw [shiftUp, if_pos h, hl]; rfl
theorem su_stop {d : Array Nat} {b j : Nat} (h : j < b) (hl : ltN d[j]! d[j - 1]! = false) : shiftUp ltN b j d = d := by
  rw [shiftUp, if_pos h, hl]; rfl
theorem su_end {d : Array Nat} {b j : Nat} (h : ¬ j < b) : shiftUp ltN b j d = d := by
  rw [shiftUp, if_neg h]
theorem pi_full {a b s i : Nat} {d : Array Nat} (h : scanSorted ltN d b i = b) : partialIns ltN a b (s + 1) i d = (d, true) := by
  unfold partialIns
  simp only [h, if_true]
theorem pi_short {a b s i i2 : Nat} {d : Array Nat} (h : scanSorted ltN d b i = i2) (hb : i2 ≠ b) (h50 : b - a < 50) : partialIns ltN a b (s + 1) i d = (d, false) := by
  unfold partialIns
  simp only [h]
  rw [if_neg hb, if_pos h50]
theorem pi_go {a b s i i2 : Nat} {d d2 d3 : Array Nat} (h : scanSorted ltN d b i = i2) (hb : i2 ≠ b) (h50 : ¬ b - a < 50) (h2 : d2 = if i2 - a ≥ 2 then shiftDown ltN (i2 - 1) (swp d i2 (i2 - 1)) else swp d i2 (i2 - 1)) (h3 : d3 = if b - i2 ≥ 2 then shiftUp ltN b (i2 + 1) d2 else d2) : partialIns ltN a b (s + 1) i d = partialIns ltN a b s i2 d3 := by
  conv => lhs; unfold partialIns
  simp only [h]
  rw [if_neg hb, if_neg h50, h3, h2]
set_option maxHeartbeats 8000000 in
set_option maxRecDepth 100000 in
theorem Pis_calls (w : World) (g off cap a b N : Nat) (d : Array Nat) (hA : Arr w g off d N) (hab : a < b) (hb : b ≤ d.size) (hsz : d.size < 4611686018427387904) :
    Calls Tryd.prog 105 #[.slice (some ⟨g, off, none⟩) d.size cap, .int .i64 (a : Int), .int .i64 (b : Int)] w fun e w' => e = .returned (.bool (partialInsertionSort ltN d a b).2) ∧ Fact (Arr w' g off (partialInsertionSort ltN d a b).1 N) ∧ Fact (w.grownBy w' (some g)) := by
  have HA := Fact.mk hA
  clear hA
  obtain ⟨n, hn⟩ : ∃ n, d.size = n := ⟨_, rfl⟩
  rw [hn] at hb hsz ⊢
  have HN := Fact.mk hn
  clear hn
  obtain ⟨PE, hPE⟩ : ∃ x, partialInsertionSort ltN d a b = x := ⟨_, rfl⟩
  have HPE : Fact (partialIns ltN a b 5 (a + 1) d = PE) := ⟨hPE⟩
  rw [hPE]
  clear hPE
  go_enter Tryd.func105, Tryd.ntmps105
  go_wp2
  go_loopg [7, 8] 5 (fun kq vi vj wr => ∃ (i jj : Nat) (dk : Array Nat), vi = .int .i64 (i : Int) ∧ vj = .int .i64 (jj : Int) ∧ Fact (jj + kq = 5) ∧ Fact (a < i ∧ i ≤ b) ∧ Fact (dk.size = n) ∧ Fact (Arr wr g off dk N) ∧ Fact (w.grownBy wr (some g)) ∧ Fact (partialIns ltN a b kq i dk = PE))
  case atStart => exact ⟨a + 1, 0, d, by go_num, rfl, ⟨rfl⟩, ⟨by omega⟩, HN, HA, ⟨grown_refl _ _⟩, HPE⟩
  case round =>
    obtain ⟨i, jj, dk, rfl, rfl, HK, HB, HSK, HAR, HGR, HO⟩ := hrel
    have hb1 := HB.out
    have hjk := HK.out
    rcases Nat.eq_zero_or_pos gk with h0 | h0
    · subst h0
      have hj5 : jj = 5 := by omega
      subst hj5
      have hE : PE = (dk, false) := by rw [← HO.out]; rfl
      subst hE
      go_wp2
      go_ret
      exact ⟨rfl, HAR, HGR⟩
    · obtain ⟨s, rfl⟩ : ∃ s, gk = s + 1 := ⟨gk - 1, by omega⟩
      have hj5 : jj < 5 := by omega
      go_wp2
      go_loopg [7] (b - i) (fun ku vi w2 => ∃ (i2 : Nat), vi = .int .i64 (i2 : Int) ∧ Fact (b - i2 = ku) ∧ Fact (i ≤ i2 ∧ i2 ≤ b) ∧ Fact (Arr w2 g off dk N) ∧ Fact (w.grownBy w2 (some g)) ∧ Fact (scanSorted ltN dk b i2 = scanSorted ltN dk b i))
      case atStart => exact ⟨i, rfl, ⟨rfl⟩, ⟨by omega⟩, HAR, HGR, ⟨rfl⟩⟩
      case round =>
        obtain ⟨i2, rfl, HK2, HB2, HAR3, HGR3, HO2⟩ := hrel
        have hb2 := HB2.out
        obtain ⟨G3, hG3, hcw, hfw⟩ := fam HAR3.out
        rw [HSK.out] at hcw hfw
        have HG3 := Fact.mk hG3
        clear hG3
        go_wp2
        by_cases hlt : i2 < b
        · by_cases hl : ltN (G3 i2) (G3 (i2 - 1)) = true
          · have HST : Fact (scanSorted ltN dk b i = i2) := ⟨by rw [← HO2.out]; exact ss_stop (.inr (by rw [← HG3.out, ← HG3.out]; exact hl))⟩
            go_quiet ((go_at_call 106; refine Calls.quiet_of_same (Less_calls _ _ _)))
            by_cases h50 : b - a < 50
            · have h50' : (b : Int) - (a : Int) < 50 := by omega
              have hE : PE = (dk, false) := by rw [← HO.out]; exact pi_short HST.out (by omega) h50
              subst hE
              go_wp2
              go_ret
              exact ⟨rfl, ⟨HAR3.out.drewN _⟩, ⟨grown_drewN HGR3.out _⟩⟩
            · have h50' : ¬ (b : Int) - (a : Int) < 50 := by omega
              go_wp2
              obtain ⟨v9, hcs0⟩ := cell?_setCell_some (p := ⟨g, off + i2, none⟩) (x := .int .u64 (G3 (i2 - 1) : Int)) (hcw (i2 - 1) (by omega))
              have hcs : ∀ q, ((wr.drewN q).setCell ⟨g, off + i2, none⟩ (.int .u64 (G3 (i2 - 1) : Int))).cell? ⟨g, off + (i2 - 1), none⟩ = some v9 := fun q => hcs0
              go_region
              all_goals skip
              by_cases h1 : i2 - a ≥ 2
              · have h1' : (i2 : Int) - (a : Int) ≥ 2 := by omega
                go_wp2
                go_loopg [9] (i2 - 1) (fun kd vj w6 => ∃ (jn : Nat) (dj : Array Nat), vj = .int .i64 (jn : Int) ∧ Fact (jn = kd) ∧ Fact (jn < i2) ∧ Fact (dj.size = n) ∧ Fact (Arr w6 g off dj N) ∧ Fact (w.grownBy w6 (some g)) ∧ Fact (shiftDown ltN jn dj = shiftDown ltN (i2 - 1) (swp dk i2 (i2 - 1))))
                case atStart => exact ⟨i2 - 1, swp dk i2 (i2 - 1), by congr 1; omega, ⟨rfl⟩, ⟨by omega⟩, ⟨by rw [size_swp]; exact HSK.out⟩, ⟨swap_world HAR3.out HG3.out (by rw [HSK.out]; omega) (by rw [HSK.out]; omega) _⟩, ⟨swap_grown HGR3.out _ _ _ _ _⟩, ⟨rfl⟩⟩
                case round =>
                  obtain ⟨jn, dj, rfl, HK6, HB6, HSJ, HAR6, HGR6, HO6⟩ := hrel
                  have hb6 := HB6.out
                  clear hcw hfw
                  by_cases hj1 : 1 ≤ jn
                  · obtain ⟨G6, hG6, hcw, hfw⟩ := fam HAR6.out
                    rw [HSJ.out] at hcw hfw
                    have HG6 := Fact.mk hG6
                    clear hG6
                    go_wp2
                    by_cases hm : ltN (G6 jn) (G6 (jn - 1)) = true
                    · go_quiet ((go_at_call 106; refine Calls.quiet_of_same (Less_calls _ _ _)))
                      go_wp2
                      obtain ⟨v9, hcs0⟩ := cell?_setCell_some (p := ⟨g, off + jn, none⟩) (x := .int .u64 (G6 (jn - 1) : Int)) (hcw (jn - 1) (by omega))
                      have hcs : ∀ q, ((wr.drewN q).setCell ⟨g, off + jn, none⟩ (.int .u64 (G6 (jn - 1) : Int))).cell? ⟨g, off + (jn - 1), none⟩ = some v9 := fun q => hcs0
                      go_region
                      all_goals go_wp2
                      go_roundg (jn - 1)
                      case measure => have := HK6.out; omega
                      case rel => exact ⟨jn - 1, swp dj jn (jn - 1), by congr 1; omega, ⟨rfl⟩, ⟨by omega⟩, ⟨by rw [size_swp]; exact HSJ.out⟩, ⟨swap_world HAR6.out HG6.out (by rw [HSJ.out]; omega) (by rw [HSJ.out]; omega) _⟩, ⟨swap_grown HGR6.out _ _ _ _ _⟩, ⟨by rw [← HO6.out, sdn_go hj1 (by rw [← HG6.out, ← HG6.out]; exact hm)]⟩⟩
                    · have hm' : ltN (G6 jn) (G6 (jn - 1)) = false := by simpa using hm
                      clear hm
                      have HD2 : Fact (dj = if i2 - a ≥ 2 then shiftDown ltN (i2 - 1) (swp dk i2 (i2 - 1)) else swp dk i2 (i2 - 1)) := ⟨by rw [if_pos h1, ← HO6.out]; exact (sdn_stop (.inr (by rw [← HG6.out, ← HG6.out]; exact hm'))).symm⟩
                      by_cases h2 : b - i2 ≥ 2
                      · have h2' : (b : Int) - (i2 : Int) ≥ 2 := by omega
                        go_quiet ((go_at_call 106; refine Calls.quiet_of_same (Less_calls _ _ _)))
                        clear hcw hfw
                        go_wp2
                        go_loopg [10] (b - (i2 + 1)) (fun kd vj w7 => ∃ (jn : Nat) (dx : Array Nat), vj = .int .i64 (jn : Int) ∧ Fact (b - jn = kd) ∧ Fact (i2 < jn ∧ jn ≤ b) ∧ Fact (dx.size = n) ∧ Fact (Arr w7 g off dx N) ∧ Fact (w.grownBy w7 (some g)) ∧ Fact (shiftUp ltN b jn dx = shiftUp ltN b (i2 + 1) dj))
                        case atStart => exact ⟨i2 + 1, dj, by go_num, ⟨rfl⟩, ⟨by omega⟩, HSJ, ⟨HAR6.out.drewN _⟩, ⟨grown_drewN HGR6.out _⟩, ⟨rfl⟩⟩
                        case round =>
                          obtain ⟨jn, dx, rfl, HK7, HB7, HSJ7, HAR7, HGR7, HO7⟩ := hrel
                          have hb7 := HB7.out
                          by_cases hjb : jn < b
                          · obtain ⟨G7, hG7, hcw, hfw⟩ := fam HAR7.out
                            rw [HSJ7.out] at hcw hfw
                            have HG7 := Fact.mk hG7
                            clear hG7
                            go_wp2
                            by_cases hm : ltN (G7 jn) (G7 (jn - 1)) = true
                            · go_quiet ((go_at_call 106; refine Calls.quiet_of_same (Less_calls _ _ _)))
                              go_wp2
                              obtain ⟨v9, hcs0⟩ := cell?_setCell_some (p := ⟨g, off + jn, none⟩) (x := .int .u64 (G7 (jn - 1) : Int)) (hcw (jn - 1) (by omega))
                              have hcs : ∀ q, ((wr.drewN q).setCell ⟨g, off + jn, none⟩ (.int .u64 (G7 (jn - 1) : Int))).cell? ⟨g, off + (jn - 1), none⟩ = some v9 := fun q => hcs0
                              go_region
                              all_goals go_wp2
                              go_roundg (b - (jn + 1))
                              case measure => have := HK7.out; omega
                              case rel => exact ⟨jn + 1, swp dx jn (jn - 1), by go_num, ⟨rfl⟩, ⟨by omega⟩, ⟨by rw [size_swp]; exact HSJ7.out⟩, ⟨swap_world HAR7.out HG7.out (by rw [HSJ7.out]; omega) (by rw [HSJ7.out]; omega) _⟩, ⟨swap_grown HGR7.out _ _ _ _ _⟩, ⟨by rw [← HO7.out, su_go hjb (by rw [← HG7.out, ← HG7.out]; exact hm)]⟩⟩
                            · have hm' : ltN (G7 jn) (G7 (jn - 1)) = false := by simpa using hm
                              clear hm
                              go_quiet ((go_at_call 106; refine Calls.quiet_of_same (Less_calls _ _ _)))
                              go_wp2
                              have HON : Fact (partialIns ltN a b s i2 dx = PE) := ⟨by rw [← HO.out]; exact (pi_go HST.out (by omega) h50 HD2.out (by rw [if_pos h2]; exact (HO7.out.symm.trans (su_stop hjb (by rw [← HG7.out, ← HG7.out]; exact hm'))).symm)).symm⟩
                              go_roundg s
                              case measure => omega
                              case rel => exact ⟨i2, jj + 1, dx, rfl, by go_num, ⟨by omega⟩, ⟨by omega⟩, HSJ7, ⟨HAR7.out.drewN _⟩, ⟨grown_drewN HGR7.out _⟩, HON⟩
                          · go_wp2
                            have HON : Fact (partialIns ltN a b s i2 dx = PE) := ⟨by rw [← HO.out]; exact (pi_go HST.out (by omega) h50 HD2.out (by rw [if_pos h2]; exact (HO7.out.symm.trans (su_end (by omega))).symm)).symm⟩
                            go_roundg s
                            case measure => omega
                            case rel => exact ⟨i2, jj + 1, dx, rfl, by go_num, ⟨by omega⟩, ⟨by omega⟩, HSJ7, HAR7, HGR7, HON⟩
                      · have h2' : ¬ (b : Int) - (i2 : Int) ≥ 2 := by omega
                        have h2d : decide ((b : Int) - (i2 : Int) ≥ 2) = false := decide_eq_false h2'
                        have h2e : decide (2 ≤ (b : Int) - (i2 : Int)) = false := decide_eq_false h2'
                        go_quiet ((go_at_call 106; refine Calls.quiet_of_same (Less_calls _ _ _)))
                        clear hcw hfw
                        go_wp2
                        have HON : Fact (partialIns ltN a b s i2 dj = PE) := ⟨by rw [← HO.out]; exact (pi_go HST.out (by omega) h50 HD2.out (by rw [if_neg (by omega)])).symm⟩
                        go_roundg s
                        case measure => omega
                        case rel => exact ⟨i2, jj + 1, dj, rfl, by go_num, ⟨by omega⟩, ⟨by omega⟩, HSJ, ⟨HAR6.out.drewN _⟩, ⟨grown_drewN HGR6.out _⟩, HON⟩
                  · have HD2 : Fact (dj = if i2 - a ≥ 2 then shiftDown ltN (i2 - 1) (swp dk i2 (i2 - 1)) else swp dk i2 (i2 - 1)) := ⟨by rw [if_pos h1, ← HO6.out]; exact (sdn_stop (.inl (by omega))).symm⟩
                    by_cases h2 : b - i2 ≥ 2
                    · have h2' : (b : Int) - (i2 : Int) ≥ 2 := by omega
                      go_wp2
                      go_loopg [10] (b - (i2 + 1)) (fun kd vj w7 => ∃ (jn : Nat) (dx : Array Nat), vj = .int .i64 (jn : Int) ∧ Fact (b - jn = kd) ∧ Fact (i2 < jn ∧ jn ≤ b) ∧ Fact (dx.size = n) ∧ Fact (Arr w7 g off dx N) ∧ Fact (w.grownBy w7 (some g)) ∧ Fact (shiftUp ltN b jn dx = shiftUp ltN b (i2 + 1) dj))
                      case atStart => exact ⟨i2 + 1, dj, by go_num, ⟨rfl⟩, ⟨by omega⟩, HSJ, HAR6, HGR6, ⟨rfl⟩⟩
                      case round =>
                        obtain ⟨jn, dx, rfl, HK7, HB7, HSJ7, HAR7, HGR7, HO7⟩ := hrel
                        have hb7 := HB7.out
                        by_cases hjb : jn < b
                        · obtain ⟨G7, hG7, hcw, hfw⟩ := fam HAR7.out
                          rw [HSJ7.out] at hcw hfw
                          have HG7 := Fact.mk hG7
                          clear hG7
                          go_wp2
                          by_cases hm : ltN (G7 jn) (G7 (jn - 1)) = true
                          · go_quiet ((go_at_call 106; refine Calls.quiet_of_same (Less_calls _ _ _)))
                            go_wp2
                            obtain ⟨v9, hcs0⟩ := cell?_setCell_some (p := ⟨g, off + jn, none⟩) (x := .int .u64 (G7 (jn - 1) : Int)) (hcw (jn - 1) (by omega))
                            have hcs : ∀ q, ((wr.drewN q).setCell ⟨g, off + jn, none⟩ (.int .u64 (G7 (jn - 1) : Int))).cell? ⟨g, off + (jn - 1), none⟩ = some v9 := fun q => hcs0
                            go_region
                            all_goals go_wp2
                            go_roundg (b - (jn + 1))
                            case measure => have := HK7.out; omega
                            case rel => exact ⟨jn + 1, swp dx jn (jn - 1), by go_num, ⟨rfl⟩, ⟨by omega⟩, ⟨by rw [size_swp]; exact HSJ7.out⟩, ⟨swap_world HAR7.out HG7.out (by rw [HSJ7.out]; omega) (by rw [HSJ7.out]; omega) _⟩, ⟨swap_grown HGR7.out _ _ _ _ _⟩, ⟨by rw [← HO7.out, su_go hjb (by rw [← HG7.out, ← HG7.out]; exact hm)]⟩⟩
                          · have hm' : ltN (G7 jn) (G7 (jn - 1)) = false := by simpa using hm
                            clear hm
                            go_quiet ((go_at_call 106; refine Calls.quiet_of_same (Less_calls _ _ _)))
                            go_wp2
                            have HON : Fact (partialIns ltN a b s i2 dx = PE) := ⟨by rw [← HO.out]; exact (pi_go HST.out (by omega) h50 HD2.out (by rw [if_pos h2]; exact (HO7.out.symm.trans (su_stop hjb (by rw [← HG7.out, ← HG7.out]; exact hm'))).symm)).symm⟩
                            go_roundg s
                            case measure => omega
                            case rel => exact ⟨i2, jj + 1, dx, rfl, by go_num, ⟨by omega⟩, ⟨by omega⟩, HSJ7, ⟨HAR7.out.drewN _⟩, ⟨grown_drewN HGR7.out _⟩, HON⟩
                        · go_wp2
                          have HON : Fact (partialIns ltN a b s i2 dx = PE) := ⟨by rw [← HO.out]; exact (pi_go HST.out (by omega) h50 HD2.out (by rw [if_pos h2]; exact (HO7.out.symm.trans (su_end (by omega))).symm)).symm⟩
                          go_roundg s
                          case measure => omega
                          case rel => exact ⟨i2, jj + 1, dx, rfl, by go_num, ⟨by omega⟩, ⟨by omega⟩, HSJ7, HAR7, HGR7, HON⟩
                    · have h2' : ¬ (b : Int) - (i2 : Int) ≥ 2 := by omega
                      have h2d : decide ((b : Int) - (i2 : Int) ≥ 2) = false := decide_eq_false h2'
                      have h2e : decide (2 ≤ (b : Int) - (i2 : Int)) = false := decide_eq_false h2'
                      go_wp2
                      have HON : Fact (partialIns ltN a b s i2 dj = PE) := ⟨by rw [← HO.out]; exact (pi_go HST.out (by omega) h50 HD2.out (by rw [if_neg (by omega)])).symm⟩
                      go_roundg s
                      case measure => omega
                      case rel => exact ⟨i2, jj + 1, dj, rfl, by go_num, ⟨by omega⟩, ⟨by omega⟩, HSJ, HAR6, HGR6, HON⟩
              · have h1' : ¬ (i2 : Int) - (a : Int) ≥ 2 := by omega
                have HD2 : Fact (swp dk i2 (i2 - 1) = if i2 - a ≥ 2 then shiftDown ltN (i2 - 1) (swp dk i2 (i2 - 1)) else swp dk i2 (i2 - 1)) := ⟨by rw [if_neg h1]⟩
                by_cases h2 : b - i2 ≥ 2
                · have h2' : (b : Int) - (i2 : Int) ≥ 2 := by omega
                  clear hcw hfw
                  go_wp2
                  go_loopg [10] (b - (i2 + 1)) (fun kd vj w7 => ∃ (jn : Nat) (dx : Array Nat), vj = .int .i64 (jn : Int) ∧ Fact (b - jn = kd) ∧ Fact (i2 < jn ∧ jn ≤ b) ∧ Fact (dx.size = n) ∧ Fact (Arr w7 g off dx N) ∧ Fact (w.grownBy w7 (some g)) ∧ Fact (shiftUp ltN b jn dx = shiftUp ltN b (i2 + 1) (swp dk i2 (i2 - 1))))
                  case atStart => exact ⟨i2 + 1, (swp dk i2 (i2 - 1)), by go_num, ⟨rfl⟩, ⟨by omega⟩, ⟨by rw [size_swp]; exact HSK.out⟩, ⟨swap_world HAR3.out HG3.out (by rw [HSK.out]; omega) (by rw [HSK.out]; omega) _⟩, ⟨swap_grown HGR3.out _ _ _ _ _⟩, ⟨rfl⟩⟩
                  case round =>
                    obtain ⟨jn, dx, rfl, HK7, HB7, HSJ7, HAR7, HGR7, HO7⟩ := hrel
                    have hb7 := HB7.out
                    by_cases hjb : jn < b
                    · obtain ⟨G7, hG7, hcw, hfw⟩ := fam HAR7.out
                      rw [HSJ7.out] at hcw hfw
                      have HG7 := Fact.mk hG7
                      clear hG7
                      go_wp2
                      by_cases hm : ltN (G7 jn) (G7 (jn - 1)) = true
                      · go_quiet ((go_at_call 106; refine Calls.quiet_of_same (Less_calls _ _ _)))
                        go_wp2
                        obtain ⟨v9, hcs0⟩ := cell?_setCell_some (p := ⟨g, off + jn, none⟩) (x := .int .u64 (G7 (jn - 1) : Int)) (hcw (jn - 1) (by omega))
                        have hcs : ∀ q, ((wr.drewN q).setCell ⟨g, off + jn, none⟩ (.int .u64 (G7 (jn - 1) : Int))).cell? ⟨g, off + (jn - 1), none⟩ = some v9 := fun q => hcs0
                        go_region
                        all_goals go_wp2
                        go_roundg (b - (jn + 1))
                        case measure => have := HK7.out; omega
                        case rel => exact ⟨jn + 1, swp dx jn (jn - 1), by go_num, ⟨rfl⟩, ⟨by omega⟩, ⟨by rw [size_swp]; exact HSJ7.out⟩, ⟨swap_world HAR7.out HG7.out (by rw [HSJ7.out]; omega) (by rw [HSJ7.out]; omega) _⟩, ⟨swap_grown HGR7.out _ _ _ _ _⟩, ⟨by rw [← HO7.out, su_go hjb (by rw [← HG7.out, ← HG7.out]; exact hm)]⟩⟩
                      · have hm' : ltN (G7 jn) (G7 (jn - 1)) = false := by simpa using hm
                        clear hm
                        go_quiet ((go_at_call 106; refine Calls.quiet_of_same (Less_calls _ _ _)))
                        go_wp2
                        have HON : Fact (partialIns ltN a b s i2 dx = PE) := ⟨by rw [← HO.out]; exact (pi_go HST.out (by omega) h50 HD2.out (by rw [if_pos h2]; exact (HO7.out.symm.trans (su_stop hjb (by rw [← HG7.out, ← HG7.out]; exact hm'))).symm)).symm⟩
                        go_roundg s
                        case measure => omega
                        case rel => exact ⟨i2, jj + 1, dx, rfl, by go_num, ⟨by omega⟩, ⟨by omega⟩, HSJ7, ⟨HAR7.out.drewN _⟩, ⟨grown_drewN HGR7.out _⟩, HON⟩
                    · go_wp2
                      have HON : Fact (partialIns ltN a b s i2 dx = PE) := ⟨by rw [← HO.out]; exact (pi_go HST.out (by omega) h50 HD2.out (by rw [if_pos h2]; exact (HO7.out.symm.trans (su_end (by omega))).symm)).symm⟩
                      go_roundg s
                      case measure => omega
                      case rel => exact ⟨i2, jj + 1, dx, rfl, by go_num, ⟨by omega⟩, ⟨by omega⟩, HSJ7, HAR7, HGR7, HON⟩
                · have h2' : ¬ (b : Int) - (i2 : Int) ≥ 2 := by omega
                  have h2d : decide ((b : Int) - (i2 : Int) ≥ 2) = false := decide_eq_false h2'
                  have h2e : decide (2 ≤ (b : Int) - (i2 : Int)) = false := decide_eq_false h2'
                  clear hcw hfw
                  go_wp2
                  have HON : Fact (partialIns ltN a b s i2 (swp dk i2 (i2 - 1)) = PE) := ⟨by rw [← HO.out]; exact (pi_go HST.out (by omega) h50 HD2.out (by rw [if_neg (by omega)])).symm⟩
                  go_roundg s
                  case measure => omega
                  case rel => exact ⟨i2, jj + 1, (swp dk i2 (i2 - 1)), rfl, by go_num, ⟨by omega⟩, ⟨by omega⟩, ⟨by rw [size_swp]; exact HSK.out⟩, ⟨swap_world HAR3.out HG3.out (by rw [HSK.out]; omega) (by rw [HSK.out]; omega) _⟩, ⟨swap_grown HGR3.out _ _ _ _ _⟩, HON⟩
          · have hl' : ltN (G3 i2) (G3 (i2 - 1)) = false := by simpa using hl
            clear hl
            go_quiet ((go_at_call 106; refine Calls.quiet_of_same (Less_calls _ _ _)))
            go_wp2
            go_roundg (b - (i2 + 1))
            case measure => have := HK2.out; omega
            case rel => exact ⟨i2 + 1, by go_num, ⟨rfl⟩, ⟨by omega⟩, ⟨HAR3.out.drewN _⟩, ⟨grown_drewN HGR3.out _⟩, ⟨by rw [← HO2.out, ss_go hlt (by rw [← HG3.out, ← HG3.out]; exact hl')]⟩⟩
        · have hib : i2 = b := by omega
          subst hib
          have HST : Fact (scanSorted ltN dk i2 i = i2) := ⟨by rw [← HO2.out]; exact ss_stop (.inl hlt)⟩
          have hE : PE = (dk, true) := by rw [← HO.out]; exact pi_full HST.out
          subst hE
          go_quiet ((go_at_call 106; refine Calls.quiet_of_same (Less_calls _ _ _)))
          go_wp2
          go_ret
          exact ⟨rfl, ⟨HAR3.out.drewN _⟩, ⟨grown_drewN HGR3.out _⟩⟩
end Go.Proofs.YtkmcjokoinoahaaDoor.SortG
