/- slices.heapSortOrdered, reverseRangeOrdered at uint64: the library's own text computes 'heapSort', 'reverseRange'. -/
import Derived.Test.YtkmcjokoinoahaaDoorSortC
set_option linter.unusedVariables false
set_option linter.unusedSimpArgs false
namespace Go.Proofs.YtkmcjokoinoahaaDoor.SortD
open Go.RowKit Go.Proofs.YtkmcjokoinoahaaDoor.Lib Go.Proofs.YtkmcjokoinoahaaDoor.SortA Go.Proofs.YtkmcjokoinoahaaDoor.SortB Go.Proofs.YtkmcjokoinoahaaDoor.SortC
open Go.Sort (swp siftDown heapBuild heapPop heapSort reverseLoop reverseRange size_swp)
theorem build_size (hi first : Nat) : ∀ (k : Nat) (d : Array Nat), (heapBuild ltN hi first k d).size = d.size
  | 0, _ => rfl
  | k + 1, d => by
    show (heapBuild ltN hi first k (siftDown ltN hi first k d)).size = d.size
    rw [build_size hi first k, sd_size hi first _ k d (Nat.le_refl _)]
set_option maxHeartbeats 2000000 in
set_option maxRecDepth 100000 in
theorem Heap_calls (w : World) (g off cap a b N : Nat) (d : Array Nat) (hA : Arr w g off d N) (hab : a ≤ b) (hb : b ≤ d.size) (hsz : d.size < 1152921504606846976) :
    Calls Tryd.prog 101 #[.slice (some ⟨g, off, none⟩) d.size cap, .int .i64 (a : Int), .int .i64 (b : Int)] w fun e w' => e = .returned (.tuple #[]) ∧ Fact (Arr w' g off (heapSort ltN d a b) N) ∧ Fact (w.grownBy w' (some g)) := by
  have HA := Fact.mk hA
  clear hA
  obtain ⟨n, hn⟩ : ∃ n, d.size = n := ⟨_, rfl⟩
  rw [hn] at hb hsz ⊢
  have HN := Fact.mk hn
  clear hn
  obtain ⟨hi, hhi⟩ : ∃ hi, b - a = hi := ⟨_, rfl⟩
  have e1 : (b : Int) - (a : Int) = (hi : Int) := by omega
  have hfi : a + hi ≤ n := by omega
  obtain ⟨K, hK⟩ : ∃ K, (hi - 1) / 2 = K := ⟨_, rfl⟩
  have hKh : K ≤ hi := by omega
  have e2 : ((hi : Int) - 1).tdiv 2 = (K : Int) := by
    rcases Nat.eq_zero_or_pos hi with h0 | h0
    · subst h0
      have : K = 0 := by omega
      subst this
      rfl
    · rw [Int.tdiv_eq_ediv_of_nonneg (by omega)]; omega
  have HHS : Fact (heapSort ltN d a b = heapPop ltN a hi (heapBuild ltN hi a (K + 1) d)) := ⟨by unfold heapSort; rw [hhi, hK]⟩
  clear hhi hK
  go_enter Tryd.func101, Tryd.ntmps101
  go_wp2
  go_loopg [9] (K + 1) (fun kq vi wr => ∃ (dk : Array Nat), vi = .int .i64 ((kq : Int) - 1) ∧ Fact (kq ≤ K + 1) ∧ Fact (dk.size = n) ∧ Fact (Arr wr g off dk N) ∧ Fact (w.grownBy wr (some g)) ∧ Fact (heapBuild ltN hi a kq dk = heapBuild ltN hi a (K + 1) d))
  case atStart => exact ⟨d, by congr 1; omega, ⟨by omega⟩, HN, HA, ⟨grown_refl _ _⟩, ⟨rfl⟩⟩
  case round =>
    obtain ⟨dk, rfl, HK, HSK, HAR, HGR, HO⟩ := hrel
    rcases Nat.eq_zero_or_pos gk with h0 | h0
    · subst h0
      have e0 : ((0 : Nat) : Int) - 1 = -1 := rfl
      rw [e0]
      have HB : Fact (heapBuild ltN hi a (K + 1) d = dk) := ⟨HO.out.symm⟩
      have e3 : (hi : Int) - 1 = ((hi : Int) - 1) := rfl
      clear HO
      go_wp2
      go_loopg [10] hi (fun kq vi w2 => ∃ (dj : Array Nat), vi = .int .i64 ((kq : Int) - 1) ∧ Fact (kq ≤ hi) ∧ Fact (dj.size = n) ∧ Fact (Arr w2 g off dj N) ∧ Fact (w.grownBy w2 (some g)) ∧ Fact (heapPop ltN a kq dj = heapPop ltN a hi dk))
      case atStart => exact ⟨dk, rfl, ⟨Nat.le_refl _⟩, HSK, HAR, HGR, ⟨rfl⟩⟩
      case round =>
        obtain ⟨dj, rfl, HK2, HSJ, HAJ, HGJ, HO2⟩ := hrel
        rcases Nat.eq_zero_or_pos gk with h0 | h0
        · subst h0
          have e0 : ((0 : Nat) : Int) - 1 = -1 := rfl
          rw [e0]
          go_wp2
          go_end0
          exact ⟨rfl, ⟨by rw [HHS.out, HB.out, ← HO2.out]; exact HAJ.out⟩, HGJ⟩
        · obtain ⟨k, rfl⟩ : ∃ k, gk = k + 1 := ⟨gk - 1, by omega⟩
          have e0 : ((k + 1 : Nat) : Int) - 1 = (k : Int) := by omega
          rw [e0]
          have hk2 := HK2.out
          have HPO : Fact (heapPop ltN a k (siftDown ltN k a 0 (swp dj a (a + k))) = heapPop ltN a hi dk) := ⟨HO2.out⟩
          obtain ⟨G, hG, hcw, hfw⟩ := fam HAJ.out
          rw [HSJ.out] at hcw hfw
          have HG := Fact.mk hG
          have HSW : Fact (Arr (((wr.setCell ⟨g, off + a, none⟩ (.int .u64 (G (a + k) : Int))).setCell ⟨g, off + (a + k), none⟩ (.int .u64 (G a : Int))).drew) g off (swp dj a (a + k)) N) := by
            have hs := HAJ.out.swap (i := a) (j := a + k) (by rw [HSJ.out]; omega) (by rw [HSJ.out]; omega)
            unfold vn at hs
            rw [← hG, ← hG] at hs
            exact ⟨hs.drewN 1⟩
          obtain ⟨v2, hcs⟩ := cell?_setCell_some (p := ⟨g, off + a, none⟩) (x := .int .u64 (G (a + k) : Int)) (hcw (a + k) (by omega))
          clear hG h0 e0 HO2
          go_wp2
          go_region
          all_goals go_wp2_with (go_at_call 112; fail)
          have hq : (swp dj a (a + k)).size = n := by rw [size_swp]; exact HSJ.out
          have hc := Sift_calls _ g off cap 0 k a N (swp dj a (a + k)) HSW.out (Nat.zero_le _) (by rw [hq]; omega) (by rw [hq]; exact hsz)
          rw [hq] at hc
          refine hc.mono ?_
          rintro e w3 ⟨rfl, HA3, HG3⟩
          have HS3 : Fact ((siftDown ltN k a 0 (swp dj a (a + k))).size = n) := ⟨by rw [sd_size k a _ 0 _ (Nat.le_refl _)]; exact hq⟩
          have HG4 : Fact (w.grownBy w3 (some g)) := ⟨grown_trans (grown_drewN (grown_set (grown_set HGJ.out _ _) _ _) 1) HG3.out⟩
          clear hc hq hcs HSW HG3 hcw hfw HG
          go_wp2_with fail
          go_roundg k
          case measure => omega
          case rel => exact ⟨_, by congr 1, ⟨by omega⟩, HS3, HA3, HG4, HPO⟩
    · obtain ⟨k, rfl⟩ : ∃ k, gk = k + 1 := ⟨gk - 1, by omega⟩
      have e0 : ((k + 1 : Nat) : Int) - 1 = (k : Int) := by omega
      rw [e0]
      have hk2 := HK.out
      have HPO : Fact (heapBuild ltN hi a k (siftDown ltN hi a k dk) = heapBuild ltN hi a (K + 1) d) := ⟨HO.out⟩
      clear h0 e0 HO
      go_wp2_with (go_at_call 112; fail)
      have hq := HSK.out
      have hc := Sift_calls wr g off cap k hi a N dk HAR.out (by omega) (by rw [hq]; exact hfi) (by rw [hq]; exact hsz)
      rw [hq] at hc
      refine hc.mono ?_
      rintro e w3 ⟨rfl, HA3, HG3⟩
      have HS3 : Fact ((siftDown ltN hi a k dk).size = n) := ⟨by rw [sd_size hi a _ k dk (Nat.le_refl _)]; exact hq⟩
      clear hc hq
      go_wp2_with fail
      go_roundg k
      case measure => omega
      case rel => exact ⟨_, by congr 1, ⟨by omega⟩, HS3, HA3, ⟨grown_trans HGR.out HG3.out⟩, HPO⟩
theorem rev_go {i j : Nat} (d : Array Nat) (h : i < j) : reverseLoop i j d = reverseLoop (i + 1) (j - 1) (swp d i j) := by
  rw [reverseLoop, if_pos h]
theorem rev_stop {i j : Nat} (d : Array Nat) (h : ¬ i < j) : reverseLoop i j d = d := by
  rw [reverseLoop, if_neg h]
set_option maxHeartbeats 1000000 in
set_option maxRecDepth 100000 in
theorem Rev_calls (w : World) (g off cap a b N : Nat) (d : Array Nat) (hA : Arr w g off d N) (hab : a < b) (hb : b ≤ d.size) (hsz : d.size < 4611686018427387904) :
    Calls Tryd.prog 104 #[.slice (some ⟨g, off, none⟩) d.size cap, .int .i64 (a : Int), .int .i64 (b : Int)] w fun e w' => e = .returned (.tuple #[]) ∧ Fact (Arr w' g off (reverseRange d a b) N) ∧ Fact (w.grownBy w' (some g)) := by
  have HA := Fact.mk hA
  clear hA
  obtain ⟨n, hn⟩ : ∃ n, d.size = n := ⟨_, rfl⟩
  rw [hn] at hb hsz ⊢
  have HN := Fact.mk hn
  clear hn
  obtain ⟨e, rfl⟩ : ∃ e, b = e + 1 := ⟨b - 1, by omega⟩
  have hR : Fact (reverseRange d a (e + 1) = reverseLoop a e d) := ⟨rfl⟩
  have e1 : ((e + 1 : Nat) : Int) - 1 = (e : Int) := by omega
  go_enter Tryd.func104, Tryd.ntmps104
  go_wp2
  go_loopg [6, 7] n (fun kq vi vj wr => ∃ (i j : Nat) (dk : Array Nat), vi = .int .i64 (i : Int) ∧ vj = .int .i64 (j : Int) ∧ Fact (i + kq = a + n) ∧ Fact (j < n) ∧ Fact (i ≤ j + 1) ∧ Fact (dk.size = n) ∧ Fact (Arr wr g off dk N) ∧ Fact (w.grownBy wr (some g)) ∧ Fact (reverseLoop i j dk = reverseLoop a e d))
  case atStart => exact ⟨a, e, d, rfl, by congr 1, ⟨rfl⟩, ⟨by omega⟩, ⟨by omega⟩, HN, HA, ⟨grown_refl _ _⟩, ⟨rfl⟩⟩
  case round =>
    obtain ⟨i, j, dk, rfl, rfl, HK, HJN, HIJ, HSK, HAR, HGR, HO⟩ := hrel
    have hjn := HJN.out
    have hij := HIJ.out
    by_cases hlt : i < j
    · obtain ⟨G, hG, hcw, hfw⟩ := fam HAR.out
      rw [HSK.out] at hcw hfw
      have HG := Fact.mk hG
      clear hG
      go_wp2
      go_region
      all_goals go_wp2
      go_roundg (a + n - (i + 1))
      case measure => have := HK.out; omega
      case rel => exact ⟨i + 1, j - 1, swp dk i j, by go_num, by congr 1; omega, ⟨by have := HK.out; omega⟩, ⟨by omega⟩, ⟨by omega⟩, ⟨by rw [size_swp]; exact HSK.out⟩, ⟨swap_world HAR.out HG.out (by rw [HSK.out]; omega) (by rw [HSK.out]; omega) _⟩, ⟨swap_grown HGR.out _ _ _ _ _⟩, ⟨by rw [← HO.out, rev_go dk hlt]⟩⟩
    · go_wp2
      go_end0
      exact ⟨rfl, ⟨by rw [hR.out, ← HO.out, rev_stop dk hlt]; exact HAR.out⟩, HGR⟩
end Go.Proofs.YtkmcjokoinoahaaDoor.SortD
