/- slices.partitionEqualOrdered at uint64: the library's own text computes 'partitionEqual'. -/
import Derived.Test.YtkmcjokoinoahaaDoorSortD
set_option linter.unusedVariables false
set_option linter.unusedSimpArgs false
namespace Go.Proofs.YtkmcjokoinoahaaDoor.SortE
open Go.RowKit Go.Proofs.YtkmcjokoinoahaaDoor.Lib Go.Proofs.YtkmcjokoinoahaaDoor.SortA Go.Proofs.YtkmcjokoinoahaaDoor.SortB Go.Proofs.YtkmcjokoinoahaaDoor.SortC
open Go.Sort (swp scanUp scanDown partEqLoop partitionEqual partLoop partition size_swp)
theorem up_go {p : Nat → Bool} {d : Array Nat} {j i : Nat} (h : i ≤ j) (hp : p d[i]! = true) : scanUp p d j i = scanUp p d j (i + 1) := by
  rw [scanUp]; simp [h, hp]
theorem up_stop {p : Nat → Bool} {d : Array Nat} {j i : Nat} (h : ¬ i ≤ j ∨ p d[i]! = false) : scanUp p d j i = i := by
  rw [scanUp]
  rcases h with h | h
  · simp [h]
  · simp [h]
theorem down_go {p : Nat → Bool} {d : Array Nat} {j i : Nat} (hi : 0 < i) (h : i ≤ j) (hp : p d[j]! = true) : scanDown p d i j = scanDown p d i (j - 1) := by
  obtain ⟨k, rfl⟩ : ∃ k, j = k + 1 := ⟨j - 1, by omega⟩
  rw [scanDown]; simp [h, hp]
theorem down_stop {p : Nat → Bool} {d : Array Nat} {j i : Nat} (hi : 0 < i) (h : ¬ i ≤ j ∨ p d[j]! = false) : scanDown p d i j = j := by
  rcases Nat.eq_zero_or_pos j with h0 | h0
  · subst h0; rfl
  · obtain ⟨k, rfl⟩ : ∃ k, j = k + 1 := ⟨j - 1, by omega⟩
    rw [scanDown]
    rcases h with h | h
    · simp [h]
    · simp [h]
theorem pe_go {a i j i2 j2 : Nat} {d : Array Nat} (hu : scanUp (fun x => !ltN d[a]! x) d j i = i2) (hd : scanDown (fun x => ltN d[a]! x) d i2 j = j2) (h : i2 ≤ j2) (h1 : i ≤ i2) (h2 : j2 ≤ j) (h0 : 0 < i) : partEqLoop ltN a i j d = partEqLoop ltN a (i2 + 1) (j2 - 1) (swp d i2 j2) := by
  rw [partEqLoop]
  simp only [hu, hd]
  rw [if_neg (by omega), dif_pos (by omega)]
theorem pe_stop {a i j i2 j2 : Nat} {d : Array Nat} (hu : scanUp (fun x => !ltN d[a]! x) d j i = i2) (hd : scanDown (fun x => ltN d[a]! x) d i2 j = j2) (h : j2 < i2) : partEqLoop ltN a i j d = (i2, d) := by
  rw [partEqLoop]
  simp only [hu, hd]
  rw [if_pos h]
/-- A swap's world, drawn behind or ahead. -/
theorem swap_worldD {wr : World} {g off N : Nat} {d : Array Nat} {G : Nat → Nat} (hA : Arr wr g off d N) (hG : ∀ t, G t = d[t]!) {i j : Nat} (hi : i < d.size) (hj : j < d.size) (q q2 : Nat) :
    Arr ((((wr.drewN q).setCell ⟨g, off + i, none⟩ (.int .u64 (G j : Int))).setCell ⟨g, off + j, none⟩ (.int .u64 (G i : Int))).drewN q2) g off (swp d i j) N :=
  (swap_world hA hG hi hj q).drewN q2
set_option maxHeartbeats 4000000 in
set_option maxRecDepth 100000 in
theorem PartEq_calls (w : World) (g off cap a b p N : Nat) (d : Array Nat) (hA : Arr w g off d N) (hap : a ≤ p) (hpb : p < b) (hb : b ≤ d.size) (hsz : d.size < 4611686018427387904) :
    Calls Tryd.prog 107 #[.slice (some ⟨g, off, none⟩) d.size cap, .int .i64 (a : Int), .int .i64 (b : Int), .int .i64 (p : Int)] w fun e w' => e = .returned (.int .i64 ((partitionEqual ltN d a b p).1 : Int)) ∧ Fact (Arr w' g off (partitionEqual ltN d a b p).2 N) ∧ Fact (w.grownBy w' (some g)) := by
  have HA := Fact.mk hA
  clear hA
  obtain ⟨n, hn⟩ : ∃ n, d.size = n := ⟨_, rfl⟩
  rw [hn] at hb hsz ⊢
  have HN := Fact.mk hn
  clear hn
  obtain ⟨e, rfl⟩ : ∃ e, b = e + 1 := ⟨b - 1, by omega⟩
  obtain ⟨PE, hPE⟩ : ∃ x, partitionEqual ltN d a (e + 1) p = x := ⟨_, rfl⟩
  have HPE : Fact (partEqLoop ltN a (a + 1) e (swp d a p) = PE) := ⟨hPE⟩
  rw [hPE]
  clear hPE
  have e1 : ((e + 1 : Nat) : Int) - 1 = (e : Int) := by omega
  obtain ⟨G, hG, hcw, hfw⟩ := fam HA.out
  rw [HN.out] at hcw hfw
  have HG := Fact.mk hG
  clear hG
  obtain ⟨v2, hcs⟩ := cell?_setCell_some (p := ⟨g, off + a, none⟩) (x := .int .u64 (G p : Int)) (hcw p (by omega))
  go_enter Tryd.func107, Tryd.ntmps107
  go_wp2
  go_region
  all_goals go_wp2
  have HD1 : Fact (swp d a p = swp d a p) := ⟨rfl⟩
  have HA1 : Fact (Arr (((w.setCell ⟨g, off + a, none⟩ (.int .u64 (G p : Int))).setCell ⟨g, off + p, none⟩ (.int .u64 (G a : Int))).drew) g off (swp d a p) N) := ⟨swap_worldD HA.out HG.out (by rw [HN.out]; omega) (by rw [HN.out]; omega) 0 1⟩
  have HS1 : Fact ((swp d a p).size = n) := ⟨by rw [size_swp]; exact HN.out⟩
  clear hcw hfw hcs HG
  go_loopg [9, 10] (e + 1 - (a + 1)) (fun kq vi vj wr => ∃ (i j : Nat) (dk : Array Nat), vi = .int .i64 (i : Int) ∧ vj = .int .i64 (j : Int) ∧ Fact (j + 1 - i = kq) ∧ Fact (a < i ∧ i ≤ e + 1 ∧ a ≤ j ∧ j ≤ e) ∧ Fact (dk.size = n) ∧ Fact (Arr wr g off dk N) ∧ Fact (w.grownBy wr (some g)) ∧ Fact (partEqLoop ltN a i j dk = PE))
  case atStart => exact ⟨a + 1, e, swp d a p, by go_num, by congr 1, ⟨rfl⟩, ⟨by omega⟩, HS1, HA1, ⟨grown_drewN (grown_set (grown_set (grown_refl _ _) _ _) _ _) 1⟩, HPE⟩
  case round =>
    obtain ⟨i, j, dk, rfl, rfl, HK, HB, HSK, HAR, HGR, HO⟩ := hrel
    have hb1 := HB.out
    obtain ⟨G2, hG2, hcw, hfw⟩ := fam HAR.out
    have HG2 := Fact.mk hG2
    clear hG2 HA1 HPE HS1
    obtain ⟨PU, hPU⟩ : ∃ f, f = fun x => !ltN dk[a]! x := ⟨_, rfl⟩
    have HPU : Fact (∀ x, PU x = !ltN (G2 a) x) := ⟨fun x => by rw [hPU, HG2.out]⟩
    obtain ⟨PD, hPD⟩ : ∃ f, f = fun x => ltN dk[a]! x := ⟨_, rfl⟩
    have HPD : Fact (∀ x, PD x = ltN (G2 a) x) := ⟨fun x => by rw [hPD, HG2.out]⟩
    have HPU2 := Fact.mk hPU
    have HPD2 := Fact.mk hPD
    clear hPU hPD hcw hfw
    go_wp2
    go_loopg [9] (e + 1 - i) (fun ku vi w2 => ∃ (i2 : Nat), vi = .int .i64 (i2 : Int) ∧ Fact (e + 1 - i2 = ku) ∧ Fact (i ≤ i2 ∧ i2 ≤ e + 1) ∧ Fact (Arr w2 g off dk N) ∧ Fact (w.grownBy w2 (some g)) ∧ Fact (scanUp PU dk j i2 = scanUp PU dk j i))
    case atStart => exact ⟨i, rfl, ⟨rfl⟩, ⟨by omega⟩, HAR, HGR, ⟨rfl⟩⟩
    case round =>
      obtain ⟨i2, rfl, HK2, HB2, HAR2, HGR2, HO2⟩ := hrel
      have hb2 := HB2.out
      obtain ⟨G3, hG3, hcw, hfw⟩ := fam HAR2.out
      rw [HSK.out] at hcw hfw
      have HG3 : Fact (∀ t, G2 t = G3 t) := ⟨fun t => by rw [hG3, HG2.out]⟩
      have HP3 : Fact (∀ t, PU dk[t]! = !ltN (G3 a) (G3 t)) := ⟨fun t => by rw [HPU.out, HG3.out, hG3 t]⟩
      clear hG3
      go_wp2
      by_cases hlt : i2 ≤ j
      · by_cases hl : ltN (G3 a) (G3 i2) = true
        · have HST : Fact (scanUp PU dk j i = i2) := ⟨by rw [← HO2.out]; exact up_stop (.inr (by rw [HP3.out, hl]; rfl))⟩
          go_quiet ((go_at_call 106; refine Calls.quiet_of_same (Less_calls _ _ _)))
          clear hcw hfw HK2 HO2
          go_wp2
          go_loopg [10] (j - a) (fun kd vj w3 => ∃ (j2 : Nat), vj = .int .i64 (j2 : Int) ∧ Fact (j2 - a = kd) ∧ Fact (a ≤ j2 ∧ j2 ≤ j) ∧ Fact (Arr w3 g off dk N) ∧ Fact (w.grownBy w3 (some g)) ∧ Fact (scanDown PD dk i2 j2 = scanDown PD dk i2 j))
          case atStart => exact ⟨j, rfl, ⟨rfl⟩, ⟨by omega⟩, ⟨HAR2.out.drewN _⟩, ⟨grown_drewN HGR2.out _⟩, ⟨rfl⟩⟩
          case round =>
            obtain ⟨j2, rfl, HK3, HB3, HAR3, HGR3, HO3⟩ := hrel
            have hb3 := HB3.out
            obtain ⟨G4, hG4, hcw, hfw⟩ := fam HAR3.out
            rw [HSK.out] at hcw hfw
            have HG4 := Fact.mk hG4
            have HP4 : Fact (∀ t, PD dk[t]! = ltN (G4 a) (G4 t)) := ⟨fun t => by rw [HPD.out, hG4 t, HG2.out, hG4 a]⟩
            clear hG4
            have hi0 : 0 < i2 := by omega
            go_wp2
            by_cases hlt2 : i2 ≤ j2
            · by_cases hm : ltN (G4 a) (G4 j2) = true
              · go_quiet ((go_at_call 106; refine Calls.quiet_of_same (Less_calls _ _ _)))
                go_wp2
                go_roundg (j2 - 1 - a)
                case measure => have := HK3.out; omega
                case rel => exact ⟨j2 - 1, by congr 1; omega, ⟨rfl⟩, ⟨by omega⟩, ⟨HAR3.out.drewN _⟩, ⟨grown_drewN HGR3.out _⟩, ⟨by rw [← HO3.out, down_go hi0 hlt2 (by rw [HP4.out, hm])]⟩⟩
              · have hm' : ltN (G4 a) (G4 j2) = false := by simpa using hm
                clear hm
                have HSD : Fact (scanDown PD dk i2 j = j2) := ⟨by rw [← HO3.out]; exact down_stop hi0 (.inr (by rw [HP4.out, hm']))⟩
                have HON : Fact (partEqLoop ltN a (i2 + 1) (j2 - 1) (swp dk i2 j2) = PE) := ⟨by rw [← HO.out]; exact (pe_go (by rw [← HPU2.out]; exact HST.out) (by rw [← HPD2.out]; exact HSD.out) hlt2 (by omega) (by omega) (by omega)).symm⟩
                go_quiet ((go_at_call 106; refine Calls.quiet_of_same (Less_calls _ _ _)))
                go_wp2
                obtain ⟨v3, hcs0⟩ := cell?_setCell_some (p := ⟨g, off + i2, none⟩) (x := .int .u64 (G4 j2 : Int)) (hcw j2 (by omega))
                have hcs : ∀ q, ((wr.drewN q).setCell ⟨g, off + i2, none⟩ (.int .u64 (G4 j2 : Int))).cell? ⟨g, off + j2, none⟩ = some v3 := fun q => hcs0
                go_region
                all_goals go_wp2
                go_roundg (j2 - 1 + 1 - (i2 + 1))
                case measure => have := HK.out; omega
                case rel => exact ⟨i2 + 1, j2 - 1, swp dk i2 j2, by go_num, by congr 1; omega, ⟨rfl⟩, ⟨by omega⟩, ⟨by rw [size_swp]; exact HSK.out⟩, ⟨swap_world HAR3.out HG4.out (by rw [HSK.out]; omega) (by rw [HSK.out]; omega) _⟩, ⟨swap_grown HGR3.out _ _ _ _ _⟩, HON⟩
            · have HSD : Fact (scanDown PD dk i2 j = j2) := ⟨by rw [← HO3.out]; exact down_stop hi0 (.inl hlt2)⟩
              have hE : PE = (i2, dk) := by rw [← HO.out]; exact pe_stop (i2 := i2) (j2 := j2) (by rw [← HPU2.out]; exact HST.out) (by rw [← HPD2.out]; exact HSD.out) (by omega)
              subst hE
              go_quiet ((go_at_call 106; refine Calls.quiet_of_same (Less_calls _ _ _)))
              go_wp2
              go_ret
              exact ⟨rfl, ⟨HAR3.out.drewN _⟩, ⟨grown_drewN HGR3.out _⟩⟩
        · have hl' : ltN (G3 a) (G3 i2) = false := by simpa using hl
          clear hl
          go_quiet ((go_at_call 106; refine Calls.quiet_of_same (Less_calls _ _ _)))
          go_wp2
          go_roundg (e + 1 - (i2 + 1))
          case measure => have := HK2.out; omega
          case rel => exact ⟨i2 + 1, by go_num, ⟨rfl⟩, ⟨by omega⟩, ⟨HAR2.out.drewN _⟩, ⟨grown_drewN HGR2.out _⟩, ⟨by rw [← HO2.out, up_go hlt (by rw [HP3.out, hl']; rfl)]⟩⟩
      · have HST : Fact (scanUp PU dk j i = i2) := ⟨by rw [← HO2.out]; exact up_stop (.inl hlt)⟩
        go_quiet ((go_at_call 106; refine Calls.quiet_of_same (Less_calls _ _ _)))
        clear hcw hfw HK2 HO2
        go_wp2
        go_loopg [10] (j - a) (fun kd vj w3 => ∃ (j2 : Nat), vj = .int .i64 (j2 : Int) ∧ Fact (j2 - a = kd) ∧ Fact (a ≤ j2 ∧ j2 ≤ j) ∧ Fact (Arr w3 g off dk N) ∧ Fact (w.grownBy w3 (some g)) ∧ Fact (scanDown PD dk i2 j2 = scanDown PD dk i2 j))
        case atStart => exact ⟨j, rfl, ⟨rfl⟩, ⟨by omega⟩, ⟨HAR2.out.drewN _⟩, ⟨grown_drewN HGR2.out _⟩, ⟨rfl⟩⟩
        case round =>
          obtain ⟨j2, rfl, HK3, HB3, HAR3, HGR3, HO3⟩ := hrel
          have hb3 := HB3.out
          obtain ⟨G4, hG4, hcw, hfw⟩ := fam HAR3.out
          rw [HSK.out] at hcw hfw
          have HG4 := Fact.mk hG4
          have HP4 : Fact (∀ t, PD dk[t]! = ltN (G4 a) (G4 t)) := ⟨fun t => by rw [HPD.out, hG4 t, HG2.out, hG4 a]⟩
          clear hG4
          have hi0 : 0 < i2 := by omega
          go_wp2
          by_cases hlt2 : i2 ≤ j2
          · exact absurd hlt2 (by omega)
          · have HSD : Fact (scanDown PD dk i2 j = j2) := ⟨by rw [← HO3.out]; exact down_stop hi0 (.inl hlt2)⟩
            have hE : PE = (i2, dk) := by rw [← HO.out]; exact pe_stop (i2 := i2) (j2 := j2) (by rw [← HPU2.out]; exact HST.out) (by rw [← HPD2.out]; exact HSD.out) (by omega)
            subst hE
            go_quiet ((go_at_call 106; refine Calls.quiet_of_same (Less_calls _ _ _)))
            go_wp2
            go_ret
            exact ⟨rfl, ⟨HAR3.out.drewN _⟩, ⟨grown_drewN HGR3.out _⟩⟩
end Go.Proofs.YtkmcjokoinoahaaDoor.SortE
