/- slices.partitionOrdered at uint64: the library's own text computes 'partition'. -/
import Derived.Test.YtkmcjokoinoahaaDoorSortE
set_option linter.unusedVariables false
set_option linter.unusedSimpArgs false
namespace Go.Proofs.YtkmcjokoinoahaaDoor.SortF
open Go.RowKit Go.Proofs.YtkmcjokoinoahaaDoor.Lib Go.Proofs.YtkmcjokoinoahaaDoor.SortA Go.Proofs.YtkmcjokoinoahaaDoor.SortB Go.Proofs.YtkmcjokoinoahaaDoor.SortC Go.Proofs.YtkmcjokoinoahaaDoor.SortE
open Go.Sort (swp scanUp scanDown partEqLoop partitionEqual partLoop partition size_swp)
theorem pl_go {a i j i2 j2 : Nat} {d : Array Nat} (hu : scanUp (fun x => ltN x d[a]!) d j i = i2) (hd : scanDown (fun x => !ltN x d[a]!) d i2 j = j2) (h : i2 ≤ j2) (h1 : i ≤ i2) (h2 : j2 ≤ j) (h0 : 0 < i) : partLoop ltN a i j d = partLoop ltN a (i2 + 1) (j2 - 1) (swp d i2 j2) := by
  rw [partLoop]
  simp only [hu, hd]
  rw [if_neg (by omega), dif_pos (by omega)]
theorem pl_stop {a i j i2 j2 : Nat} {d : Array Nat} (hu : scanUp (fun x => ltN x d[a]!) d j i = i2) (hd : scanDown (fun x => !ltN x d[a]!) d i2 j = j2) (h : j2 < i2) : partLoop ltN a i j d = (j2, d) := by
  rw [partLoop]
  simp only [hu, hd]
  rw [if_pos h]
theorem pt_stop {a e p i2 j2 : Nat} {d dk : Array Nat} (hk : swp d a p = dk) (hu : scanUp (fun x => ltN x dk[a]!) dk e (a + 1) = i2) (hd : scanDown (fun x => !ltN x dk[a]!) dk i2 e = j2) (h : j2 < i2) : partition ltN d a (e + 1) p = (j2, true, swp dk j2 a) := by
  unfold partition
  simp only [hk, Nat.add_sub_cancel, hu, hd]
  rw [if_pos h]
theorem pt_go {a e p i2 j2 : Nat} {d dk : Array Nat} (hk : swp d a p = dk) (hu : scanUp (fun x => ltN x dk[a]!) dk e (a + 1) = i2) (hd : scanDown (fun x => !ltN x dk[a]!) dk i2 e = j2) (h : i2 ≤ j2) : partition ltN d a (e + 1) p = ((partLoop ltN a (i2 + 1) (j2 - 1) (swp dk i2 j2)).1, false, swp (partLoop ltN a (i2 + 1) (j2 - 1) (swp dk i2 j2)).2 (partLoop ltN a (i2 + 1) (j2 - 1) (swp dk i2 j2)).1 a) := by
  unfold partition
  simp only [hk, Nat.add_sub_cancel, hu, hd]
  rw [if_neg (by omega)]
set_option maxHeartbeats 8000000 in
set_option maxRecDepth 100000 in
theorem Part_calls (w : World) (g off cap a b p N : Nat) (d : Array Nat) (hA : Arr w g off d N) (hap : a ≤ p) (hpb : p < b) (hb : b ≤ d.size) (hsz : d.size < 4611686018427387904) :
    Calls Tryd.prog 108 #[.slice (some ⟨g, off, none⟩) d.size cap, .int .i64 (a : Int), .int .i64 (b : Int), .int .i64 (p : Int)] w fun e w' => e = .returned (.tuple #[.int .i64 ((partition ltN d a b p).1 : Int), .bool (partition ltN d a b p).2.1]) ∧ Fact (Arr w' g off (partition ltN d a b p).2.2 N) ∧ Fact (w.grownBy w' (some g)) := by
  have HA := Fact.mk hA
  clear hA
  obtain ⟨n, hn⟩ : ∃ n, d.size = n := ⟨_, rfl⟩
  rw [hn] at hb hsz ⊢
  have HN := Fact.mk hn
  clear hn
  obtain ⟨e, rfl⟩ : ∃ e, b = e + 1 := ⟨b - 1, by omega⟩
  obtain ⟨PE, hPE⟩ : ∃ x, partition ltN d a (e + 1) p = x := ⟨_, rfl⟩
  rw [hPE]
  have e1 : ((e + 1 : Nat) : Int) - 1 = (e : Int) := by omega
  obtain ⟨G, hG, hcw, hfw⟩ := fam HA.out
  rw [HN.out] at hcw hfw
  have HG := Fact.mk hG
  clear hG
  obtain ⟨v2, hcs⟩ := cell?_setCell_some (p := ⟨g, off + a, none⟩) (x := .int .u64 (G p : Int)) (hcw p (by omega))
  go_enter Tryd.func108, Tryd.ntmps108
  go_wp2
  go_region
  all_goals go_wp2
  have HAR : Fact (Arr (((w.setCell ⟨g, off + a, none⟩ (.int .u64 (G p : Int))).setCell ⟨g, off + p, none⟩ (.int .u64 (G a : Int))).drew) g off (swp d a p) N) := ⟨swap_worldD HA.out HG.out (by rw [HN.out]; omega) (by rw [HN.out]; omega) 0 1⟩
  have HSK : Fact ((swp d a p).size = n) := ⟨by rw [size_swp]; exact HN.out⟩
  have HGR : Fact (w.grownBy (((w.setCell ⟨g, off + a, none⟩ (.int .u64 (G p : Int))).setCell ⟨g, off + p, none⟩ (.int .u64 (G a : Int))).drew) (some g)) := ⟨grown_drewN (grown_set (grown_set (grown_refl _ _) _ _) _ _) 1⟩
  clear hcw hfw hcs HG
  obtain ⟨dk, hdk⟩ : ∃ x, swp d a p = x := ⟨_, rfl⟩
  rw [hdk] at HAR HSK
  obtain ⟨G2, hG2, hcw, hfw⟩ := fam HAR.out
  have HG2 := Fact.mk hG2
  clear hG2
  obtain ⟨PU, hPU⟩ : ∃ f, f = fun x => ltN x dk[a]! := ⟨_, rfl⟩
  have HPU : Fact (∀ x, PU x = ltN x (G2 a)) := ⟨fun x => by rw [hPU, HG2.out]⟩
  obtain ⟨PD, hPD⟩ : ∃ f, f = fun x => !ltN x dk[a]! := ⟨_, rfl⟩
  have HPD : Fact (∀ x, PD x = !ltN x (G2 a)) := ⟨fun x => by rw [hPD, HG2.out]⟩
  have HPU2 := Fact.mk hPU
  have HPD2 := Fact.mk hPD
  clear hPU hPD hcw hfw
  go_loopg [10] (e + 1 - (a + 1)) (fun ku vi w2 => ∃ (i2 : Nat), vi = .int .i64 (i2 : Int) ∧ Fact (e + 1 - i2 = ku) ∧ Fact ((a + 1) ≤ i2 ∧ i2 ≤ e + 1) ∧ Fact (Arr w2 g off dk N) ∧ Fact (w.grownBy w2 (some g)) ∧ Fact (scanUp PU dk e i2 = scanUp PU dk e (a + 1)))
  case atStart => exact ⟨(a + 1), by go_num, ⟨rfl⟩, ⟨by omega⟩, HAR, HGR, ⟨rfl⟩⟩
  case round =>
    obtain ⟨i2, rfl, HK2, HB2, HAR2, HGR2, HO2⟩ := hrel
    have hb2 := HB2.out
    obtain ⟨G3, hG3, hcw, hfw⟩ := fam HAR2.out
    rw [HSK.out] at hcw hfw
    have HG3 : Fact (∀ t, G2 t = G3 t) := ⟨fun t => by rw [hG3, HG2.out]⟩
    have HP3 : Fact (∀ t, PU dk[t]! = ltN (G3 t) (G3 a)) := ⟨fun t => by rw [HPU.out, HG3.out, hG3 t]⟩
    clear hG3
    go_wp2
    by_cases hlt : i2 ≤ e
    · by_cases hl : ltN (G3 i2) (G3 a) = true
      · go_quiet ((go_at_call 106; refine Calls.quiet_of_same (Less_calls _ _ _)))
        go_wp2
        go_roundg (e + 1 - (i2 + 1))
        case measure => have := HK2.out; omega
        case rel => exact ⟨i2 + 1, by go_num, ⟨rfl⟩, ⟨by omega⟩, ⟨HAR2.out.drewN _⟩, ⟨grown_drewN HGR2.out _⟩, ⟨by rw [← HO2.out, up_go hlt (by rw [HP3.out, hl])]⟩⟩
      · have hl' : ltN (G3 i2) (G3 a) = false := by simpa using hl
        clear hl
        have HST : Fact (scanUp PU dk e (a + 1) = i2) := ⟨by rw [← HO2.out]; exact up_stop (.inr (by rw [HP3.out, hl']))⟩
        go_quiet ((go_at_call 106; refine Calls.quiet_of_same (Less_calls _ _ _)))
        clear hcw hfw HK2 HO2
        go_wp2
        go_loopg [11] (e - a) (fun kd vj w3 => ∃ (j2 : Nat), vj = .int .i64 (j2 : Int) ∧ Fact (j2 - a = kd) ∧ Fact (a ≤ j2 ∧ j2 ≤ e) ∧ Fact (Arr w3 g off dk N) ∧ Fact (w.grownBy w3 (some g)) ∧ Fact (scanDown PD dk i2 j2 = scanDown PD dk i2 e))
        case atStart => exact ⟨e, by congr 1, ⟨rfl⟩, ⟨by omega⟩, ⟨HAR2.out.drewN _⟩, ⟨grown_drewN HGR2.out _⟩, ⟨rfl⟩⟩
        case round =>
          obtain ⟨j2, rfl, HK3, HB3, HAR3, HGR3, HO3⟩ := hrel
          have hb3 := HB3.out
          obtain ⟨G4, hG4, hcw, hfw⟩ := fam HAR3.out
          rw [HSK.out] at hcw hfw
          have HG4 := Fact.mk hG4
          have HP4 : Fact (∀ t, PD dk[t]! = !ltN (G4 t) (G4 a)) := ⟨fun t => by rw [HPD.out, hG4 t, HG2.out, hG4 a]⟩
          clear hG4
          have hi0 : 0 < i2 := by omega
          go_wp2
          by_cases hlt2 : i2 ≤ j2
          · by_cases hm : ltN (G4 j2) (G4 a) = true
            · have HSD : Fact (scanDown PD dk i2 e = j2) := ⟨by rw [← HO3.out]; exact down_stop hi0 (.inr (by rw [HP4.out, hm]; rfl))⟩
              obtain ⟨PL, hPL⟩ : ∃ x, partLoop ltN a (i2 + 1) (j2 - 1) (swp dk i2 j2) = x := ⟨_, rfl⟩
              have HPL : Fact ((PL.1, false, swp PL.2 PL.1 a) = PE) := ⟨by rw [← hPL, ← hPE]; exact (pt_go hdk (i2 := i2) (j2 := j2) (by rw [← HPU2.out]; exact HST.out) (by rw [← HPD2.out]; exact HSD.out) hlt2).symm⟩
              have HPL0 := Fact.mk hPL
              clear hPL hPE
              go_quiet ((go_at_call 106; refine Calls.quiet_of_same (Less_calls _ _ _)))
              go_wp2
              obtain ⟨v3, hcs0⟩ := cell?_setCell_some (p := ⟨g, off + i2, none⟩) (x := .int .u64 (G4 j2 : Int)) (hcw j2 (by omega))
              have hcs : ∀ q, ((wr.drewN q).setCell ⟨g, off + i2, none⟩ (.int .u64 (G4 j2 : Int))).cell? ⟨g, off + j2, none⟩ = some v3 := fun q => hcs0
              go_region
              all_goals go_wp2
              have HAR9 : Fact (Arr (((wr.setCell ⟨g, off + i2, none⟩ (.int .u64 (G4 j2 : Int))).setCell ⟨g, off + j2, none⟩ (.int .u64 (G4 i2 : Int)))) g off (swp dk i2 j2) N) := ⟨swap_world HAR3.out HG4.out (by rw [HSK.out]; omega) (by rw [HSK.out]; omega) 0⟩
              have HSK9 : Fact ((swp dk i2 j2).size = n) := ⟨by rw [size_swp]; exact HSK.out⟩
              have HGR9 : Fact (w.grownBy (((wr.setCell ⟨g, off + i2, none⟩ (.int .u64 (G4 j2 : Int))).setCell ⟨g, off + j2, none⟩ (.int .u64 (G4 i2 : Int)))) (some g)) := ⟨swap_grown HGR3.out 0 _ _ _ _⟩
              go_loopg [10, 11] (j2 - 1 + 1 - (i2 + 1)) (fun kq vi vj w4 => ∃ (i j : Nat) (dk : Array Nat), vi = .int .i64 (i : Int) ∧ vj = .int .i64 (j : Int) ∧ Fact (j + 1 - i = kq) ∧ Fact (a < i ∧ i ≤ e + 1 ∧ a ≤ j ∧ j ≤ e) ∧ Fact (dk.size = n) ∧ Fact (Arr w4 g off dk N) ∧ Fact (w.grownBy w4 (some g)) ∧ Fact (partLoop ltN a i j dk = PL))
              case atStart => exact ⟨i2 + 1, j2 - 1, swp dk i2 j2, by go_num, by congr 1; omega, ⟨rfl⟩, ⟨by omega⟩, HSK9, ⟨HAR9.out.drewN _⟩, ⟨grown_drewN HGR9.out _⟩, HPL0⟩
              case round =>
                clear HST HSD HPU HPD HPU2 HPD2 HG2 HG3 HP3 HP4 HG4 hcw hfw hcs hcs0 HAR9 HSK9 HGR9 HAR3 HGR3 HO3 HB3 HK3 HAR2 HGR2 HPL0 hlt2 hlt hi0 hb3 hb2 HB2
                clear HAR HGR HSK hl' hm
                obtain ⟨i, j, dk, rfl, rfl, HK, HB, HSK, HAR, HGR, HO⟩ := hrel
                have hb1 := HB.out
                obtain ⟨G2, hG2, hcw, hfw⟩ := fam HAR.out
                have HG2 := Fact.mk hG2
                clear hG2
                obtain ⟨PU, hPU⟩ : ∃ f, f = fun x => ltN x dk[a]! := ⟨_, rfl⟩
                have HPU : Fact (∀ x, PU x = ltN x (G2 a)) := ⟨fun x => by rw [hPU, HG2.out]⟩
                obtain ⟨PD, hPD⟩ : ∃ f, f = fun x => !ltN x dk[a]! := ⟨_, rfl⟩
                have HPD : Fact (∀ x, PD x = !ltN x (G2 a)) := ⟨fun x => by rw [hPD, HG2.out]⟩
                have HPU2 := Fact.mk hPU
                have HPD2 := Fact.mk hPD
                clear hPU hPD hcw hfw
                go_wp2
                go_loopg [10] (e + 1 - i) (fun ku vi w2 => ∃ (i2 : Nat), vi = .int .i64 (i2 : Int) ∧ Fact (e + 1 - i2 = ku) ∧ Fact (i ≤ i2 ∧ i2 ≤ e + 1) ∧ Fact (Arr w2 g off dk N) ∧ Fact (w.grownBy w2 (some g)) ∧ Fact (scanUp PU dk j i2 = scanUp PU dk j i))
                case atStart => exact ⟨i, rfl, ⟨rfl⟩, ⟨by omega⟩, HAR, HGR, ⟨rfl⟩⟩
                case round =>
                  obtain ⟨i2, rfl, HK2, HB2, HAR2, HGR2, HO2⟩ := hrel
                  have hb2 := HB2.out
                  obtain ⟨G3, hG3, hcw, hfw⟩ := fam HAR2.out
                  rw [HSK.out] at hcw hfw
                  have HG3 : Fact (∀ t, G2 t = G3 t) := ⟨fun t => by rw [hG3, HG2.out]⟩
                  have HP3 : Fact (∀ t, PU dk[t]! = ltN (G3 t) (G3 a)) := ⟨fun t => by rw [HPU.out, HG3.out, hG3 t]⟩
                  clear hG3
                  go_wp2
                  by_cases hlt : i2 ≤ j
                  · by_cases hl : ltN (G3 i2) (G3 a) = true
                    · go_quiet ((go_at_call 106; refine Calls.quiet_of_same (Less_calls _ _ _)))
                      go_wp2
                      go_roundg (e + 1 - (i2 + 1))
                      case measure => have := HK2.out; omega
                      case rel => exact ⟨i2 + 1, by go_num, ⟨rfl⟩, ⟨by omega⟩, ⟨HAR2.out.drewN _⟩, ⟨grown_drewN HGR2.out _⟩, ⟨by rw [← HO2.out, up_go hlt (by rw [HP3.out, hl])]⟩⟩
                    · have hl' : ltN (G3 i2) (G3 a) = false := by simpa using hl
                      clear hl
                      have HST : Fact (scanUp PU dk j i = i2) := ⟨by rw [← HO2.out]; exact up_stop (.inr (by rw [HP3.out, hl']))⟩
                      go_quiet ((go_at_call 106; refine Calls.quiet_of_same (Less_calls _ _ _)))
                      clear hcw hfw HK2 HO2
                      go_wp2
                      go_loopg [11] (j - a) (fun kd vj w3 => ∃ (j2 : Nat), vj = .int .i64 (j2 : Int) ∧ Fact (j2 - a = kd) ∧ Fact (a ≤ j2 ∧ j2 ≤ j) ∧ Fact (Arr w3 g off dk N) ∧ Fact (w.grownBy w3 (some g)) ∧ Fact (scanDown PD dk i2 j2 = scanDown PD dk i2 j))
                      case atStart => exact ⟨j, rfl, ⟨rfl⟩, ⟨by omega⟩, ⟨HAR2.out.drewN _⟩, ⟨grown_drewN HGR2.out _⟩, ⟨rfl⟩⟩
                      case round =>
                        obtain ⟨j2, rfl, HK3, HB3, HAR3, HGR3, HO3⟩ := hrel
                        have hb3 := HB3.out
                        obtain ⟨G4, hG4, hcw, hfw⟩ := fam HAR3.out
                        rw [HSK.out] at hcw hfw
                        have HG4 := Fact.mk hG4
                        have HP4 : Fact (∀ t, PD dk[t]! = !ltN (G4 t) (G4 a)) := ⟨fun t => by rw [HPD.out, hG4 t, HG2.out, hG4 a]⟩
                        clear hG4
                        have hi0 : 0 < i2 := by omega
                        go_wp2
                        by_cases hlt2 : i2 ≤ j2
                        · by_cases hm : ltN (G4 j2) (G4 a) = true
                          · have HSD : Fact (scanDown PD dk i2 j = j2) := ⟨by rw [← HO3.out]; exact down_stop hi0 (.inr (by rw [HP4.out, hm]; rfl))⟩
                            have HON : Fact (partLoop ltN a (i2 + 1) (j2 - 1) (swp dk i2 j2) = PL) := ⟨by rw [← HO.out]; exact (pl_go (i2 := i2) (j2 := j2) (by rw [← HPU2.out]; exact HST.out) (by rw [← HPD2.out]; exact HSD.out) hlt2 (by omega) (by omega) (by omega)).symm⟩
                            go_quiet ((go_at_call 106; refine Calls.quiet_of_same (Less_calls _ _ _)))
                            go_wp2
                            obtain ⟨v3, hcs0⟩ := cell?_setCell_some (p := ⟨g, off + i2, none⟩) (x := .int .u64 (G4 j2 : Int)) (hcw j2 (by omega))
                            have hcs : ∀ q, ((wr.drewN q).setCell ⟨g, off + i2, none⟩ (.int .u64 (G4 j2 : Int))).cell? ⟨g, off + j2, none⟩ = some v3 := fun q => hcs0
                            go_region
                            all_goals go_wp2
                            go_roundg (j2 - 1 + 1 - (i2 + 1))
                            case measure => have := HK.out; omega
                            case rel => exact ⟨i2 + 1, j2 - 1, swp dk i2 j2, by go_num, by congr 1; omega, ⟨rfl⟩, ⟨by omega⟩, ⟨by rw [size_swp]; exact HSK.out⟩, ⟨swap_world HAR3.out HG4.out (by rw [HSK.out]; omega) (by rw [HSK.out]; omega) _⟩, ⟨swap_grown HGR3.out _ _ _ _ _⟩, HON⟩
                          · have hm' : ltN (G4 j2) (G4 a) = false := by simpa using hm
                            clear hm
                            go_quiet ((go_at_call 106; refine Calls.quiet_of_same (Less_calls _ _ _)))
                            go_wp2
                            go_roundg (j2 - 1 - a)
                            case measure => have := HK3.out; omega
                            case rel => exact ⟨j2 - 1, by congr 1; omega, ⟨rfl⟩, ⟨by omega⟩, ⟨HAR3.out.drewN _⟩, ⟨grown_drewN HGR3.out _⟩, ⟨by rw [← HO3.out, down_go hi0 hlt2 (by rw [HP4.out, hm']; rfl)]⟩⟩
                        · have HSD : Fact (scanDown PD dk i2 j = j2) := ⟨by rw [← HO3.out]; exact down_stop hi0 (.inl hlt2)⟩
                          have hE : PL = (j2, dk) := by rw [← HO.out]; exact pl_stop (i2 := i2) (j2 := j2) (by rw [← HPU2.out]; exact HST.out) (by rw [← HPD2.out]; exact HSD.out) (by omega)
                          have hE2 : PE = (j2, false, swp dk j2 a) := by rw [← HPL.out, hE]
                          subst hE2
                          go_quiet ((go_at_call 106; refine Calls.quiet_of_same (Less_calls _ _ _)))
                          go_wp2
                          obtain ⟨v3, hcs0⟩ := cell?_setCell_some (p := ⟨g, off + j2, none⟩) (x := .int .u64 (G4 a : Int)) (hcw a (by omega))
                          have hcs : ∀ q, ((wr.drewN q).setCell ⟨g, off + j2, none⟩ (.int .u64 (G4 a : Int))).cell? ⟨g, off + a, none⟩ = some v3 := fun q => hcs0
                          go_region
                          all_goals go_wp2
                          go_ret2
                          exact ⟨rfl, ⟨swap_world HAR3.out HG4.out (by rw [HSK.out]; omega) (by rw [HSK.out]; omega) _⟩, ⟨swap_grown HGR3.out _ _ _ _ _⟩⟩
                  · have HST : Fact (scanUp PU dk j i = i2) := ⟨by rw [← HO2.out]; exact up_stop (.inl hlt)⟩
                    go_quiet ((go_at_call 106; refine Calls.quiet_of_same (Less_calls _ _ _)))
                    clear hcw hfw HK2 HO2
                    go_wp2
                    go_loopg [11] (j - a) (fun kd vj w3 => ∃ (j2 : Nat), vj = .int .i64 (j2 : Int) ∧ Fact (j2 - a = kd) ∧ Fact (a ≤ j2 ∧ j2 ≤ j) ∧ Fact (Arr w3 g off dk N) ∧ Fact (w.grownBy w3 (some g)) ∧ Fact (scanDown PD dk i2 j2 = scanDown PD dk i2 j))
                    case atStart => exact ⟨j, rfl, ⟨rfl⟩, ⟨by omega⟩, ⟨HAR2.out.drewN _⟩, ⟨grown_drewN HGR2.out _⟩, ⟨rfl⟩⟩
                    case round =>
                      obtain ⟨j2, rfl, HK3, HB3, HAR3, HGR3, HO3⟩ := hrel
                      have hb3 := HB3.out
                      obtain ⟨G4, hG4, hcw, hfw⟩ := fam HAR3.out
                      rw [HSK.out] at hcw hfw
                      have HG4 := Fact.mk hG4
                      have HP4 : Fact (∀ t, PD dk[t]! = !ltN (G4 t) (G4 a)) := ⟨fun t => by rw [HPD.out, hG4 t, HG2.out, hG4 a]⟩
                      clear hG4
                      have hi0 : 0 < i2 := by omega
                      go_wp2
                      by_cases hlt2 : i2 ≤ j2
                      · exact absurd hlt2 (by omega)
                      · have HSD : Fact (scanDown PD dk i2 j = j2) := ⟨by rw [← HO3.out]; exact down_stop hi0 (.inl hlt2)⟩
                        have hE : PL = (j2, dk) := by rw [← HO.out]; exact pl_stop (i2 := i2) (j2 := j2) (by rw [← HPU2.out]; exact HST.out) (by rw [← HPD2.out]; exact HSD.out) (by omega)
                        have hE2 : PE = (j2, false, swp dk j2 a) := by rw [← HPL.out, hE]
                        subst hE2
                        go_quiet ((go_at_call 106; refine Calls.quiet_of_same (Less_calls _ _ _)))
                        go_wp2
                        obtain ⟨v3, hcs0⟩ := cell?_setCell_some (p := ⟨g, off + j2, none⟩) (x := .int .u64 (G4 a : Int)) (hcw a (by omega))
                        have hcs : ∀ q, ((wr.drewN q).setCell ⟨g, off + j2, none⟩ (.int .u64 (G4 a : Int))).cell? ⟨g, off + a, none⟩ = some v3 := fun q => hcs0
                        go_region
                        all_goals go_wp2
                        go_ret2
                        exact ⟨rfl, ⟨swap_world HAR3.out HG4.out (by rw [HSK.out]; omega) (by rw [HSK.out]; omega) _⟩, ⟨swap_grown HGR3.out _ _ _ _ _⟩⟩
            · have hm' : ltN (G4 j2) (G4 a) = false := by simpa using hm
              clear hm
              go_quiet ((go_at_call 106; refine Calls.quiet_of_same (Less_calls _ _ _)))
              go_wp2
              go_roundg (j2 - 1 - a)
              case measure => have := HK3.out; omega
              case rel => exact ⟨j2 - 1, by congr 1; omega, ⟨rfl⟩, ⟨by omega⟩, ⟨HAR3.out.drewN _⟩, ⟨grown_drewN HGR3.out _⟩, ⟨by rw [← HO3.out, down_go hi0 hlt2 (by rw [HP4.out, hm']; rfl)]⟩⟩
          · have HSD : Fact (scanDown PD dk i2 e = j2) := ⟨by rw [← HO3.out]; exact down_stop hi0 (.inl hlt2)⟩
            have hE : PE = (j2, true, swp dk j2 a) := by rw [← hPE]; exact pt_stop hdk (i2 := i2) (j2 := j2) (by rw [← HPU2.out]; exact HST.out) (by rw [← HPD2.out]; exact HSD.out) (by omega)
            subst hE
            go_quiet ((go_at_call 106; refine Calls.quiet_of_same (Less_calls _ _ _)))
            go_wp2
            obtain ⟨v3, hcs0⟩ := cell?_setCell_some (p := ⟨g, off + j2, none⟩) (x := .int .u64 (G4 a : Int)) (hcw a (by omega))
            have hcs : ∀ q, ((wr.drewN q).setCell ⟨g, off + j2, none⟩ (.int .u64 (G4 a : Int))).cell? ⟨g, off + a, none⟩ = some v3 := fun q => hcs0
            go_region
            all_goals go_wp2
            go_ret2
            exact ⟨rfl, ⟨swap_world HAR3.out HG4.out (by rw [HSK.out]; omega) (by rw [HSK.out]; omega) _⟩, ⟨swap_grown HGR3.out _ _ _ _ _⟩⟩
    · have HST : Fact (scanUp PU dk e (a + 1) = i2) := ⟨by rw [← HO2.out]; exact up_stop (.inl hlt)⟩
      go_quiet ((go_at_call 106; refine Calls.quiet_of_same (Less_calls _ _ _)))
      clear hcw hfw HK2 HO2
      go_wp2
      go_loopg [11] (e - a) (fun kd vj w3 => ∃ (j2 : Nat), vj = .int .i64 (j2 : Int) ∧ Fact (j2 - a = kd) ∧ Fact (a ≤ j2 ∧ j2 ≤ e) ∧ Fact (Arr w3 g off dk N) ∧ Fact (w.grownBy w3 (some g)) ∧ Fact (scanDown PD dk i2 j2 = scanDown PD dk i2 e))
      case atStart => exact ⟨e, by congr 1, ⟨rfl⟩, ⟨by omega⟩, ⟨HAR2.out.drewN _⟩, ⟨grown_drewN HGR2.out _⟩, ⟨rfl⟩⟩
      case round =>
        obtain ⟨j2, rfl, HK3, HB3, HAR3, HGR3, HO3⟩ := hrel
        have hb3 := HB3.out
        obtain ⟨G4, hG4, hcw, hfw⟩ := fam HAR3.out
        rw [HSK.out] at hcw hfw
        have HG4 := Fact.mk hG4
        have HP4 : Fact (∀ t, PD dk[t]! = !ltN (G4 t) (G4 a)) := ⟨fun t => by rw [HPD.out, hG4 t, HG2.out, hG4 a]⟩
        clear hG4
        have hi0 : 0 < i2 := by omega
        go_wp2
        by_cases hlt2 : i2 ≤ j2
        · exact absurd hlt2 (by omega)
        · have HSD : Fact (scanDown PD dk i2 e = j2) := ⟨by rw [← HO3.out]; exact down_stop hi0 (.inl hlt2)⟩
          have hE : PE = (j2, true, swp dk j2 a) := by rw [← hPE]; exact pt_stop hdk (i2 := i2) (j2 := j2) (by rw [← HPU2.out]; exact HST.out) (by rw [← HPD2.out]; exact HSD.out) (by omega)
          subst hE
          go_quiet ((go_at_call 106; refine Calls.quiet_of_same (Less_calls _ _ _)))
          go_wp2
          obtain ⟨v3, hcs0⟩ := cell?_setCell_some (p := ⟨g, off + j2, none⟩) (x := .int .u64 (G4 a : Int)) (hcw a (by omega))
          have hcs : ∀ q, ((wr.drewN q).setCell ⟨g, off + j2, none⟩ (.int .u64 (G4 a : Int))).cell? ⟨g, off + a, none⟩ = some v3 := fun q => hcs0
          go_region
          all_goals go_wp2
          go_ret2
          exact ⟨rfl, ⟨swap_world HAR3.out HG4.out (by rw [HSK.out]; omega) (by rw [HSK.out]; omega) _⟩, ⟨swap_grown HGR3.out _ _ _ _ _⟩⟩
end Go.Proofs.YtkmcjokoinoahaaDoor.SortF
