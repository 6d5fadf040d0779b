/- ferrymanref11.Letter, Denom: contracts over any world. -/
import Derived.Test.YtjjcjdefenbnjaaDenomA
set_option linter.unusedVariables false
set_option linter.unusedSimpArgs false
namespace Go.Proofs.Ytjjcjdefenbnjaa.DenomB
open Go.RowKit Go.Proofs.Ytjjcjdefenbnjaa.Lib Go.Proofs.Ytjjcjdefenbnjaa.Reg Go.Proofs.Ytjjcjdefenbnjaa.DenomA
def letterN (x : Nat) : Bool := (decide (97 ≤ x) && decide (x ≤ 122)) || (decide (48 ≤ x) && decide (x ≤ 57))
set_option maxHeartbeats 1000000 in
set_option maxRecDepth 100000 in
theorem Letter_calls (w : World) (x : Nat) : Calls Try.prog 63 #[.int .u8 (x : Int)] w fun e w' => e = .returned (.bool (letterN x)) ∧ w' = w := by
  rcases (by omega : (97 ≤ x ∧ x ≤ 122) ∨ (48 ≤ x ∧ x ≤ 57) ∨ x < 48 ∨ (57 < x ∧ x < 97) ∨ 122 < x) with ⟨h1, h2⟩ | ⟨h1, h2⟩ | h1 | ⟨h1, h2⟩ | h1
  · have hl : letterN x = true := by unfold letterN; simp; omega
    have hf : (((97 : Int) ≤ x) ↔ 97 ≤ x) ∧ (((x : Int) ≤ 122) ↔ x ≤ 122) ∧ (((48 : Int) ≤ x) ↔ 48 ≤ x) ∧ (((x : Int) ≤ 57) ↔ x ≤ 57) := by omega
    clear hf
    have d1 : decide ((97 : Int) ≤ x) = decide (97 ≤ x) := by rw [decide_eq_decide]; omega
    have d2 : decide ((x : Int) ≤ 122) = decide (x ≤ 122) := by rw [decide_eq_decide]; omega
    have d3 : decide ((48 : Int) ≤ x) = decide (48 ≤ x) := by rw [decide_eq_decide]; omega
    have d4 : decide ((x : Int) ≤ 57) = decide (x ≤ 57) := by rw [decide_eq_decide]; omega
    rw [hl]
    go_enter Try.func63, Try.ntmps63
    go_wp2_with fail
    go_ret
    refine ⟨?_, rfl⟩
    simp
    try omega
  · have hl : letterN x = true := by unfold letterN; simp; omega
    have h3 : x < 97 := by omega
    have hf : (((97 : Int) ≤ x) ↔ 97 ≤ x) ∧ (((x : Int) ≤ 122) ↔ x ≤ 122) ∧ (((48 : Int) ≤ x) ↔ 48 ≤ x) ∧ (((x : Int) ≤ 57) ↔ x ≤ 57) := by omega
    clear hf
    have d1 : decide ((97 : Int) ≤ x) = decide (97 ≤ x) := by rw [decide_eq_decide]; omega
    have d2 : decide ((x : Int) ≤ 122) = decide (x ≤ 122) := by rw [decide_eq_decide]; omega
    have d3 : decide ((48 : Int) ≤ x) = decide (48 ≤ x) := by rw [decide_eq_decide]; omega
    have d4 : decide ((x : Int) ≤ 57) = decide (x ≤ 57) := by rw [decide_eq_decide]; omega
    rw [hl]
    go_enter Try.func63, Try.ntmps63
    go_wp2_with fail
    go_ret
    refine ⟨?_, rfl⟩
    simp
    try omega
  · have hl : letterN x = false := by unfold letterN; simp; omega
    have hf : (((97 : Int) ≤ x) ↔ 97 ≤ x) ∧ (((x : Int) ≤ 122) ↔ x ≤ 122) ∧ (((48 : Int) ≤ x) ↔ 48 ≤ x) ∧ (((x : Int) ≤ 57) ↔ x ≤ 57) := by omega
    clear hf
    have d1 : decide ((97 : Int) ≤ x) = decide (97 ≤ x) := by rw [decide_eq_decide]; omega
    have d2 : decide ((x : Int) ≤ 122) = decide (x ≤ 122) := by rw [decide_eq_decide]; omega
    have d3 : decide ((48 : Int) ≤ x) = decide (48 ≤ x) := by rw [decide_eq_decide]; omega
    have d4 : decide ((x : Int) ≤ 57) = decide (x ≤ 57) := by rw [decide_eq_decide]; omega
    rw [hl]
    go_enter Try.func63, Try.ntmps63
    go_wp2_with fail
    go_ret
    refine ⟨?_, rfl⟩
    simp
    try omega
  · have hl : letterN x = false := by unfold letterN; simp; omega
    have hf : (((97 : Int) ≤ x) ↔ 97 ≤ x) ∧ (((x : Int) ≤ 122) ↔ x ≤ 122) ∧ (((48 : Int) ≤ x) ↔ 48 ≤ x) ∧ (((x : Int) ≤ 57) ↔ x ≤ 57) := by omega
    clear hf
    have d1 : decide ((97 : Int) ≤ x) = decide (97 ≤ x) := by rw [decide_eq_decide]; omega
    have d2 : decide ((x : Int) ≤ 122) = decide (x ≤ 122) := by rw [decide_eq_decide]; omega
    have d3 : decide ((48 : Int) ≤ x) = decide (48 ≤ x) := by rw [decide_eq_decide]; omega
    have d4 : decide ((x : Int) ≤ 57) = decide (x ≤ 57) := by rw [decide_eq_decide]; omega
    rw [hl]
    go_enter Try.func63, Try.ntmps63
    go_wp2_with fail
    go_ret
    refine ⟨?_, rfl⟩
    simp
    try omega
  · have hl : letterN x = false := by unfold letterN; simp; omega
    have hf : (((97 : Int) ≤ x) ↔ 97 ≤ x) ∧ (((x : Int) ≤ 122) ↔ x ≤ 122) ∧ (((48 : Int) ≤ x) ↔ 48 ≤ x) ∧ (((x : Int) ≤ 57) ↔ x ≤ 57) := by omega
    clear hf
    have d1 : decide ((97 : Int) ≤ x) = decide (97 ≤ x) := by rw [decide_eq_decide]; omega
    have d2 : decide ((x : Int) ≤ 122) = decide (x ≤ 122) := by rw [decide_eq_decide]; omega
    have d3 : decide ((48 : Int) ≤ x) = decide (48 ≤ x) := by rw [decide_eq_decide]; omega
    have d4 : decide ((x : Int) ≤ 57) = decide (x ≤ 57) := by rw [decide_eq_decide]; omega
    rw [hl]
    go_enter Try.func63, Try.ntmps63
    go_wp2_with fail
    go_ret
    refine ⟨?_, rfl⟩
    simp
    try omega
set_option maxHeartbeats 2000000 in
set_option maxRecDepth 100000 in
theorem RDenom_calls (w : World) (l : List UInt8) (hm : l.length ≤ 9223372036854775806) : Calls Try.prog 43 #[.string (S l)] w fun e w' => e = .returned (.bool (checkL l)) ∧ ∃ q, w' = w.drewN q := by
  have sz := size_S l
  obtain ⟨n, hn⟩ : ∃ n, l.length = n := ⟨_, rfl⟩
  rw [hn] at sz hm
  by_cases h0 : n = 0
  · have e1 : ((n : Int) < 1) := by omega
    have hc : checkL l = false := by unfold checkL; rw [hn]; simp [h0]
    rw [hc]
    go_enter Try.func43, Try.ntmps43
    go_wp2_with fail
    go_ret
    exact ⟨rfl, 0, rfl⟩
  · by_cases h40 : 40 < n
    · have e2 : decide ((40 : Int) < n) = true := by simp; omega
      have e2' : decide (40 < n) = true := by simp; omega
      have e1 : ¬ ((n : Int) < 1) := by omega
      have hc : checkL l = false := by unfold checkL; rw [hn]; simp; omega
      rw [hc]
      go_enter Try.func43, Try.ntmps43
      go_wp2_with fail
      go_ret
      exact ⟨rfl, 0, rfl⟩
    · have e2 : decide ((40 : Int) < n) = false := by simp; omega
      have e2' : decide (40 < n) = false := by simp; omega
      have e1 : ¬ ((n : Int) < 1) := by omega
      obtain ⟨ca, hxa⟩ : ∃ x, l[0]? = some x := ⟨_, List.getElem?_eq_getElem (by omega)⟩
      have hra := run_at l hxa
      obtain ⟨xa, hca⟩ : ∃ x : Nat, ca.toNat = x := ⟨_, rfl⟩
      obtain ⟨cz, hxz⟩ : ∃ x, l[n - 1]? = some x := ⟨_, List.getElem?_eq_getElem (by omega)⟩
      have hrz := run_at l hxz
      obtain ⟨xz, hcz⟩ : ∃ x : Nat, cz.toNat = x := ⟨_, rfl⟩
      rw [hca] at hra
      rw [hcz] at hrz
      have ez : ((n - 1 : Nat) : Int) = (n : Int) - 1 := by omega
      rw [ez] at hrz
      have hra : ∀ W : World, (Instr.index 9 (.string (S l)) (.int .i64 0)).run Try.prog W = .ok (.int .u8 (xa : Int)) W := hra
      clear ez
      have HN := Fact.mk hn
      by_cases ha : xa = 47
      · have hc : checkL l = false := checkL_no (k := 0) (by omega) (by unfold okAt; rw [hxa]; simp [letter, hca, ha])
        subst ha
        rw [hc]
        clear hc hxa hxz hca hcz hn
        go_enter Try.func43, Try.ntmps43
        go_wp2_with fail
        go_ret
        exact ⟨rfl, 0, rfl⟩
      · have ha1 : ((xa : Int) == 47) = false := by simp; omega
        by_cases hz : xz = 47
        · have hc : checkL l = false := checkL_no (k := n - 1) (by omega) (by unfold okAt; rw [hxz]; simp [letter, hcz, hz]; omega)
          subst hz
          rw [hc]
          clear hc hxa hxz hca hcz hn
          go_enter Try.func43, Try.ntmps43
          go_wp2_with fail
          go_ret
          exact ⟨rfl, 0, rfl⟩
        · have hz1 : ((xz : Int) == 47) = false := by simp; omega
          have HXA := Fact.mk (And.intro hxa hca)
          have HXZ := Fact.mk (And.intro hxz hcz)
          have HNE := Fact.mk (And.intro ha hz)
          clear hxa hxz hca hcz hn ha hz
          go_enter Try.func43, Try.ntmps43
          go_wp2_with fail
          clear hra hrz
          go_loopg [3] n (fun kq i wr => ∃ (k : Nat), i = .int .i64 (k : Int) ∧ Fact (k + kq = n) ∧ Fact (∀ j, j < k → okAt l j = true) ∧ Fact (∃ q, wr = w.drewN q))
          case atStart => exact ⟨0, rfl, ⟨by omega⟩, ⟨by simp⟩, ⟨0, rfl⟩⟩
          case round =>
            obtain ⟨k, rfl, HK, HA, HW⟩ := hrel
            by_cases hlt : k < n
            · obtain ⟨c, hx⟩ : ∃ x, l[k]? = some x := ⟨_, List.getElem?_eq_getElem (by have := HN.out; omega)⟩
              have hr := run_at l hx
              have HX := Fact.mk hx
              have hc8 := c.toNat_lt
              obtain ⟨x, hcx⟩ : ∃ x : Nat, c.toNat = x := ⟨_, rfl⟩
              rw [hcx] at hr hc8
              have HC := Fact.mk hcx
              clear hx hcx
              by_cases hA : letterN x = true
              · have hlx := hA
                have h47 : ((x : Int) == 47) = false := by unfold letterN at hA; simp at hA ⊢; omega
                have HA2 := Fact.mk hA
                clear hA
                have HOK : Fact (okAt l k = true) := ⟨by
                  have h1 := HC.out
                  have h2 := HN.out
                  have h3 := HA2.out
                  unfold letterN at h3
                  simp at h3
                  unfold okAt
                  rw [HX.out]
                  simp only [letter, h1, h2]
                  simp
                  try first | omega | (left; omega) | (right; omega)⟩
                go_wp2_with (go_at_call 63; refine (Letter_calls _ x).mono ?_; rintro e w1 ⟨rfl, rfl⟩; rw [hlx])
                go_roundg (n - (k + 1))
                case measure => have := HK.out; omega
                case rel => exact ⟨k + 1, by go_num, ⟨by omega⟩, ⟨fun j hj => by
                  rcases Nat.lt_or_eq_of_le (Nat.le_of_lt_succ hj) with hj | rfl
                  · exact HA.out j hj
                  · exact HOK.out⟩, HW⟩
              · have hlx : letterN x = false := by simpa using hA
                have HA2 := Fact.mk hlx
                by_cases hC : x = 47
                · have HC47 := Fact.mk hC
                  have h47t : ((x : Int) == 47) = true := by simp; omega
                  have h47u : ((x : Int) != 47) = false := by simp; omega
                  clear hC
                  have HK2 : Fact (k ≠ 0 ∧ k + 1 < n) := ⟨by
                    have h1 := HX.out; have h2 := HXA.out; have h3 := HXZ.out; have h4 := HNE.out; have h5 := HC.out.trans HC47.out
                    constructor
                    · intro he
                      rw [he, h2.1] at h1
                      injection h1 with h1
                      rw [h1, h5] at h2
                      exact h4.1 h2.2.symm
                    · apply Decidable.byContradiction
                      intro he
                      rw [show k = n - 1 by omega, h3.1] at h1
                      injection h1 with h1
                      rw [h1, h5] at h3
                      exact h4.2 h3.2.symm⟩
                  obtain ⟨d, hy⟩ : ∃ d, l[k - 1]? = some d := ⟨_, List.getElem?_eq_getElem (by have := HN.out; omega)⟩
                  have hr2 := run_at l hy
                  obtain ⟨y, hdy⟩ : ∃ y : Nat, d.toNat = y := ⟨_, rfl⟩
                  rw [hdy] at hr2
                  have HY := Fact.mk hy
                  have HD := Fact.mk hdy
                  have ek : ((k - 1 : Nat) : Int) = (k : Int) - 1 := by have := HK2.out; omega
                  rw [ek] at hr2
                  clear hy hdy ek
                  have hk1 : (0 : Int) < k := by have := HK2.out; omega
                  by_cases h47 : y = 47
                  · have h47b : ((y : Int) == 47) = true := by simp; omega
                    have H47 := Fact.mk h47
                    clear h47
                    have HOK : Fact (okAt l k = false) := ⟨by
                      have h1 := HC.out
                      have h2 := HN.out
                      have h5 := HK2.out
                      have h6 := HC47.out
                      have h7 := H47.out
                      unfold okAt
                      rw [HX.out]
                      have h3 := HY.out
                      have h4 := HD.out
                      rw [h3]
                      simp only [h4]
                      simp only [letter, h1, h2]
                      simp
                      try first | omega | (left; omega) | (right; omega)⟩
                    go_wp2_with (go_at_call 63; refine (Letter_calls _ x).mono ?_; rintro e w1 ⟨rfl, rfl⟩; rw [hlx])
                    go_ret
                    exact ⟨by rw [checkL_no (l := l) (k := k) (by have := HN.out; omega) HOK.out]; rfl, HW.out⟩
                  · have h47b : ((y : Int) == 47) = false := by simp; omega
                    have H47 := Fact.mk h47
                    clear h47
                    have HOK : Fact (okAt l k = true) := ⟨by
                      have h1 := HC.out
                      have h2 := HN.out
                      have h5 := HK2.out
                      have h6 := HC47.out
                      have h7 := H47.out
                      unfold okAt
                      rw [HX.out]
                      have h3 := HY.out
                      have h4 := HD.out
                      rw [h3]
                      simp only [h4]
                      simp only [letter, h1, h2]
                      simp
                      try first | omega | (left; omega) | (right; omega)⟩
                    go_wp2_with (go_at_call 63; refine (Letter_calls _ x).mono ?_; rintro e w1 ⟨rfl, rfl⟩; rw [hlx])
                    go_roundg (n - (k + 1))
                    case measure => have := HK.out; omega
                    case rel => exact ⟨k + 1, by go_num, ⟨by omega⟩, ⟨fun j hj => by
                      rcases Nat.lt_or_eq_of_le (Nat.le_of_lt_succ hj) with hj | rfl
                      · exact HA.out j hj
                      · exact HOK.out⟩, HW⟩
                · have h47 : ((x : Int) == 47) = false := by simp; omega
                  have HOK : Fact (okAt l k = false) := ⟨by
                    have h1 := HC.out
                    have h2 := HN.out
                    have h3 := HA2.out
                    unfold letterN at h3
                    simp at h3
                    unfold okAt
                    rw [HX.out]
                    simp only [letter, h1, h2]
                    simp
                    try first | omega | (left; omega) | (right; omega)⟩
                  go_wp2_with (go_at_call 63; refine (Letter_calls _ x).mono ?_; rintro e w1 ⟨rfl, rfl⟩; rw [hlx])
                  go_ret
                  exact ⟨by rw [checkL_no (l := l) (k := k) (by have := HN.out; omega) HOK.out]; rfl, HW.out⟩
            · have hk : k = n := by have := HK.out; omega
              go_wp2_with fail
              go_ret
              exact ⟨by rw [checkL_yes (by have := HN.out; omega) (by have := HN.out; omega) (fun j hj => HA.out j (by have := HN.out; omega))]; rfl, HW.out⟩
end Go.Proofs.Ytjjcjdefenbnjaa.DenomB
