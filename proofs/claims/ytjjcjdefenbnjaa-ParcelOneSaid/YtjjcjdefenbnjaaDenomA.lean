/- denom.Check, ferrymanref11.Letter, Denom: contracts over any world. -/
import Derived.Test.YtjjcjdefenbnjaaProg
import Derived.Test.YtjjcjdefenbnjaaReg
import Derived.KernelRfl
import Derived.WalkSpells
import Derived.BigQuiet
import Derived.Deep.QuietTactic
set_option linter.unusedVariables false
set_option linter.unusedSimpArgs false
namespace Go.Proofs.Ytjjcjdefenbnjaa.DenomA
open Go.RowKit Go.Proofs.Ytjjcjdefenbnjaa.Lib Go.Proofs.Ytjjcjdefenbnjaa.Reg
/-- Bytes as a string. -/
def S (l : List UInt8) : ByteArray := ⟨l.toArray⟩
theorem size_S (l : List UInt8) : (S l).size = l.length := by simp [S, ByteArray.size]
theorem toList_S (l : List UInt8) : (S l).toList = l := ByteArray.toList_mk l
theorem add_S (a b : List UInt8) : S a ++ S b = S (a ++ b) := by
  apply ByteArray.ext
  simp [S]
theorem of_S (s : ByteArray) : ∃ l, s = S l := ⟨s.data.toList, by cases s; simp [S]⟩
theorem run_at (l : List UInt8) {k : Nat} {c : UInt8} (hk : l[k]? = some c) (W : World) : (Instr.index 9 (.string (S l)) (.int .i64 (k : Int))).run Try.prog W = .ok (.int .u8 (c.toNat : Int)) W := by
  obtain ⟨hl, hc⟩ := List.getElem?_eq_some_iff.1 hk
  rw [run_index_string (P := Try.prog) W 9 (S l) .i64 (k : Int) Try.underlying9]
  rw [dif_pos ⟨by omega, by rw [size_S]; omega⟩]
  congr 2
  have : (S l)[((k : Int)).toNat]'(by rw [size_S]; omega) = c := by
    rw [← hc]
    simp [S, ByteArray.getElem_eq_getElem_data]
  rw [this]
def letter (c : UInt8) : Bool := (decide (97 ≤ c.toNat) && decide (c.toNat ≤ 122)) || (decide (48 ≤ c.toNat) && decide (c.toNat ≤ 57))
/-- May the byte at k stand there? -/
def okAt (l : List UInt8) (k : Nat) : Bool := match l[k]? with
  | some c => letter c || (c.toNat == 47 && decide (0 < k) && decide (k + 1 < l.length) && (match l[k - 1]? with | some d => d.toNat != 47 | none => false))
  | none => false
def checkL (l : List UInt8) : Bool := decide (l.length ≠ 0) && decide (l.length ≤ 40) && (List.range l.length).all (okAt l)
theorem checkL_no {l : List UInt8} {k : Nat} (hk : k < l.length) (h : okAt l k = false) : checkL l = false := by
  unfold checkL
  have : (List.range l.length).all (okAt l) = false := by
    rw [List.all_eq_false]
    exact ⟨k, by simp [hk], by simp [h]⟩
  rw [this]
  simp
theorem checkL_yes {l : List UInt8} (h0 : l.length ≠ 0) (h1 : l.length ≤ 40) (h : ∀ k, k < l.length → okAt l k = true) : checkL l = true := by
  unfold checkL
  have : (List.range l.length).all (okAt l) = true := by
    rw [List.all_eq_true]
    intro k hk
    exact h k (by simpa using hk)
  rw [this]
  simp [h0, h1]

set_option maxHeartbeats 2000000 in
set_option maxRecDepth 100000 in
theorem Check_calls (w : World) (l : List UInt8) (hm : l.length ≤ 9223372036854775806) : Calls Try.prog 42 #[.string (S l)] w fun e w' => e = .returned (.bool (checkL l)) ∧ ∃ q, w' = w.drewN q := by
  have sz := size_S l
  obtain ⟨n, hn⟩ : ∃ n, l.length = n := ⟨_, rfl⟩
  rw [hn] at sz hm
  by_cases h0 : n = 0
  · have e1 : ((n : Int) == 0) = true := by simp [h0]
    have hc : checkL l = false := by unfold checkL; rw [hn]; simp [h0]
    rw [hc]
    go_enter Try.func42, Try.ntmps42
    go_wp2_with fail
    go_ret
    exact ⟨rfl, 0, rfl⟩
  · have e1 : ((n : Int) == 0) = false := by simp [h0]
    by_cases h40 : 40 < n
    · have e2 : decide ((40 : Int) < n) = true := by simp; omega
      have e2' : decide (40 < n) = true := by simp; omega
      have hc : checkL l = false := by unfold checkL; rw [hn]; simp; omega
      rw [hc]
      go_enter Try.func42, Try.ntmps42
      go_wp2_with fail
      go_ret
      exact ⟨rfl, 0, rfl⟩
    · have e2 : decide ((40 : Int) < n) = false := by simp; omega
      have e2' : decide (40 < n) = false := by simp; omega
      have HN := Fact.mk hn
      go_enter Try.func42, Try.ntmps42
      go_wp2_with fail
      go_loopg [15] n (fun kq i wr => ∃ (k : Nat), i = .int .i64 (k : Int) ∧ Fact (k + kq = n) ∧ Fact (∀ j, j < k → okAt l j = true) ∧ Fact (∃ q, wr = w.drewN q))
      case atStart => exact ⟨0, rfl, ⟨by omega⟩, ⟨by simp⟩, ⟨0, rfl⟩⟩
      case round =>
        obtain ⟨k, rfl, HK, HA, HW⟩ := hrel
        by_cases hlt : k < n
        · obtain ⟨c, hx⟩ : ∃ x, l[k]? = some x := ⟨_, List.getElem?_eq_getElem (by omega)⟩
          have hr := run_at l hx
          have HX := Fact.mk hx
          have hc8 := c.toNat_lt
          obtain ⟨x, hcx⟩ : ∃ x : Nat, c.toNat = x := ⟨_, rfl⟩
          rw [hcx] at hr hc8
          have HC := Fact.mk hcx
          clear hx hn hcx
          by_cases hA : 97 ≤ x ∧ x ≤ 122
          · obtain ⟨hA1, hA2⟩ := hA
            have HOK : Fact (okAt l k = true) := ⟨by
              have h1 := HC.out
              have h2 := HN.out
              unfold okAt
              rw [HX.out]
              simp only [letter, h1, h2]
              simp
              try omega⟩
            go_wp2_with fail
            go_roundg (n - (k + 1))
            case measure => have := HK.out; omega
            case rel => exact ⟨k + 1, by go_num, ⟨by omega⟩, ⟨fun j hj => by
              rcases Nat.lt_or_eq_of_le (Nat.le_of_lt_succ hj) with hj | rfl
              · exact HA.out j hj
              · exact HOK.out⟩, HW⟩
          · by_cases hB : 48 ≤ x ∧ x ≤ 57
            · obtain ⟨hB1, hB2⟩ := hB
              have hA1 : x < 97 := by omega
              have HOK : Fact (okAt l k = true) := ⟨by
                have h1 := HC.out
                have h2 := HN.out
                unfold okAt
                rw [HX.out]
                simp only [letter, h1, h2]
                simp
                try omega⟩
              go_wp2_with fail
              go_roundg (n - (k + 1))
              case measure => have := HK.out; omega
              case rel => exact ⟨k + 1, by go_num, ⟨by omega⟩, ⟨fun j hj => by
                rcases Nat.lt_or_eq_of_le (Nat.le_of_lt_succ hj) with hj | rfl
                · exact HA.out j hj
                · exact HOK.out⟩, HW⟩
            · by_cases hC : x = 47
              · subst hC
                by_cases hk0 : k = 0
                · have hkz : decide ((0 : Int) < (k : Int)) = false := by simp; omega
                  have hkz2 : decide (0 < k) = false := by simp; omega
                  have HK0 := Fact.mk hk0
                  clear hk0
                  have HOK : Fact (okAt l k = false) := ⟨by
                    have h1 := HC.out
                    have h2 := HN.out
                    have hk0 := HK0.out
                    unfold okAt
                    rw [HX.out]
                    simp only [letter, h1, h2]
                    simp
                    try omega⟩
                  go_wp2_with fail
                  go_ret
                  exact ⟨by rw [checkL_no (l := l) (k := _) (by have := HN.out; omega) HOK.out]; rfl, HW.out⟩
                · by_cases hkl : n - 1 ≤ k
                  · have hkl2 : n ≤ k + 1 := by omega
                    have hkl3 : ¬ (k : Int) < (n : Int) - 1 := by omega
                    have hk1 : (0 : Int) < k := by omega
                    have HOK : Fact (okAt l k = false) := ⟨by
                      have h1 := HC.out
                      have h2 := HN.out
                      unfold okAt
                      rw [HX.out]
                      simp only [letter, h1, h2]
                      simp
                      try omega⟩
                    go_wp2_with fail
                    go_ret
                    exact ⟨by rw [checkL_no (l := l) (k := _) (by have := HN.out; omega) HOK.out]; rfl, HW.out⟩
                  · obtain ⟨d, hy⟩ : ∃ d, l[k - 1]? = some d := ⟨_, List.getElem?_eq_getElem (by have := HN.out; omega)⟩
                    have hr2 := run_at l hy
                    obtain ⟨y, hdy⟩ : ∃ y : Nat, d.toNat = y := ⟨_, rfl⟩
                    rw [hdy] at hr2
                    have HY := Fact.mk hy
                    have HD := Fact.mk hdy
                    have ek : ((k - 1 : Nat) : Int) = (k : Int) - 1 := by omega
                    rw [ek] at hr2
                    clear hy hdy ek
                    have hk1 : (0 : Int) < k := by omega
                    have hk2 : (k : Int) < (n : Int) - 1 := by omega
                    by_cases h47 : y = 47
                    · subst h47
                      have HOK : Fact (okAt l k = false) := ⟨by
                        have h1 := HC.out
                        have h2 := HN.out
                        unfold okAt
                        rw [HX.out]
                        have h3 := HY.out
                        have h4 := HD.out
                        rw [h3]
                        simp only [h4]
                        simp only [letter, h1, h2]
                        simp
                        try omega⟩
                      go_wp2_with fail
                      go_ret
                      exact ⟨by rw [checkL_no (l := l) (k := _) (by have := HN.out; omega) HOK.out]; rfl, HW.out⟩
                    · have HOK : Fact (okAt l k = true) := ⟨by
                        have h1 := HC.out
                        have h2 := HN.out
                        unfold okAt
                        rw [HX.out]
                        have h3 := HY.out
                        have h4 := HD.out
                        rw [h3]
                        simp only [h4]
                        simp only [letter, h1, h2]
                        simp
                        try omega⟩
                      go_wp2_with fail
                      go_roundg (n - (k + 1))
                      case measure => have := HK.out; omega
                      case rel => exact ⟨k + 1, by go_num, ⟨by omega⟩, ⟨fun j hj => by
                        rcases Nat.lt_or_eq_of_le (Nat.le_of_lt_succ hj) with hj | rfl
                        · exact HA.out j hj
                        · exact HOK.out⟩, HW⟩
              · rcases (by omega : x < 47 ∨ (57 < x ∧ x < 97) ∨ 122 < x) with hD | ⟨hD1, hD2⟩ | hD
                · have HOK : Fact (okAt l k = false) := ⟨by
                    have h1 := HC.out
                    have h2 := HN.out
                    unfold okAt
                    rw [HX.out]
                    simp only [letter, h1, h2]
                    simp
                    try omega⟩
                  go_wp2_with fail
                  go_ret
                  exact ⟨by rw [checkL_no (l := l) (k := _) (by have := HN.out; omega) HOK.out]; rfl, HW.out⟩
                · have HOK : Fact (okAt l k = false) := ⟨by
                    have h1 := HC.out
                    have h2 := HN.out
                    unfold okAt
                    rw [HX.out]
                    simp only [letter, h1, h2]
                    simp
                    try omega⟩
                  go_wp2_with fail
                  go_ret
                  exact ⟨by rw [checkL_no (l := l) (k := _) (by have := HN.out; omega) HOK.out]; rfl, HW.out⟩
                · have HOK : Fact (okAt l k = false) := ⟨by
                    have h1 := HC.out
                    have h2 := HN.out
                    unfold okAt
                    rw [HX.out]
                    simp only [letter, h1, h2]
                    simp
                    try omega⟩
                  go_wp2_with fail
                  go_ret
                  exact ⟨by rw [checkL_no (l := l) (k := _) (by have := HN.out; omega) HOK.out]; rfl, HW.out⟩
        · have hk : k = n := by have := HK.out; omega
          go_wp2_with fail
          go_ret
          exact ⟨by rw [checkL_yes (by have := HN.out; omega) (by have := HN.out; omega) (fun j hj => HA.out j (by have := HN.out; omega))]; rfl, HW.out⟩
end Go.Proofs.Ytjjcjdefenbnjaa.DenomA
