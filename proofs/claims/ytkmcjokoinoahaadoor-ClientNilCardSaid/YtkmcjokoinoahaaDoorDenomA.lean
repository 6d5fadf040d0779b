/- denom.Check, ferrymanref11.Letter, Denom: contracts over any world. -/
import Derived.Test.YtkmcjokoinoahaaDoorProg
import Derived.Test.YtkmcjokoinoahaaDoorReg
import Derived.KernelRfl
import Derived.WalkSpells
import Derived.BigQuiet
import Derived.Deep.QuietTactic
set_option linter.unusedVariables false
set_option linter.unusedSimpArgs false
namespace Go.Proofs.YtkmcjokoinoahaaDoor.DenomA
open Go.RowKit Go.Proofs.YtkmcjokoinoahaaDoor.Lib Go.Proofs.YtkmcjokoinoahaaDoor.Reg
/-- Bytes as a string. -/
def S (l : List UInt8) : ByteArray := ⟨l.toArray⟩
theorem size_S (l : List UInt8) : (S l).size = l.length := by simp [S, ByteArray.size]
theorem toList_S (l : List UInt8) : (S l).toList = l := ByteArray.toList_mk l
theorem add_S (a b : List UInt8) : S a ++ S b = S (a ++ b) := by
  apply ByteArray.ext
  simp [S]
theorem of_S (s : ByteArray) : ∃ l, s = S l := ⟨s.data.toList, by cases s; simp [S]⟩
theorem run_at (l : List UInt8) {k : Nat} {c : UInt8} (hk : l[k]? = some c) (W : World) : (Instr.index 9 (.string (S l)) (.int .i64 (k : Int))).run Tryd.prog W = .ok (.int .u8 (c.toNat : Int)) W := by
  obtain ⟨hl, hc⟩ := List.getElem?_eq_some_iff.1 hk
  rw [run_index_string (P := Tryd.prog) W 9 (S l) .i64 (k : Int) Tryd.underlying9]
  rw [dif_pos ⟨by omega, by rw [size_S]; omega⟩]
  congr 2
  have : (S l)[((k : Int)).toNat]'(by rw [size_S]; omega) = c := by
    rw [← hc]
    simp [S, ByteArray.getElem_eq_getElem_data]
  rw [this]
def letter (c : UInt8) : Bool := (decide (97 ≤ c.toNat) && decide (c.toNat ≤ 122)) || (decide (48 ≤ c.toNat) && decide (c.toNat ≤ 57))
/-- May the byte at k stand there? -/
def okAt (l : List UInt8) (k : Nat) : Bool := match l[k]? with
  | some c => letter c || (c.toNat == 47 && decide (0 < k) && decide (k + 1 < l.length) && (match l[k - 1]? with | some d => d.toNat != 47 | none => false))
  | none => false
def checkL (l : List UInt8) : Bool := decide (l.length ≠ 0) && decide (l.length ≤ 40) && (List.range l.length).all (okAt l)
theorem checkL_no {l : List UInt8} {k : Nat} (hk : k < l.length) (h : okAt l k = false) : checkL l = false := by
  unfold checkL
  have : (List.range l.length).all (okAt l) = false := by
    rw [List.all_eq_false]
    exact ⟨k, by simp [hk], by simp [h]⟩
  rw [this]
  simp
theorem checkL_yes {l : List UInt8} (h0 : l.length ≠ 0) (h1 : l.length ≤ 40) (h : ∀ k, k < l.length → okAt l k = true) : checkL l = true := by
  unfold checkL
  have : (List.range l.length).all (okAt l) = true := by
    rw [List.all_eq_true]
    intro k hk
    exact h k (by simpa using hk)
  rw [this]
  simp [h0, h1]

end Go.Proofs.YtkmcjokoinoahaaDoor.DenomA
