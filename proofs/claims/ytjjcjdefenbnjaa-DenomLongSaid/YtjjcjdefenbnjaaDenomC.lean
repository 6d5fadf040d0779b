/- denom.prefix, ferrymanref11.ahead, strings.CutPrefix: contracts over any world. -/
import Derived.Test.YtjjcjdefenbnjaaDenomB
set_option linter.unusedVariables false
set_option linter.unusedSimpArgs false
namespace Go.Proofs.Ytjjcjdefenbnjaa.DenomC
open Go.RowKit Go.Proofs.Ytjjcjdefenbnjaa.Lib Go.Proofs.Ytjjcjdefenbnjaa.Reg Go.Proofs.Ytjjcjdefenbnjaa.DenomA Go.Proofs.Ytjjcjdefenbnjaa.DenomB
def pre (c : Nat) : List UInt8 := [99, 104, UInt8.ofNat (48 + c), 47]
theorem run_head (l : List UInt8) (k : Nat) (hk : k ≤ l.length) (hm : l.length ≤ 9223372036854775806) (W : World) : (Instr.slice 9 (.string (S l)) none (some (.int .i64 (k : Int))) none).run Try.prog W = .ok (.string (S (l.take k))) W := by
  rw [run_slice_string_h W 9 (S l) Try.underlying9 .i64 (k : Int) (by omega) (by rw [size_S]; omega)]
  congr 2
  apply ByteArray.ext
  simp [S, ByteArray.data_extract]
theorem run_tail (l : List UInt8) (k : Nat) (hk : k ≤ l.length) (hm : l.length ≤ 9223372036854775806) (W : World) : (Instr.slice 9 (.string (S l)) (some (.int .i64 (k : Int))) none none).run Try.prog W = .ok (.string (S (l.drop k))) W := by
  rw [run_slice_string_l W 9 (S l) Try.underlying9 .i64 (k : Int) (by omega) (by rw [size_S]; omega)]
  congr 2
  apply ByteArray.ext
  simp [S, ByteArray.data_extract, ByteArray.size]
  exact List.take_of_length_le (by simp)
theorem add_run (a b : List UInt8) (h : a.length + b.length ≤ 9223372036854775807) : Op.stringOp .add (S a) (S b) = pure (.string (S (a ++ b))) := by
  unfold Op.stringOp
  simp only [size_S, add_S]
  rw [if_neg]
  simp [IntKind.max, IntKind.signed, IntKind.bits]
  omega
set_option maxHeartbeats 1000000 in
set_option maxRecDepth 100000 in
theorem prefix_calls (w : World) (c : Nat) (hc : c < 4) : Calls Try.prog 64 #[.int .i64 (c : Int)] w fun e w' => e = .returned (.string (S (pre c))) ∧ Below w.heap.size w w' := by
  have e1 : ((c : Int)).tmod 10 = c := by rw [Int.tmod_eq_emod_of_nonneg (by omega)]; omega
  have e1' : (c : Int) % 10 = c := by omega
  have e2 : IntKind.i64.wrap (48 + (c : Int)) = 48 + (c : Int) := by rw [IntKind.wrap_i64]; omega
  have e3 : IntKind.u8.wrap (48 + (c : Int)) = 48 + (c : Int) := by rw [IntKind.wrap_u8]; omega
  obtain ⟨b, hb⟩ : ∃ b : UInt8, UInt8.ofNat (48 + c) = b := ⟨_, rfl⟩
  have hbn : (b.toNat : Int) = 48 + (c : Int) := by rw [← hb, UInt8.toNat_ofNat']; omega
  have hstr : (convert 22 9 (.slice (some ⟨w.heap.size, 0, none⟩) 1 1)).run Try.prog (w.alloc (.cells #[.int .u8 (48 + (c : Int))] 5)) = .ok (.string (S [b])) (w.alloc (.cells #[.int .u8 (48 + (c : Int))] 5)) :=
    run_str _ _ _ Try.underlying22 Try.underlying5 Try.underlying9 (Sl.boxB (xs := [b]) w _ (by simp [vu8, hbn]) rfl (by omega))
  have ha1 : Op.stringOp .add ⟨#[99, 104]⟩ (S [b]) = pure (.string (S [99, 104, b])) := add_run [99, 104] [b] (by simp)
  have ha2 : Op.stringOp .add (S [99, 104, b]) ⟨#[47]⟩ = pure (.string (S [99, 104, b, 47])) := add_run [99, 104, b] [47] (by simp)
  have hp : pre c = [99, 104, b, 47] := by unfold pre; rw [hb]
  rw [hp]
  clear hp hb hbn
  go_enter Try.func64, Try.ntmps64
  go_wp2_with fail
  go_ret
  exact ⟨rfl, (Below.refl _ _).alloc (Nat.le_refl _) _⟩
set_option maxHeartbeats 1000000 in
set_option maxRecDepth 100000 in
theorem ahead_calls (w : World) (c : Nat) (hc : c < 4) : Calls Try.prog 65 #[.int .i64 (c : Int)] w fun e w' => e = .returned (.string (S (pre c))) ∧ Below w.heap.size w w' := by
  match c, hc with
  | 0, _ =>
    go_enter Try.func65, Try.ntmps65
    go_wp2_with fail
    go_ret
    exact ⟨rfl, (Below.refl _ _).alloc (Nat.le_refl _) _⟩
  | 1, _ =>
    go_enter Try.func65, Try.ntmps65
    go_wp2_with fail
    go_ret
    exact ⟨rfl, (Below.refl _ _).alloc (Nat.le_refl _) _⟩
  | 2, _ =>
    go_enter Try.func65, Try.ntmps65
    go_wp2_with fail
    go_ret
    exact ⟨rfl, (Below.refl _ _).alloc (Nat.le_refl _) _⟩
  | 3, _ =>
    go_enter Try.func65, Try.ntmps65
    go_wp2_with fail
    go_ret
    exact ⟨rfl, (Below.refl _ _).alloc (Nat.le_refl _) _⟩
set_option maxHeartbeats 1000000 in
set_option maxRecDepth 100000 in
theorem HasPrefix_calls (w : World) (l p : List UInt8) (hl : l.length ≤ 9223372036854775806) (hp : p.length ≤ 9223372036854775806) : Calls Try.prog 77 #[.string (S l), .string (S p)] w fun e w' => e = .returned (.bool (l.take p.length == p)) ∧ w' = w := by
  have s1 := size_S l
  have s2 := size_S p
  have tl := toList_S
  by_cases h : p.length ≤ l.length
  · have h1 := run_head l p.length h hl
    have k1 : decide ((p.length : Int) ≤ l.length) = true := by simp; omega
    have k2 : decide (p.length ≤ l.length) = true := by simp; omega
    generalize hn : l.length = n at *
    generalize hm : p.length = m at *
    go_enter Try.func77, Try.ntmps77
    go_wp2_with fail
    go_ret
    exact ⟨rfl, rfl⟩
  · have k1 : decide ((p.length : Int) ≤ l.length) = false := by simp; omega
    have k2 : decide (p.length ≤ l.length) = false := by simp; omega
    have hf : (l.take p.length == p) = false := by
      rw [List.take_of_length_le (by omega)]
      simp
      intro he
      rw [he] at h
      exact h (Nat.le_refl _)
    rw [hf]
    generalize hn : l.length = n at *
    generalize hm : p.length = m at *
    go_enter Try.func77, Try.ntmps77
    go_wp2_with fail
    go_ret
    exact ⟨rfl, rfl⟩
end Go.Proofs.Ytjjcjdefenbnjaa.DenomC
