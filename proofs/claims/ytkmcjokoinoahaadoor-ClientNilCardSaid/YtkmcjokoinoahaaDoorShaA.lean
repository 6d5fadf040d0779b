/- bits.RotateLeft32, ferrymanref01.turn: contracts over any world. -/
import Derived.Test.YtkmcjokoinoahaaDoorProg
import Derived.WalkKit
import Derived.ProofKit
import Derived.Test.YtkmcjokoinoahaaDoorPlainS
import Derived.Deep.QuietTactic
import Derived.BigQuiet
set_option linter.unusedVariables false
set_option linter.unusedSimpArgs false
namespace Go.Proofs.YtkmcjokoinoahaaDoor.ShaA
open Go.RowKit Go.Proofs.YtkmcjokoinoahaaDoor.Lib Go.Proofs.YtkmcjokoinoahaaDoor.PlainS
theorem u_31 : ∀ k : Nat, 0 < k → k < 32 → bits .and .u64 (IntKind.u64.wrap (-(k : Int))) 31 = ((32 - k : Nat) : Int) := by
  have h : ∀ k : Fin 32, 0 < k.val → bits .and .u64 (IntKind.u64.wrap (-(k.val : Int))) 31 = ((32 - k.val : Nat) : Int) := by decide +kernel
  intro k h0 h1
  exact h ⟨k, h1⟩ h0
set_option maxRecDepth 100000 in
theorem Rot_calls (w : World) (x : UInt32) (k : Nat) (ki : Int) (h0 : 0 < k) (h1 : k < 32) (hk : ki = -(k : Int)) : Calls Tryd.prog 97 #[.int .u32 (U x), .int .i64 ki] w fun e w' => e = .returned (.int .u32 (U (rot k x))) ∧ w' = w := by
  subst hk
  have hb := u_31 k h0 h1
  have e1 : ((32 - k : Nat) : Int).toNat = 32 - k := Int.toNat_natCast _
  have e2 : IntKind.u64.wrap (32 - ((32 - k : Nat) : Int)) = (k : Int) := by rw [IntKind.wrap_u64]; omega
  have e3 : ((k : Nat) : Int).toNat = k := Int.toNat_natCast _
  have g1 : (0 : Int) ≤ ((32 - k : Nat) : Int) := by omega
  have g2 : ((32 - k : Nat) : Int) ≤ 32 := by omega
  have g3 : (k : Int) ≤ 32 := by omega
  have g4 : (0 : Int) ≤ (k : Int) := by omega
  have s1 : IntKind.u32.wrap (U x * 2 ^ (32 - k)) = U (x <<< UInt32.ofNat (32 - k)) := r_shl (by omega)
  have s2 : U x / 2 ^ k = U (x >>> UInt32.ofNat k) := r_shr h1
  have s3 := r_or (x <<< UInt32.ofNat (32 - k)) (x >>> UInt32.ofNat k)
  go_enter Tryd.func97, Tryd.ntmps97
  go_wp2_with fail
  go_ret
  exact ⟨by rw [UInt32.or_comm]; rfl, rfl⟩
set_option maxRecDepth 100000 in
theorem Turn_calls (w : World) (x : UInt32) (k : Nat) (ki : Int) (h0 : 0 < k) (h1 : k < 32) (hk : ki = (k : Int)) : Calls Tryd.prog 79 #[.int .u32 (U x), .int .i64 ki] w fun e w' => e = .returned (.int .u32 (U (rot k x))) ∧ ∃ m, w' = w.drewN m := by
  subst hk
  have e2 : IntKind.i64.wrap (32 - (k : Int)) = ((32 - k : Nat) : Int) := by rw [IntKind.wrap_i64]; omega
  have e1 : ((32 - k : Nat) : Int).toNat = 32 - k := Int.toNat_natCast _
  have e3 : ((k : Nat) : Int).toNat = k := Int.toNat_natCast _
  have g1 : (0 : Int) ≤ ((32 - k : Nat) : Int) := by omega
  have g2 : ((32 - k : Nat) : Int) ≤ 32 := by omega
  have g3 : (k : Int) ≤ 32 := by omega
  have g4 : (0 : Int) ≤ (k : Int) := by omega
  have s1 : IntKind.u32.wrap (U x * 2 ^ (32 - k)) = U (x <<< UInt32.ofNat (32 - k)) := r_shl (by omega)
  have s2 : U x / 2 ^ k = U (x >>> UInt32.ofNat k) := r_shr h1
  have s3 := r_or (x >>> UInt32.ofNat k) (x <<< UInt32.ofNat (32 - k))
  go_enter Tryd.func79, Tryd.ntmps79
  go_wp2_with fail
  go_quiet (fail)
  go_wp2
  go_ret
  exact ⟨rfl, nq, rfl⟩
end Go.Proofs.YtkmcjokoinoahaaDoor.ShaA
