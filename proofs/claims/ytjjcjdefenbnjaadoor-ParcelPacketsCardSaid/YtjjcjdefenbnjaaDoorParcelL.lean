/- Packets: reading, the laws' own helpers: contracts over any world. -/
import Derived.Test.YtjjcjdefenbnjaaDoorParcelG
import Derived.Test.YtjjcjdefenbnjaaDoorParcelH
import Derived.Test.YtjjcjdefenbnjaaDoorOpenP
set_option linter.unusedVariables false
set_option linter.unusedSimpArgs false
namespace Go.Proofs.YtjjcjdefenbnjaaDoor.ParcelL
open Go.RowKit Go.Proofs.YtjjcjdefenbnjaaDoor.Lib Go.Proofs.YtjjcjdefenbnjaaDoor.Reg Go.Proofs.YtjjcjdefenbnjaaDoor.TlvA Go.Proofs.YtjjcjdefenbnjaaDoor.TlvC Go.Proofs.YtjjcjdefenbnjaaDoor.TlvF Go.Proofs.YtjjcjdefenbnjaaDoor.TlvI Go.Proofs.YtjjcjdefenbnjaaDoor.LawNums Go.Proofs.YtjjcjdefenbnjaaDoor.PlainP Go.Proofs.YtjjcjdefenbnjaaDoor.LawOne Go.Proofs.YtjjcjdefenbnjaaDoor.DenomA Go.Proofs.YtjjcjdefenbnjaaDoor.ParcelA Go.Proofs.YtjjcjdefenbnjaaDoor.ParcelB Go.Proofs.YtjjcjdefenbnjaaDoor.ParcelC Go.Proofs.YtjjcjdefenbnjaaDoor.ParcelD Go.Proofs.YtjjcjdefenbnjaaDoor.ParcelE Go.Proofs.YtjjcjdefenbnjaaDoor.ParcelF Go.Proofs.YtjjcjdefenbnjaaDoor.OpenP
def longP (p : Pk) : Bool := decide (3000 < p.den.length + p.frm.length + p.to.length)
set_option maxHeartbeats 1000000 in
set_option maxRecDepth 100000 in
theorem long_calls (w : World) (ch : Int) (p : Pk) (hs : Sized p) : Calls Tryd.prog 13 #[.agg (pkA ch p)] w fun e w' => e = .returned (.bool (longP p)) ∧ Below w.heap.size w w' := by
  have s1 := size_S p.den
  have s2 := size_S p.frm
  have s3 := size_S p.to
  have h1 := hs.den
  have h2 := hs.frm
  have h3 := hs.to
  have HL : Fact (longP p = decide ((3000 : Int) < (p.den.length : Int) + (p.frm.length : Int) + (p.to.length : Int))) := ⟨by unfold longP; rw [decide_eq_decide]; omega⟩
  obtain ⟨a, ha⟩ : ∃ a, p.den.length = a := ⟨_, rfl⟩
  obtain ⟨b, hb⟩ : ∃ a, p.frm.length = a := ⟨_, rfl⟩
  obtain ⟨c, hc⟩ : ∃ a, p.to.length = a := ⟨_, rfl⟩
  rw [ha] at s1 h1 HL
  rw [hb] at s2 h2 HL
  rw [hc] at s3 h3 HL
  have e1 : IntKind.i64.wrap ((a : Int) + b) = (a : Int) + b := by rw [IntKind.wrap_i64]; omega
  have e2 : IntKind.i64.wrap ((a : Int) + b + c) = (a : Int) + b + c := by rw [IntKind.wrap_i64]; omega
  clear ha hb hc h1 h2 h3 hs
  unfold pkA
  go_enter Tryd.func13, Tryd.ntmps13
  go_wp2_with fail
  go_ret
  exact ⟨by rw [HL.out]; rfl, (Below.refl _ _).alloc (Nat.le_refl _) _⟩
def p0 : Pk := ⟨0, 1, 0, [], 0, [], []⟩
theorem p0_ok : p0.ok := ⟨by decide, by decide, by decide, by decide, by decide, by decide, by decide⟩
theorem p0_l : pkL p0 = [2, 0, 1, 1] := by decide +kernel
theorem a0_l : ackL true 0 = [1, 0, 1, 1] := by decide +kernel
set_option maxHeartbeats 1000000 in
set_option maxRecDepth 100000 in
theorem Awake_calls (w : World) : Calls Tryd.prog 12 #[] w fun e w' => e = .returned (.bool true) ∧ Below w.heap.size w w' := by
  have tl := toList_S
  go_enter Tryd.func12, Tryd.ntmps12
  go_wp2_with (go_at_call 14; fail)
  refine (Packet_calls w p0 p0_ok).mono ?_
  rintro e w1 ⟨A, c, rfl, ho, hb⟩
  have HO := Fact.mk ho.out
  have HB := Fact.mk hb
  rw [p0_l] at HO ⊢
  clear ho hb
  go_wp2_with (go_at_call 19; fail)
  refine (Ack_calls w1 true 0 (by decide) (by simp)).mono ?_
  rintro e w2 ⟨A2, c2, rfl, ho2, hb2⟩
  have HO2 := Fact.mk ho2.out
  rw [a0_l] at HO2 ⊢
  have HB2 : Fact (Below w.heap.size w w2) := ⟨HB.out.trans (hb2.mono HB.out.size)⟩
  have r1 := run_str (P := Tryd.prog) 22 5 9 Tryd.underlying22 Tryd.underlying5 Tryd.underlying9 (show Sl rU8 w2 _ A 4 c [2, 0, 1, 1] from Sl.move HO.out (Same.of_below hb2 (fun k hk => hk.2)))
  have r2 := run_str (P := Tryd.prog) 22 5 9 Tryd.underlying22 Tryd.underlying5 Tryd.underlying9 (show Sl rU8 w2 _ A2 4 c2 [1, 0, 1, 1] from HO2.out)
  clear ho2 hb2
  go_wp2_with fail
  go_ret
  exact ⟨rfl, HB2.out⟩
end Go.Proofs.YtjjcjdefenbnjaaDoor.ParcelL
