/- The law's Awake: a contract over any world. -/
import Derived.Test.YtkmcjokoinoahaaDoorFaultE
import Derived.Test.YtkmcjokoinoahaaDoorFaultF
set_option linter.unusedVariables false
set_option linter.unusedSimpArgs false
namespace Go.Proofs.YtkmcjokoinoahaaDoor.FaultH
open Go.RowKit Go.Proofs.YtkmcjokoinoahaaDoor.Lib Go.Proofs.YtkmcjokoinoahaaDoor.FaultB Go.Proofs.YtkmcjokoinoahaaDoor.FaultC Go.Proofs.YtkmcjokoinoahaaDoor.FaultD Go.Proofs.YtkmcjokoinoahaaDoor.FaultE Go.Proofs.YtkmcjokoinoahaaDoor.FaultF
theorem str_at {w : World} {F : Nat → Prop} {A : Option Addr} {n c : Nat} {l : List ByteArray} (h : Sl rStr w F A n c l) {k : Nat} {s : ByteArray} (hk : l[k]? = some s) : ∃ ad, A = some ad ∧ w.cell? (ad.add k) = some (.string s) := by
  obtain ⟨ad, cs, e, hf, hK, hcell⟩ := h.at_ hk
  have hK' : cs = [.string s] := hK
  subst hK'
  refine ⟨ad, e, ?_⟩
  have := hcell 0 _ rfl
  simpa [rStr, Rep.flat] using this
set_option maxHeartbeats 4000000 in
set_option maxRecDepth 100000 in
theorem Awake_calls (w : World) (hg : Laid w) : Calls Tryd.prog 18 #[] w fun ev w' => ev = .returned (.bool true) ∧ Below w.heap.size w w' := by
  have HG := Fact.mk hg
  clear hg
  go_enter Tryd.func18, Tryd.ntmps18
  go_wp2_with (go_at_call 23; fail)
  refine (At_calls w w.heap.size ⟨#[98]⟩ 2 (.num 40) trivial (Nat.le_refl _)).mono ?_
  rintro ev w1 ⟨rfl, hi1, hw1⟩
  have HB1 : Fact (Below w.heap.size w w1) := ⟨by rw [hw1]; exact (Below.refl _ _).alloc (Nat.le_refl _) _⟩
  have HS1 : Fact (w1.heap.size = w.heap.size + 1) := ⟨by rw [hw1]; simp⟩
  have HI1 := hi1
  clear hi1 hw1
  generalize hst : Ch.step w.heap.size ⟨#[98]⟩ 2 (.num 40) = e1 at HI1 ⊢
  have HE1 := Fact.mk hst
  clear hst
  generalize hve : vOf e1 = ve
  have HVE := Fact.mk hve
  clear hve
  go_wp2_with (go_at_call 23; fail)
  rw [← HVE.out]
  refine (At_calls w1 (w.heap.size + 1) ⟨#[97]⟩ 1 e1 HI1.out (by rw [HS1.out]; exact Nat.le_refl _)).mono ?_
  rintro ev w2 ⟨rfl, hi2, hw2⟩
  have HB2 : Fact (Below w.heap.size w w2) := ⟨HB1.out.trans (by rw [hw2]; exact (Below.refl _ _).alloc HB1.out.size _)⟩
  have HS2 : Fact (w2.heap.size = w1.heap.size + 1) := ⟨by rw [hw2]; simp⟩
  have HI2 := hi2
  clear hi2 hw2
  generalize hst : Ch.step w1.heap.size ⟨#[97]⟩ 1 e1 = e2 at HI2 ⊢
  have HWH : Fact (whereL e2 = [⟨#[97]⟩, ⟨#[98]⟩]) := ⟨by rw [← hst, ← HE1.out]; rfl⟩
  have HCD : Fact (codeL e2 = 40) := ⟨by rw [← hst, ← HE1.out]; rfl⟩
  clear hst
  generalize hve : vOf e2 = ve2
  have HVE2 := Fact.mk hve
  clear hve
  go_wp2_with (go_at_call 21; fail)
  rw [← HVE2.out]
  have HL2 : Fact (Laid w2) := ⟨HG.out.below HB2.out HG.out.lt⟩
  refine (Where_calls w2 (w1.heap.size + 1) e2 HI2.out HL2.out (by rw [HS2.out]; exact Nat.le_refl _) (by rw [HWH.out]; decide)).mono ?_
  rintro ev w3 ⟨v, rfl, ho, hb⟩
  rw [HWH.out] at ho
  obtain ⟨A, c, rfl, hs⟩ := ho.out.sl
  have HB3 : Fact (Below w.heap.size w w3) := ⟨HB2.out.trans (hb.mono HB2.out.size)⟩
  have HI3 : Fact (In w3 (w1.heap.size + 1) e2) := ⟨HI2.out.move (fun k hk => hb.block k (by rw [HS2.out]; exact hk))⟩
  have HO3 := Fact.mk ho.out
  have HL3 : Fact (Laid w3) := ⟨HG.out.below HB3.out HG.out.lt⟩
  have HS3 : Fact (w1.heap.size + 1 ≤ w3.heap.size) := ⟨by have := hb.size; rw [HS2.out] at this; exact this⟩
  clear ho hb hs
  go_wp2_with (go_at_call 19; fail)
  refine (Code_calls w3 (w1.heap.size + 1) e2 HI3.out HL3.out HS3.out).mono ?_
  rintro ev w4 ⟨rfl, hb⟩
  rw [HCD.out]
  have HB4 : Fact (Below w.heap.size w w4) := ⟨HB3.out.trans (hb.mono HB3.out.size)⟩
  obtain ⟨A', c', he, hs⟩ := ((HO3.out.below hb (fun _ h => h.elim)).sl)
  injection he with h1 h2 h3
  subst h1 h3
  obtain ⟨ad, rfl, d0⟩ := str_at hs (k := 0) (s := ⟨#[97]⟩) rfl
  obtain ⟨ad', e', d1⟩ := str_at hs (k := 1) (s := ⟨#[98]⟩) rfl
  injection e' with e'
  subst e'
  rw [add_zero'] at d0
  have hl1 : ([⟨#[97]⟩, ⟨#[98]⟩] : List ByteArray).length = 2 := rfl
  rw [add_pos' ad 1 (by omega)] at d1
  clear hs hb h2
  go_wp2_with fail
  go_ret
  exact ⟨rfl, HB4.out⟩
end Go.Proofs.YtkmcjokoinoahaaDoor.FaultH
