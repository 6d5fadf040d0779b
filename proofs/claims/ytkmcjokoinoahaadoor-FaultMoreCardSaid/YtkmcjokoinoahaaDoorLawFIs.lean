/- FaultIs, FaultMore: for every input the law answers true; what was in memory before is as it was. -/
import Derived.Test.YtkmcjokoinoahaaDoorFaultH
import Derived.Test.YtkmcjokoinoahaaDoorFaultG
set_option linter.unusedVariables false
set_option linter.unusedSimpArgs false
namespace Go.Proofs.YtkmcjokoinoahaaDoor.LawFIs
open Go.RowKit Go.Proofs.YtkmcjokoinoahaaDoor.Lib Go.Proofs.YtkmcjokoinoahaaDoor.FaultB Go.Proofs.YtkmcjokoinoahaaDoor.FaultC Go.Proofs.YtkmcjokoinoahaaDoor.FaultD Go.Proofs.YtkmcjokoinoahaaDoor.FaultE Go.Proofs.YtkmcjokoinoahaaDoor.FaultF Go.Proofs.YtkmcjokoinoahaaDoor.FaultG Go.Proofs.YtkmcjokoinoahaaDoor.FaultH
theorem is_base {e : Ch} {code t : Int} (h : numL e = baseL code) : isL t e = ((code == t) && (code != 0)) := by
  unfold isL
  rw [h]
  unfold baseL
  by_cases hc : code = 0
  · rw [if_pos hc]; simp [hc]
  · rw [if_neg hc]
    by_cases ht : code = t
    · subst ht; simp [hc]
    · simp [hc, ht]
set_option maxHeartbeats 4000000 in
set_option maxRecDepth 100000 in
theorem FaultIs_calls (w : World) (hg : Laid w) (F : Nat → Prop) (A : Option Addr) (n c : Nat) (l : List (ByteArray × Int64 × Bool)) (h : Sl rPl w F A n c l) (hF : ∀ k, F k → k < w.heap.size) (code t : Int) : Calls Tryd.prog 7 #[.int .i64 code, .int .i64 t, .slice A n c] w fun ev w' => ev = .returned (.bool true) ∧ Below w.heap.size w w' := by
  have HG := Fact.mk hg
  have H := Fact.mk h
  have HF := Fact.mk hF
  clear hg h hF
  go_enter Tryd.func7, Tryd.ntmps7
  go_wp2_with (go_at_call 18; fail)
  refine (Awake_calls w HG.out).mono ?_
  rintro ev w1 ⟨rfl, hb⟩
  have HB1 := Fact.mk hb
  clear hb
  go_wp2_with (go_at_call 20; fail)
  refine (made_calls w1 F A n c l (H.out.move (Same.of_below HB1.out HF.out)) (fun k hk => by have := HF.out k hk; have := HB1.out.size; omega) code).mono ?_
  rintro ev w2 ⟨e, rfl, hin, hnum, hwh, hb⟩
  have HB2 : Fact (Below w.heap.size w w2) := ⟨HB1.out.trans (hb.mono HB1.out.size)⟩
  have HIN := hin
  have HT : Fact (isL t e = ((code == t) && (code != 0))) := ⟨is_base hnum.out⟩
  have HC : Fact (isL code e = (code != 0)) := ⟨by rw [is_base hnum.out]; simp⟩
  clear hin hnum hwh hb
  generalize hve : vOf e = ve
  have HVE := Fact.mk hve
  clear hve
  go_wp2_with (go_at_call 27; fail)
  rw [← HVE.out]
  refine (FIs_calls w2 w2.heap.size e HIN.out t (Nat.le_refl _)).mono ?_
  rintro ev w3 ⟨rfl, hb⟩
  rw [HT.out]
  have HB3 : Fact (Below w.heap.size w w3) := ⟨HB2.out.trans (hb.mono HB2.out.size)⟩
  have HI3 : Fact (In w3 w2.heap.size e) := ⟨HIN.out.move (fun k hk => hb.block k hk)⟩
  have HS3 : Fact (w2.heap.size ≤ w3.heap.size) := ⟨hb.size⟩
  clear hb
  obtain ⟨b0, hb0⟩ : ∃ b, (code != 0) = b := ⟨_, rfl⟩
  obtain ⟨b1, hb1⟩ : ∃ b, (code == t) = b := ⟨_, rfl⟩
  rw [hb0] at HC ⊢
  rw [hb1]
  have hbb : ∀ x : Bool, (x == x) = true := by simp
  have hand : (if b1 = true then b0 else false) = (b1 && b0) := by cases b1 <;> rfl
  cases b1
  all_goals
    (go_wp2_with (go_at_call 27; fail)
     refine (FIs_calls w3 w2.heap.size e HI3.out code HS3.out).mono ?_
     rintro ev w4 ⟨rfl, hb⟩
     rw [HC.out]
     have HB4 : Fact (Below w.heap.size w w4) := ⟨HB3.out.trans (hb.mono HB3.out.size)⟩
     have HI4 : Fact (In w4 w2.heap.size e) := ⟨HI3.out.move (fun k hk => hb.block k (by have := HS3.out; omega))⟩
     have HS4 : Fact (w2.heap.size ≤ w4.heap.size) := ⟨Nat.le_trans HS3.out hb.size⟩
     clear hb
     go_wp2_with (go_at_call 27; fail)
     refine (FIs_nil w4 code).mono ?_
     rintro ev w5 ⟨rfl, rfl⟩
     go_wp2_with (go_at_call 28; fail)
     refine (EIs_calls w5 w2.heap.size e HI4.out code HS4.out).mono ?_
     rintro ev w6 ⟨rfl, hb⟩
     rw [HC.out]
     have HB6 : Fact (Below w.heap.size w w6) := ⟨HB4.out.trans (hb.mono HB4.out.size)⟩
     clear hb
     go_wp2_with fail
     go_ret
     exact ⟨rfl, HB6.out⟩)
theorem made_short {e : Ch} {l : List (ByteArray × Int64 × Bool)} (h : whereL e = madeW (l.take 20)) : (whereL e).length ≤ 20 := by
  rw [h]
  exact Nat.le_trans (madeW_len _) (by rw [List.length_take]; omega)
set_option maxHeartbeats 4000000 in
set_option maxRecDepth 100000 in
theorem FaultMore_calls (w : World) (hg : Laid w) (F : Nat → Prop) (A : Option Addr) (n c : Nat) (l : List (ByteArray × Int64 × Bool)) (h : Sl rPl w F A n c l) (hF : ∀ k, F k → k < w.heap.size) (code : Int) (s : ByteArray) (nn : Int) : Calls Tryd.prog 8 #[.int .i64 code, .slice A n c, .string s, .int .i64 nn] w fun ev w' => ev = .returned (.bool true) ∧ Below w.heap.size w w' := by
  have HG := Fact.mk hg
  have H := Fact.mk h
  have HF := Fact.mk hF
  clear hg h hF
  go_enter Tryd.func8, Tryd.ntmps8
  go_wp2_with (go_at_call 18; fail)
  refine (Awake_calls w HG.out).mono ?_
  rintro ev w1 ⟨rfl, hb⟩
  have HB1 := Fact.mk hb
  clear hb
  go_wp2_with (go_at_call 20; fail)
  refine (made_calls w1 F A n c l (H.out.move (Same.of_below HB1.out HF.out)) (fun k hk => by have := HF.out k hk; have := HB1.out.size; omega) code).mono ?_
  rintro ev w2 ⟨e, rfl, hin, hnum, hwh, hb⟩
  have HB2 : Fact (Below w.heap.size w w2) := ⟨HB1.out.trans (hb.mono HB1.out.size)⟩
  have HIN := hin
  have HLE := Fact.mk (made_short hwh.out)
  clear hin hnum hwh hb
  generalize hve : vOf e = ve
  have HVE := Fact.mk hve
  clear hve
  go_wp2_with (go_at_call 23; fail)
  rw [← HVE.out]
  refine (At_calls w2 w2.heap.size s nn e HIN.out (Nat.le_refl _)).mono ?_
  rintro ev w3 ⟨rfl, hi3, hw3⟩
  have HB3 : Fact (Below w.heap.size w w3) := ⟨HB2.out.trans (by rw [hw3]; exact (Below.refl _ _).alloc HB2.out.size _)⟩
  have HS3 : Fact (w3.heap.size = w2.heap.size + 1) := ⟨by rw [hw3]; simp⟩
  have HE3 : Fact (In w3 w2.heap.size e) := ⟨HIN.out.move (fun k hk => by rw [hw3]; exact Below.heap_alloc _ _ _ hk)⟩
  have HI3 := hi3
  clear hi3 hw3
  generalize hst : Ch.step w2.heap.size s nn e = e2 at HI3 ⊢
  have HW2 : Fact (whereL e2 = s :: whereL e) := ⟨by rw [← hst]; rfl⟩
  have HC2 : Fact (codeL e2 = codeL e) := ⟨by rw [← hst]; rfl⟩
  have HL2 : Fact (isL code e2 = isL code e) := ⟨by rw [← hst]; rfl⟩
  clear hst
  go_wp2_with (go_at_call 21; fail)
  refine (Where_calls w3 w2.heap.size e HE3.out (HG.out.below HB3.out HG.out.lt) (by rw [HS3.out]; omega) (by have := HLE.out; omega)).mono ?_
  rintro ev w4 ⟨va, rfl, hoa, hb⟩
  obtain ⟨Aa, ca, rfl, hsa⟩ := hoa.out.sl
  have HB4 : Fact (Below w.heap.size w w4) := ⟨HB3.out.trans (hb.mono HB3.out.size)⟩
  have HI4 : Fact (In w4 (w2.heap.size + 1) e2) := ⟨HI3.out.move (fun k hk => hb.block k (by rw [HS3.out]; exact hk))⟩
  have HE4 : Fact (In w4 w2.heap.size e) := ⟨HE3.out.move (fun k hk => hb.block k (by rw [HS3.out]; omega))⟩
  have HS4 : Fact (w2.heap.size + 1 ≤ w4.heap.size) := ⟨by have := hb.size; rw [HS3.out] at this; exact this⟩
  clear hb hsa hoa
  obtain ⟨m, hm⟩ : ∃ m, (whereL e).length = m := ⟨_, rfl⟩
  rw [hm] at HLE ⊢
  have HM := Fact.mk hm
  clear hm
  go_wp2_with (go_at_call 21; fail)
  refine (Where_calls w4 (w2.heap.size + 1) e2 HI4.out (HG.out.below HB4.out HG.out.lt) HS4.out (by rw [HW2.out]; have := HLE.out; have := HM.out; simp; omega)).mono ?_
  rintro ev w5 ⟨vb, rfl, hob, hb⟩
  rw [HW2.out] at hob
  obtain ⟨Ab, cb, rfl, hsb⟩ := hob.out.sl
  have HB5 : Fact (Below w.heap.size w w5) := ⟨HB4.out.trans (hb.mono HB4.out.size)⟩
  have HI5 : Fact (In w5 (w2.heap.size + 1) e2) := ⟨HI4.out.move (fun k hk => hb.block k (by have := HS4.out; omega))⟩
  have HE5 : Fact (In w5 w2.heap.size e) := ⟨HE4.out.move (fun k hk => hb.block k (by have := HS4.out; omega))⟩
  have HS5 : Fact (w2.heap.size + 1 ≤ w5.heap.size) := ⟨Nat.le_trans HS4.out hb.size⟩
  have HO5 := Fact.mk hob.out
  have hlm : (s :: whereL e).length = m + 1 := by rw [List.length_cons, HM.out]
  rw [hlm] at HO5 ⊢
  clear hb hsb hob hlm
  go_wp2_with (go_at_call 19; fail)
  refine (Code_calls w5 (w2.heap.size + 1) e2 HI5.out (HG.out.below HB5.out HG.out.lt) HS5.out).mono ?_
  rintro ev w6 ⟨rfl, hb⟩
  rw [HC2.out]
  have HB6 : Fact (Below w.heap.size w w6) := ⟨HB5.out.trans (hb.mono HB5.out.size)⟩
  have HI6 : Fact (In w6 (w2.heap.size + 1) e2) := ⟨HI5.out.move (fun k hk => hb.block k (by have := HS5.out; omega))⟩
  have HE6 : Fact (In w6 w2.heap.size e) := ⟨HE5.out.move (fun k hk => hb.block k (by have := HS5.out; omega))⟩
  have HS6 : Fact (w2.heap.size + 1 ≤ w6.heap.size) := ⟨Nat.le_trans HS5.out hb.size⟩
  have HO6 : Fact (Ow rStr 9 w6 (w4.heap.size + 1) (fun _ => False) (.slice Ab (m + 1) cb) (s :: whereL e)) := ⟨HO5.out.below hb (fun _ h => h.elim)⟩
  clear hb
  obtain ⟨cd, hcd⟩ : ∃ cd, codeL e = cd := ⟨_, rfl⟩
  have HCD := Fact.mk hcd
  rw [hcd]
  clear hcd
  have hcc : (cd == cd) = true := by simp
  go_wp2_with (go_at_call 19; fail)
  refine (Code_calls w6 w2.heap.size e HE6.out (HG.out.below HB6.out HG.out.lt) (by have := HS6.out; omega)).mono ?_
  rintro ev w7 ⟨rfl, hb⟩
  rw [HCD.out]
  have HB7 : Fact (Below w.heap.size w w7) := ⟨HB6.out.trans (hb.mono HB6.out.size)⟩
  have HI7 : Fact (In w7 (w2.heap.size + 1) e2) := ⟨HI6.out.move (fun k hk => hb.block k (by have := HS6.out; omega))⟩
  have HE7 : Fact (In w7 w2.heap.size e) := ⟨HE6.out.move (fun k hk => hb.block k (by have := HS6.out; omega))⟩
  have HS7 : Fact (w2.heap.size + 1 ≤ w7.heap.size) := ⟨Nat.le_trans HS6.out hb.size⟩
  have HO7 : Fact (Ow rStr 9 w7 (w4.heap.size + 1) (fun _ => False) (.slice Ab (m + 1) cb) (s :: whereL e)) := ⟨HO6.out.below hb (fun _ h => h.elim)⟩
  clear hb
  go_wp2_with (go_at_call 27; fail)
  refine (FIs_calls w7 (w2.heap.size + 1) e2 HI7.out code HS7.out).mono ?_
  rintro ev w8 ⟨rfl, hb⟩
  rw [HL2.out]
  have HB8 : Fact (Below w.heap.size w w8) := ⟨HB7.out.trans (hb.mono HB7.out.size)⟩
  have HE8 : Fact (In w8 w2.heap.size e) := ⟨HE7.out.move (fun k hk => hb.block k (by have := HS7.out; omega))⟩
  have HS8 : Fact (w2.heap.size + 1 ≤ w8.heap.size) := ⟨Nat.le_trans HS7.out hb.size⟩
  have HO8 : Fact (Ow rStr 9 w8 (w4.heap.size + 1) (fun _ => False) (.slice Ab (m + 1) cb) (s :: whereL e)) := ⟨HO7.out.below hb (fun _ h => h.elim)⟩
  clear hb
  obtain ⟨bl, hbl⟩ : ∃ b, isL code e = b := ⟨_, rfl⟩
  have HBL := Fact.mk hbl
  rw [hbl]
  clear hbl
  have hbb : (bl == bl) = true := by simp
  go_wp2_with (go_at_call 27; fail)
  refine (FIs_calls w8 w2.heap.size e HE8.out code (by have := HS8.out; omega)).mono ?_
  rintro ev w9 ⟨rfl, hb⟩
  rw [HBL.out]
  have HB9 : Fact (Below w.heap.size w w9) := ⟨HB8.out.trans (hb.mono HB8.out.size)⟩
  obtain ⟨A', c', he, hs⟩ := ((HO8.out.below hb (fun _ h => h.elim)).sl)
  injection he with h1 h2 h3
  subst h1 h3
  obtain ⟨ad, rfl, d0⟩ := str_at hs (k := 0) (s := s) rfl
  rw [add_zero'] at d0
  have hml := HLE.out
  have hwr : IntKind.i64.wrap ((m : Int) + 1) = (m : Int) + 1 := by rw [IntKind.wrap_i64]; omega
  have hmm : (((m : Int) + 1) == ((m : Int) + 1)) = true := by simp
  have hm0 : (0 : Int) < (m : Int) + 1 := by omega
  clear hs hb h2
  go_wp2_with fail
  go_ret
  exact ⟨rfl, HB9.out⟩
end Go.Proofs.YtkmcjokoinoahaaDoor.LawFIs
