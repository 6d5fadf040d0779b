/- ShaSums: for every input the law answers true; what was in memory before is as it was. -/
import Derived.Test.YtjjcjdefenbnjaaDoorShaE
set_option linter.unusedVariables false
set_option linter.unusedSimpArgs false
namespace Go.Proofs.YtjjcjdefenbnjaaDoor.LawSSums
open Go.RowKit Go.Proofs.YtjjcjdefenbnjaaDoor.Lib Go.Proofs.YtjjcjdefenbnjaaDoor.LibB Go.Proofs.YtjjcjdefenbnjaaDoor.Reg Go.Proofs.YtjjcjdefenbnjaaDoor.PlainS Go.Proofs.YtjjcjdefenbnjaaDoor.ShaA Go.Proofs.YtjjcjdefenbnjaaDoor.ShaB Go.Proofs.YtjjcjdefenbnjaaDoor.ShaC Go.Proofs.YtjjcjdefenbnjaaDoor.ShaD Go.Proofs.YtjjcjdefenbnjaaDoor.ShaDS Go.Proofs.YtjjcjdefenbnjaaDoor.ShaE
theorem sl_three (W : World) (e : TypeId) {F : Nat → Prop} {A B C : Option Addr} {n1 c1 n2 c2 n3 c3 : Nat} {l1 l2 l3 : List UInt8} (h1 : Sl rU8 W F A n1 c1 l1) (h2 : Sl rU8 W F B n2 c2 l2) (h3 : Sl rU8 W F C n3 c3 l3) (hF : ∀ k, F k → k < W.heap.size) :
    Sl (Rep.slice rU8) (W.alloc (.cells #[.slice A n1 c1, .slice B n2 c2, .slice C n3 c3] e)) (fun k => k < W.heap.size + 1) (some ⟨W.heap.size, 0, none⟩) 3 3 [l1, l2, l3] := by
  have hm : Same F W (W.alloc (.cells #[.slice A n1 c1, .slice B n2 c2, .slice C n3 c3] e)) := Same.of_below ((Below.refl _ _).alloc (Nat.le_refl _) _) hF
  refine (Sl.box (F := F) (xs := [l1, l2, l3]) W e (sl_cons (h1.move hm) (sl_cons (h2.move hm) (sl_cons (h3.move hm) (Els.nil _ _ _)))) (by simp)).mono ?_
  rintro k (hk | rfl)
  · exact Nat.lt_succ_of_lt (hF k hk)
  · exact Nat.lt_succ_self _
set_option maxHeartbeats 4000000 in
set_option maxRecDepth 100000 in
theorem ShaSums_calls (w : World) (F : Nat → Prop) (hF : ∀ k, F k → k < w.heap.size) (hgw : LaidW w) (hgr : LaidR w) (h1 : 1 < w.heap.size) (A : Option Addr) (n c : Nat) (l : List UInt8) (h : Sl rU8 w F A n c l) (A2 : Option Addr) (n2 c2 : Nat) (l2 : List UInt8) (h2 : Sl rU8 w F A2 n2 c2 l2) (A3 : Option Addr) (n3 c3 : Nat) (l3 : List UInt8) (h3 : Sl rU8 w F A3 n3 c3 l3) :
    Calls Tryd.prog 3 #[.slice A n c, .slice A2 n2 c2, .slice A3 n3 c3] w fun e w' => e = .returned (.bool true) ∧ Below w.heap.size w w' := by
  have HF := Fact.mk hF
  have HA := Fact.mk h
  have HB := Fact.mk h2
  have HC := Fact.mk h3
  have HGW := Fact.mk hgw
  have HGR := Fact.mk hgr
  have H1 := Fact.mk h1
  clear h h2 h3 hF hgw hgr h1
  by_cases hs : n ≤ 1000 ∧ n2 ≤ 1000 ∧ n3 ≤ 1000
  · obtain ⟨s1, s2, s3⟩ := hs
    have d1 : decide (1000 < n) = false := by simp; omega
    have d2 : decide (1000 < n2) = false := by simp; omega
    have d3 : decide (1000 < n3) = false := by simp; omega
    have d1' : decide ((1000 : Int) < n) = false := by simp; omega
    have d2' : decide ((1000 : Int) < n2) = false := by simp; omega
    have d3' : decide ((1000 : Int) < n3) = false := by simp; omega
    have S1 := Fact.mk s1
    have S2 := Fact.mk s2
    have S3 := Fact.mk s3
    clear s1 s2 s3
    go_enter Tryd.func3, Tryd.ntmps3
    go_wp2_with (go_at_call 8; refine (Awake_calls _ HGW.out H1.out).mono ?_; rintro e w1 ⟨rfl, hb⟩; have HB1 := Fact.mk hb; clear hb)
    have hS1 : Same F w w1 := Same.of_below HB1.out HF.out
    have HF1 : Fact (∀ k, F k → k < w1.heap.size) := ⟨fun k hk => Nat.lt_of_lt_of_le (HF.out k hk) HB1.out.size⟩
    have hb0 : Below w1.heap.size w1 (w1.alloc (.cells #[.slice A n c, .slice A2 n2 c2, .slice A3 n3 c3] 22)) := (Below.refl _ _).alloc (Nat.le_refl _) _
    have hL1 := HA.out.len
    have hL2 := HB.out.len
    have hL3 := HC.out.len
    have HLEN : Fact ((l ++ (l2 ++ l3)).length ≤ 3000) := ⟨by have := S1.out; have := S2.out; have := S3.out; simp; omega⟩
    have HGW1 := Fact.mk (laid_move HGW.out HB1.out H1.out)
    have HGR1 := Fact.mk (laidR_move HGR.out HB1.out (Nat.lt_trans Nat.zero_lt_one H1.out))
    have H11 : Fact (1 < w1.heap.size) := ⟨Nat.lt_of_lt_of_le H1.out HB1.out.size⟩
    refine (Sum_calls _ _ _ _ _ _ (l ++ (l2 ++ l3)) (by simp) (sl_three w1 _ (HA.out.move hS1) (HB.out.move hS1) (HC.out.move hS1) HF1.out) (fun k hk => by simpa using hk) (Nat.le_trans HLEN.out (by decide)) (laid_move HGW1.out hb0 H11.out) (by have := H11.out; simp; omega)).mono ?_
    rintro e w2 ⟨⟨cs1, rfl, hc1⟩, hb2⟩
    have HC1 := Fact.mk hc1.out
    have HB2 : Fact (Below w1.heap.size w1 w2) := ⟨below_box (Nat.le_refl _) hb2⟩
    have hS2 : Same F w1 w2 := Same.of_below HB2.out HF1.out
    have HF2 : Fact (∀ k, F k → k < w2.heap.size) := ⟨fun k hk => Nat.lt_of_lt_of_le (HF1.out k hk) HB2.out.size⟩
    have HA2 := Fact.mk ((HA.out.move hS1).move hS2)
    have HBB2 := Fact.mk ((HB.out.move hS1).move hS2)
    have HCC2 := Fact.mk ((HC.out.move hS1).move hS2)
    have HGR2 := Fact.mk (laidR_move HGR1.out HB2.out (Nat.lt_trans Nat.zero_lt_one H11.out))
    have HLL : Fact (l.length = n ∧ l2.length = n2 ∧ l3.length = n3) := ⟨⟨hL1, hL2, hL3⟩⟩
    have hEq := fun (cs2 : Array Value) (h : cs2.toList = (shaL (l ++ (l2 ++ l3))).map vu8) => eq_hash hash_u hash_c hash_k cs1 cs2 _ _ HC1.out h (sha_len _) (sha_len _)
    have HEQ := Fact.mk hEq
    clear hc1 hb2 hS1 hS2 hb0 hL1 hL2 hL3 hEq
    go_wp2_with (first
      | (at_builtin
         have HO0 : Fact (Ow rU8 5 (w2.alloc (.cells #[] 5)) w2.heap.size (fun _ => False) (.slice (some ⟨w2.heap.size, 0, none⟩) 0 0) []) := ⟨Ow.litB (xs := []) (cells := #[]) (n := 0) w2 w2.heap.size 5 (Nat.le_refl _) rfl rfl (by decide)⟩
         refine wpList_app rU8 (w0 := w2) w2.heap.size rfl (.tmp 27) (.tmp 28) 22 5 (.int .u8 0) 1 rfl Tryd.underlying22 info_u8 rfl (by decide) (by decide) (fun _ => False) F _ [] l _ _ _ rfl rfl HO0.out (HA2.out.move (Same.of_below ((Below.refl _ _).alloc (Nat.le_refl _) _) HF2.out)) ((Below.refl _ _).alloc (Nat.le_refl _) _) (by simp) (by have := S1.out; simp; omega) (fun _ h => h.elim) (fun _ _ h => h) ?_
         intro v3 w3 ho3 hb3 hg3 hat3
         have HO3 := Fact.mk ho3
         have HB3 := Fact.mk hb3
         clear ho3 hb3 hg3 hat3 HO0)
      | (at_builtin
         refine wpList_app rU8 (w0 := w2) w2.heap.size rfl (.tmp 29) (.tmp 30) 22 5 (.int .u8 0) 1 rfl Tryd.underlying22 info_u8 rfl (by decide) (by decide) (fun _ => False) F v3 ([] ++ l) l2 _ _ _ rfl rfl HO3.out (HBB2.out.move (Same.of_below HB3.out HF2.out)) HB3.out HB3.out.size (by have := S1.out; have := S2.out; have := HLL.out; simp; omega) (fun _ h => h.elim) (fun _ _ h => h) ?_
         intro v4 w4 ho4 hb4 hg4 hat4
         have HO4 := Fact.mk ho4
         have HB4 := Fact.mk hb4
         clear ho4 hb4 hg4 hat4)
      | (at_builtin
         refine wpList_app rU8 (w0 := w2) w2.heap.size rfl (.tmp 31) (.tmp 32) 22 5 (.int .u8 0) 1 rfl Tryd.underlying22 info_u8 rfl (by decide) (by decide) (fun _ => False) F v4 ([] ++ l ++ l2) l3 _ _ _ rfl rfl HO4.out (HCC2.out.move (Same.of_below HB4.out HF2.out)) HB4.out HB4.out.size (by have := S1.out; have := S2.out; have := S3.out; have := HLL.out; simp; omega) (fun _ h => h.elim) (fun _ _ h => h) ?_
         intro v5 w5 ho5 hb5 hg5 hat5
         have HO5 := Fact.mk ho5
         have HB5 := Fact.mk hb5
         clear ho5 hb5 hg5 hat5
         obtain ⟨L5, hL5⟩ : ∃ L5, [] ++ l ++ l2 ++ l3 = L5 := ⟨_, rfl⟩
         rw [hL5] at HO5
         have HL5 : Fact (L5 = l ++ (l2 ++ l3)) := ⟨by rw [← hL5]; simp⟩
         obtain ⟨A5, c5, hv5, hs5⟩ := HO5.out.sl
         subst hv5
         obtain ⟨m5, hm5⟩ : ∃ m5, L5.length = m5 := ⟨_, rfl⟩
         rw [hm5] at HO5 hs5 ⊢
         have HS5 : Fact (Sl rU8 w5 (fun k => k < w5.heap.size) A5 m5 c5 L5) := ⟨hs5.mono (fun k hk => hk.elim False.elim (fun h => (HO5.out.lt k h).2))⟩
         clear hL5 hm5
         clear hs5)
      | (go_at_call 10
         go_must (refine (RSum_calls _ _ _ _ _ _ HS5.out (fun k hk => hk) (by have := HLEN.out; rw [HL5.out]; omega) (laidR_move HGR2.out HB5.out (Nat.lt_trans Nat.zero_lt_one (Nat.lt_of_lt_of_le H11.out HB2.out.size))) (Nat.lt_of_lt_of_le (Nat.lt_trans Nat.zero_lt_one (Nat.lt_of_lt_of_le H11.out HB2.out.size)) HB5.out.size)).mono ?_)
         rintro e w6 ⟨⟨cs2, rfl, hc2⟩, hb6⟩
         have hq := HEQ.out cs2 (by rw [hc2.out, HL5.out])
         rw [beq_self_eq_true] at hq
         have HB6 : Fact (Below w2.heap.size w2 w6) := ⟨HB5.out.trans (hb6.mono HB5.out.size)⟩
         clear hc2 hb6))
    go_ret
    exact ⟨rfl, HB1.out.trans ((HB2.out.mono HB1.out.size).trans (HB6.out.mono (Nat.le_trans HB1.out.size HB2.out.size)))⟩
  · have hcase : (decide (1000 < n) = true) ∨ (decide (1000 < n) = false ∧ decide (1000 < n2) = true) ∨ (decide (1000 < n) = false ∧ decide (1000 < n2) = false ∧ decide (1000 < n3) = true) := by simp; omega
    rcases hcase with d1 | ⟨d1, d2⟩ | ⟨d1, d2, d3⟩
    all_goals
      have d1' : decide ((1000 : Int) < n) = decide (1000 < n) := by apply decide_eq_decide.2; omega
      have d2' : decide ((1000 : Int) < n2) = decide (1000 < n2) := by apply decide_eq_decide.2; omega
      have d3' : decide ((1000 : Int) < n3) = decide (1000 < n3) := by apply decide_eq_decide.2; omega
      try rw [d1] at d1'
      try rw [d2] at d2'
      try rw [d3] at d3'
      clear hs
      go_enter Tryd.func3, Tryd.ntmps3
      go_wp2_with (go_at_call 8; refine (Awake_calls _ HGW.out H1.out).mono ?_; rintro e w1 ⟨rfl, hb⟩; have HB1 := Fact.mk hb; clear hb)
      go_ret
      exact ⟨rfl, HB1.out⟩
end Go.Proofs.YtjjcjdefenbnjaaDoor.LawSSums
