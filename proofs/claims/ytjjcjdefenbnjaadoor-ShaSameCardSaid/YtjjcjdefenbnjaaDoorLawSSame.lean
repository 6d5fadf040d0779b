/- ShaSame: for every input the law answers true; what was in memory before is as it was. -/
import Derived.Test.YtjjcjdefenbnjaaDoorClash
import Derived.Test.YtjjcjdefenbnjaaDoorLawSSums
set_option linter.unusedVariables false
set_option linter.unusedSimpArgs false
namespace Go.Proofs.YtjjcjdefenbnjaaDoor.LawSSame
open Go.RowKit Go.Proofs.YtjjcjdefenbnjaaDoor.Lib Go.Proofs.YtjjcjdefenbnjaaDoor.LibB Go.Proofs.YtjjcjdefenbnjaaDoor.Reg Go.Proofs.YtjjcjdefenbnjaaDoor.PlainS Go.Proofs.YtjjcjdefenbnjaaDoor.ShaA Go.Proofs.YtjjcjdefenbnjaaDoor.ShaB Go.Proofs.YtjjcjdefenbnjaaDoor.ShaC Go.Proofs.YtjjcjdefenbnjaaDoor.ShaD Go.Proofs.YtjjcjdefenbnjaaDoor.ShaDS Go.Proofs.YtjjcjdefenbnjaaDoor.ShaE Go.Proofs.YtjjcjdefenbnjaaDoor.Clash Go.Proofs.YtjjcjdefenbnjaaDoor.LawSSums
theorem sl_two (W : World) (e : TypeId) {F : Nat → Prop} {A B : Option Addr} {n1 c1 n2 c2 : Nat} {l1 l2 : List UInt8} (h1 : Sl rU8 W F A n1 c1 l1) (h2 : Sl rU8 W F B n2 c2 l2) (hF : ∀ k, F k → k < W.heap.size) :
    Sl (Rep.slice rU8) (W.alloc (.cells #[.slice A n1 c1, .slice B n2 c2] e)) (fun k => k < W.heap.size + 1) (some ⟨W.heap.size, 0, none⟩) 2 2 [l1, l2] := by
  have hm : Same F W (W.alloc (.cells #[.slice A n1 c1, .slice B n2 c2] e)) := Same.of_below ((Below.refl _ _).alloc (Nat.le_refl _) _) hF
  refine (Sl.box (F := F) (xs := [l1, l2]) W e (sl_cons (h1.move hm) (sl_cons (h2.move hm) (Els.nil _ _ _))) (by simp)).mono ?_
  rintro k (hk | rfl)
  · exact Nat.lt_succ_of_lt (hF k hk)
  · exact Nat.lt_succ_self _
/-- sha.Sum of nothing, these, nothing. -/
theorem sum_mid (W : World) (e : TypeId) {B : Nat} (hB : W.heap.size = B) {A : Option Addr} {n c : Nat} {l : List UInt8} (h : Sl rU8 W (fun k => k < W.heap.size) A n c l) (hl : l.length ≤ 1000000) (hg : LaidW W) (h1 : 1 < W.heap.size) :
    Calls Tryd.prog 9 #[.slice (some ⟨B, 0, none⟩) 3 3] (W.alloc (.cells #[.slice none 0 0, .slice A n c, .slice none 0 0] e)) fun e w' => (∃ cs : Array Value, e = .returned (.agg cs) ∧ Fact (cs.toList = (shaL l).map vu8)) ∧ Below B W w' := by
  subst hB
  have hb : Below W.heap.size W (W.alloc (.cells #[.slice none 0 0, .slice A n c, .slice none 0 0] e)) := (Below.refl _ _).alloc (Nat.le_refl _) _
  refine (Sum_calls _ _ _ _ _ [[], l, []] l (by simp) (sl_three W e (Sl.nil _ _ _ _ _ (by decide)) h (Sl.nil _ _ _ _ _ (by decide)) (fun _ h => h)) (fun k hk => by simpa using hk) hl (laid_move hg hb h1) (by simp; omega)).mono ?_
  rintro e w' ⟨he, hb'⟩
  exact ⟨he, below_box (Nat.le_refl _) hb'⟩
theorem sl_up {w w' : World} {A : Option Addr} {n c : Nat} {l : List UInt8} (h : Sl rU8 w (fun k => k < w.heap.size) A n c l) (hb : Below w.heap.size w w') : Sl rU8 w' (fun k => k < w'.heap.size) A n c l := (h.move (Same.of_below hb (fun _ h => h))).mono (fun k hk => Nat.lt_of_lt_of_le hk hb.size)
set_option maxHeartbeats 8000000 in
set_option maxRecDepth 100000 in
theorem ShaSame_calls (w : World) (hgw : LaidW w) (hgr : LaidR w) (h1 : 1 < w.heap.size) (A : Option Addr) (n c : Nat) (la : List UInt8) (h : Sl rU8 w (fun k => k < w.heap.size) A n c la) (A2 : Option Addr) (n2 c2 : Nat) (l2 : List UInt8) (h2 : Sl rU8 w (fun k => k < w.heap.size) A2 n2 c2 l2) (y : Bool) :
    Calls Tryd.prog 6 #[.slice A n c, .slice A2 n2 c2, .bool y] w fun e w' => e = .returned (.bool true) ∧ Below w.heap.size w w' := by
  have HA := Fact.mk h
  have HC := Fact.mk h2
  have HGW := Fact.mk hgw
  have HGR := Fact.mk hgr
  have H1 := Fact.mk h1
  clear h h2 hgw hgr h1
  by_cases hs : n ≤ 500 ∧ n2 ≤ 500
  · obtain ⟨s1, s2⟩ := hs
    have d1 : decide (500 < n) = false := by simp; omega
    have d2 : decide (500 < n2) = false := by simp; omega
    have d1' : decide ((500 : Int) < n) = false := by simp; omega
    have d2' : decide ((500 : Int) < n2) = false := by simp; omega
    have S1 := Fact.mk s1
    have S2 := Fact.mk s2
    have HLN : Fact (la.length = n) := ⟨HA.out.len⟩
    have HLN2 : Fact (l2.length = n2) := ⟨HC.out.len⟩
    clear s1 s2
    cases y with
    | true =>
      go_enter Tryd.func6, Tryd.ntmps6
      go_wp2_with (first
        | (go_at_call 8; refine (Awake_calls _ HGW.out H1.out).mono ?_; rintro e w1 ⟨rfl, hb⟩; have HB1 := Fact.mk hb; clear hb; have HA1 := Fact.mk (sl_up HA.out HB1.out))
        | (at_builtin
           have HO0 : Fact (Ow rU8 5 (w1.alloc (.cells #[] 5)) w1.heap.size (fun _ => False) (.slice (some ⟨w1.heap.size, 0, none⟩) 0 0) []) := ⟨Ow.litB (xs := []) (cells := #[]) (n := 0) w1 w1.heap.size 5 (Nat.le_refl _) rfl rfl (by decide)⟩
           refine wpList_app rU8 (w0 := w1) w1.heap.size rfl (.tmp 19) (.tmp 20) 22 5 (.int .u8 0) 1 rfl Tryd.underlying22 info_u8 rfl (by decide) (by decide) (fun _ => False) (fun k => k < w1.heap.size) _ [] la _ _ _ rfl rfl HO0.out (HA1.out.move (Same.of_below ((Below.refl _ _).alloc (Nat.le_refl _) _) (fun _ h => h))) ((Below.refl _ _).alloc (Nat.le_refl _) _) (by simp) (by have := S1.out; simp; omega) (fun _ h => h.elim) (fun _ _ h => h) ?_
           intro v3 w3 ho3 hb3 hg3 hat3
           rw [List.nil_append] at ho3
           obtain ⟨B, cB, hv3, hs3⟩ := ho3.sl
           subst hv3
           rw [HLN.out] at hs3 ho3 ⊢
           have HBS : Fact (Sl rU8 w3 (fun k => k < w3.heap.size) B n cB la) := ⟨hs3.mono (fun k hk => hk.elim False.elim (fun h => (ho3.lt k h).2))⟩
           have HB3 : Fact (Below w.heap.size w w3) := ⟨HB1.out.trans (hb3.mono HB1.out.size)⟩
           have HA3 := Fact.mk (sl_up HA1.out hb3)
           have K1 := run_str (P := Tryd.prog) 22 5 9 Tryd.underlying22 Tryd.underlying5 Tryd.underlying9 HA3.out
           have K2 := run_str (P := Tryd.prog) 22 5 9 Tryd.underlying22 Tryd.underlying5 Tryd.underlying9 HBS.out
           clear hg3 hat3 HO0 hs3 hb3 ho3)
        | (go_at_call 9; fail))
      clear K1 K2
      have HBS3 := HBS
      clear HBS
      refine (sum_at w3 _ rfl HA3.out (fun _ h => h) (by have := HA3.out.len; have := S1.out; have := S2.out; omega) (laid_move HGW.out HB3.out H1.out) (Nat.lt_of_lt_of_le H1.out HB3.out.size)).mono ?_
      rintro e w4 ⟨⟨cs1, rfl, hc⟩, hb⟩
      have HCS1 := Fact.mk hc.out
      have HB4 : Fact (Below w.heap.size w w4) := ⟨HB3.out.trans (hb.mono HB3.out.size)⟩
      have HA4 := Fact.mk (sl_up HA3.out hb)
      have HBS4 := Fact.mk (sl_up HBS3.out hb)
      clear hc hb
      go_wp2_with (go_at_call 9; fail)
      refine (sum_mid w4 _ rfl HA4.out (by have := HA4.out.len; have := S1.out; omega) (laid_move HGW.out HB4.out H1.out) (Nat.lt_of_lt_of_le H1.out HB4.out.size)).mono ?_
      rintro e w5 ⟨⟨cs2, rfl, hc⟩, hb⟩
      have hq := eq_hash hash_u hash_c hash_k cs1 cs2 _ _ HCS1.out hc.out (sha_len _) (sha_len _)
      rw [beq_self_eq_true] at hq
      have HB5 : Fact (Below w.heap.size w w5) := ⟨HB4.out.trans (hb.mono HB4.out.size)⟩
      have HA5 := Fact.mk (sl_up HA4.out hb)
      have HBS5 := Fact.mk (sl_up HBS4.out hb)
      clear hc hb HA3 HBS3 HA4 HBS4 HB3 HB4
      go_wp2_with (go_at_call 9; fail)
      clear hq HCS1
      refine (sum_at w5 _ rfl HA5.out (fun _ h => h) (by have := HA5.out.len; have := S1.out; have := S2.out; omega) (laid_move HGW.out HB5.out H1.out) (Nat.lt_of_lt_of_le H1.out HB5.out.size)).mono ?_
      rintro e w6 ⟨⟨cs3, rfl, hc⟩, hb⟩
      have HCS3 := Fact.mk hc.out
      have HB6 : Fact (Below w.heap.size w w6) := ⟨HB5.out.trans (hb.mono HB5.out.size)⟩
      have HA6 := Fact.mk (sl_up HA5.out hb)
      have HBS6 := Fact.mk (sl_up HBS5.out hb)
      clear hc hb
      go_wp2_with (go_at_call 9; fail)
      refine (sum_at w6 _ rfl HBS6.out (fun _ h => h) (by have := HBS6.out.len; have := S1.out; have := S2.out; omega) (laid_move HGW.out HB6.out H1.out) (Nat.lt_of_lt_of_le H1.out HB6.out.size)).mono ?_
      rintro e w7 ⟨⟨cs4, rfl, hc⟩, hb⟩
      have HCS4 := Fact.mk hc.out
      have HB7 : Fact (Below w.heap.size w w7) := ⟨HB6.out.trans (hb.mono HB6.out.size)⟩
      have HA7 := Fact.mk (sl_up HA6.out hb)
      have HBS7 := Fact.mk (sl_up HBS6.out hb)
      clear hc hb
      have hq2 := eq_hash hash_u hash_c hash_k cs3 cs4 _ _ HCS3.out HCS4.out (sha_len _) (sha_len _)
      rw [beq_self_eq_true] at hq2
      go_wp2_with fail
      go_ret
      exact ⟨rfl, HB7.out⟩
    | false =>
      by_cases hal : la = l2
      · subst hal
        go_enter Tryd.func6, Tryd.ntmps6
        go_wp2_with (first
          | (go_at_call 8
             refine (Awake_calls _ HGW.out H1.out).mono ?_
             rintro e w3 ⟨rfl, hb⟩
             have HB3 := Fact.mk hb
             have HA3 := Fact.mk (sl_up HA.out HB3.out)
             have HBS := Fact.mk (sl_up HC.out HB3.out)
             have K1 := run_str (P := Tryd.prog) 22 5 9 Tryd.underlying22 Tryd.underlying5 Tryd.underlying9 HA3.out
             have K2 := run_str (P := Tryd.prog) 22 5 9 Tryd.underlying22 Tryd.underlying5 Tryd.underlying9 HBS.out
             clear hb)
          | (go_at_call 9; fail))
        clear K1 K2
        have HBS3 := HBS
        clear HBS
        refine (sum_at w3 _ rfl HA3.out (fun _ h => h) (by have := HA3.out.len; have := S1.out; have := S2.out; omega) (laid_move HGW.out HB3.out H1.out) (Nat.lt_of_lt_of_le H1.out HB3.out.size)).mono ?_
        rintro e w4 ⟨⟨cs1, rfl, hc⟩, hb⟩
        have HCS1 := Fact.mk hc.out
        have HB4 : Fact (Below w.heap.size w w4) := ⟨HB3.out.trans (hb.mono HB3.out.size)⟩
        have HA4 := Fact.mk (sl_up HA3.out hb)
        have HBS4 := Fact.mk (sl_up HBS3.out hb)
        clear hc hb
        go_wp2_with (go_at_call 9; fail)
        refine (sum_mid w4 _ rfl HA4.out (by have := HA4.out.len; have := S1.out; omega) (laid_move HGW.out HB4.out H1.out) (Nat.lt_of_lt_of_le H1.out HB4.out.size)).mono ?_
        rintro e w5 ⟨⟨cs2, rfl, hc⟩, hb⟩
        have hq := eq_hash hash_u hash_c hash_k cs1 cs2 _ _ HCS1.out hc.out (sha_len _) (sha_len _)
        rw [beq_self_eq_true] at hq
        have HB5 : Fact (Below w.heap.size w w5) := ⟨HB4.out.trans (hb.mono HB4.out.size)⟩
        have HA5 := Fact.mk (sl_up HA4.out hb)
        have HBS5 := Fact.mk (sl_up HBS4.out hb)
        clear hc hb HA3 HBS3 HA4 HBS4 HB3 HB4
        go_wp2_with (go_at_call 9; fail)
        clear hq HCS1
        refine (sum_at w5 _ rfl HA5.out (fun _ h => h) (by have := HA5.out.len; have := S1.out; have := S2.out; omega) (laid_move HGW.out HB5.out H1.out) (Nat.lt_of_lt_of_le H1.out HB5.out.size)).mono ?_
        rintro e w6 ⟨⟨cs3, rfl, hc⟩, hb⟩
        have HCS3 := Fact.mk hc.out
        have HB6 : Fact (Below w.heap.size w w6) := ⟨HB5.out.trans (hb.mono HB5.out.size)⟩
        have HA6 := Fact.mk (sl_up HA5.out hb)
        have HBS6 := Fact.mk (sl_up HBS5.out hb)
        clear hc hb
        go_wp2_with (go_at_call 9; fail)
        refine (sum_at w6 _ rfl HBS6.out (fun _ h => h) (by have := HBS6.out.len; have := S1.out; have := S2.out; omega) (laid_move HGW.out HB6.out H1.out) (Nat.lt_of_lt_of_le H1.out HB6.out.size)).mono ?_
        rintro e w7 ⟨⟨cs4, rfl, hc⟩, hb⟩
        have HCS4 := Fact.mk hc.out
        have HB7 : Fact (Below w.heap.size w w7) := ⟨HB6.out.trans (hb.mono HB6.out.size)⟩
        have HA7 := Fact.mk (sl_up HA6.out hb)
        have HBS7 := Fact.mk (sl_up HBS6.out hb)
        clear hc hb
        have hq2 := eq_hash hash_u hash_c hash_k cs3 cs4 _ _ HCS3.out HCS4.out (sha_len _) (sha_len _)
        rw [beq_self_eq_true] at hq2
        go_wp2_with fail
        go_ret
        exact ⟨rfl, HB7.out⟩
      · have hne1 : (la == l2) = false := by rw [beq_eq_false_iff_ne]; exact hal
        have HNE := Fact.mk hal
        clear hal
        go_enter Tryd.func6, Tryd.ntmps6
        go_wp2_with (first
          | (go_at_call 8
             refine (Awake_calls _ HGW.out H1.out).mono ?_
             rintro e w3 ⟨rfl, hb⟩
             have HB3 := Fact.mk hb
             have HA3 := Fact.mk (sl_up HA.out HB3.out)
             have HBS := Fact.mk (sl_up HC.out HB3.out)
             have K1 := run_str (P := Tryd.prog) 22 5 9 Tryd.underlying22 Tryd.underlying5 Tryd.underlying9 HA3.out
             have K2 := run_str (P := Tryd.prog) 22 5 9 Tryd.underlying22 Tryd.underlying5 Tryd.underlying9 HBS.out
             clear hb)
          | (go_at_call 9; fail))
        clear K1 K2
        have HBS3 := HBS
        clear HBS
        refine (sum_at w3 _ rfl HA3.out (fun _ h => h) (by have := HA3.out.len; have := S1.out; have := S2.out; omega) (laid_move HGW.out HB3.out H1.out) (Nat.lt_of_lt_of_le H1.out HB3.out.size)).mono ?_
        rintro e w4 ⟨⟨cs1, rfl, hc⟩, hb⟩
        have HCS1 := Fact.mk hc.out
        have HB4 : Fact (Below w.heap.size w w4) := ⟨HB3.out.trans (hb.mono HB3.out.size)⟩
        have HA4 := Fact.mk (sl_up HA3.out hb)
        have HBS4 := Fact.mk (sl_up HBS3.out hb)
        clear hc hb
        go_wp2_with (go_at_call 9; fail)
        refine (sum_mid w4 _ rfl HA4.out (by have := HA4.out.len; have := S1.out; omega) (laid_move HGW.out HB4.out H1.out) (Nat.lt_of_lt_of_le H1.out HB4.out.size)).mono ?_
        rintro e w5 ⟨⟨cs2, rfl, hc⟩, hb⟩
        have hq := eq_hash hash_u hash_c hash_k cs1 cs2 _ _ HCS1.out hc.out (sha_len _) (sha_len _)
        rw [beq_self_eq_true] at hq
        have HB5 : Fact (Below w.heap.size w w5) := ⟨HB4.out.trans (hb.mono HB4.out.size)⟩
        have HA5 := Fact.mk (sl_up HA4.out hb)
        have HBS5 := Fact.mk (sl_up HBS4.out hb)
        clear hc hb HA3 HBS3 HA4 HBS4 HB3 HB4
        go_wp2_with (go_at_call 9; fail)
        clear hq HCS1
        refine (sum_at w5 _ rfl HA5.out (fun _ h => h) (by have := HA5.out.len; have := S1.out; have := S2.out; omega) (laid_move HGW.out HB5.out H1.out) (Nat.lt_of_lt_of_le H1.out HB5.out.size)).mono ?_
        rintro e w6 ⟨⟨cs3, rfl, hc⟩, hb⟩
        have HCS3 := Fact.mk hc.out
        have HB6 : Fact (Below w.heap.size w w6) := ⟨HB5.out.trans (hb.mono HB5.out.size)⟩
        have HA6 := Fact.mk (sl_up HA5.out hb)
        have HBS6 := Fact.mk (sl_up HBS5.out hb)
        clear hc hb
        go_wp2_with (go_at_call 9; fail)
        refine (sum_at w6 _ rfl HBS6.out (fun _ h => h) (by have := HBS6.out.len; have := S1.out; have := S2.out; omega) (laid_move HGW.out HB6.out H1.out) (Nat.lt_of_lt_of_le H1.out HB6.out.size)).mono ?_
        rintro e w7 ⟨⟨cs4, rfl, hc⟩, hb⟩
        have HCS4 := Fact.mk hc.out
        have HB7 : Fact (Below w.heap.size w w7) := ⟨HB6.out.trans (hb.mono HB6.out.size)⟩
        have HA7 := Fact.mk (sl_up HA6.out hb)
        have HBS7 := Fact.mk (sl_up HBS6.out hb)
        clear hc hb
        by_cases hsum : shaL la = shaL l2
        · have hq2 : ∀ W : World, (Op.equalIn 10000 25 (.agg cs3) (.agg cs4)).run Tryd.prog W = .ok true W := fun W => by
            have h := eq_hash hash_u hash_c hash_k cs3 cs4 _ _ HCS3.out HCS4.out (sha_len _) (sha_len _) W
            rw [hsum, beq_self_eq_true] at h
            exact h
          have HSUM := Fact.mk hsum
          clear hsum
          go_wp2_with (go_at_call 11; fail)
          refine (Clash_two _ _ _ _ la l2 (sl_two w7 _ HA7.out HBS7.out (fun _ h => h)) (fun k hk => by simpa using hk) (by have := HA7.out.len; have := S1.out; omega) (by have := HBS7.out.len; have := S2.out; omega) (laidR_move (laidR_move HGR.out HB7.out (Nat.lt_trans Nat.zero_lt_one H1.out)) ((Below.refl _ _).alloc (Nat.le_refl _) _) (Nat.lt_of_lt_of_le (Nat.lt_trans Nat.zero_lt_one H1.out) HB7.out.size)) (by have := HB7.out.size; have := H1.out; rw [size_alloc']; omega) HSUM.out HNE.out).mono ?_
          rintro e w8 ⟨rfl, hb⟩
          have HB8 : Fact (Below w.heap.size w w8) := ⟨below_box HB7.out.size hb |> fun h => HB7.out.trans h⟩
          clear hb
          go_wp2_with fail
          go_ret
          exact ⟨rfl, HB8.out⟩
        · have hq2 : ∀ W : World, (Op.equalIn 10000 25 (.agg cs3) (.agg cs4)).run Tryd.prog W = .ok false W := fun W => by
            have h := eq_hash hash_u hash_c hash_k cs3 cs4 _ _ HCS3.out HCS4.out (sha_len _) (sha_len _) W
            rw [show (shaL la == shaL l2) = false by rw [beq_eq_false_iff_ne]; exact hsum] at h
            exact h
          clear hsum
          go_wp2_with fail
          go_ret
          exact ⟨rfl, HB7.out⟩
  · have hcase : (decide (500 < n) = true) ∨ (decide (500 < n) = false ∧ decide (500 < n2) = true) := by simp; omega
    rcases hcase with d1 | ⟨d1, d2⟩
    all_goals
      have d1' : decide ((500 : Int) < n) = decide (500 < n) := by apply decide_eq_decide.2; omega
      have d2' : decide ((500 : Int) < n2) = decide (500 < n2) := by apply decide_eq_decide.2; omega
      try rw [d1] at d1'
      try rw [d2] at d2'
      clear hs
      go_enter Tryd.func6, Tryd.ntmps6
      go_wp2_with (go_at_call 8; refine (Awake_calls _ HGW.out H1.out).mono ?_; rintro e w1 ⟨rfl, hb⟩; have HB1 := Fact.mk hb; clear hb)
      go_ret
      exact ⟨rfl, HB1.out⟩
end Go.Proofs.YtjjcjdefenbnjaaDoor.LawSSame
