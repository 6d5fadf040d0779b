/- ShaCuts: for every input the law answers true; what was in memory before is as it was. -/
import Derived.Test.YtjjcjdefenbnjaaDoorShaE
set_option linter.unusedVariables false
set_option linter.unusedSimpArgs false
namespace Go.Proofs.YtjjcjdefenbnjaaDoor.LawSCuts
open Go.RowKit Go.Proofs.YtjjcjdefenbnjaaDoor.Lib Go.Proofs.YtjjcjdefenbnjaaDoor.LibB Go.Proofs.YtjjcjdefenbnjaaDoor.Reg Go.Proofs.YtjjcjdefenbnjaaDoor.PlainS Go.Proofs.YtjjcjdefenbnjaaDoor.ShaA Go.Proofs.YtjjcjdefenbnjaaDoor.ShaB Go.Proofs.YtjjcjdefenbnjaaDoor.ShaC Go.Proofs.YtjjcjdefenbnjaaDoor.ShaD Go.Proofs.YtjjcjdefenbnjaaDoor.ShaDS Go.Proofs.YtjjcjdefenbnjaaDoor.ShaE
theorem info_bs : (Tryd.prog.info? 22).map (fun i => (i.zero, i.size, i.bytes)) = some (some (.slice none 0 0), 1, 24) := by kernel_rfl
theorem slice_upto (A : Option Addr) (n c j : Nat) (hj : j ≤ c) (W : World) : (Instr.slice 22 (.slice A n c) none (some (.int .i64 (j : Int))) none).run Tryd.prog W = .ok (.slice A j c) W := by
  obtain ⟨i, hi, hz⟩ := u8_i
  have hel : Tryd.prog.elem 22 = 5 := by kernel_rfl
  have hu : Tryd.prog.underlying 22 = some (.slice (Tryd.prog.elem 22)) := by rw [hel]; exact Tryd.underlying22
  have ha : (A.map fun x => x.add 0) = A := by cases A <;> simp [Addr.add]
  rw [run_slice_h W 22 A n c hu .i64 j (by omega) (by omega), hel]
  simp [sizeOf, typeInfo, hi, sliced, Result.andThen, ha]
set_option maxHeartbeats 8000000 in
set_option maxRecDepth 100000 in
theorem ShaCuts_calls (w : World) (F : Nat → Prop) (hF : ∀ k, F k → k < w.heap.size) (hgw : LaidW w) (h1 : 1 < w.heap.size) (A : Option Addr) (n c : Nat) (l : List UInt8) (h : Sl rU8 w F A n c l) (A2 : Option Addr) (n2 c2 : Nat) (l2 : List UInt8) (h2 : Sl rU8 w F A2 n2 c2 l2) :
    Calls Tryd.prog 5 #[.slice A n c, .slice A2 n2 c2] w fun e w' => e = .returned (.bool true) ∧ Below w.heap.size w w' := by
  have HF := Fact.mk hF
  have HA := Fact.mk h
  have HC := Fact.mk h2
  have HGW := Fact.mk hgw
  have H1 := Fact.mk h1
  clear h h2 hF hgw h1
  by_cases hs : n ≤ 1000 ∧ n2 ≤ 50
  · obtain ⟨s1, s2⟩ := hs
    have d1 : decide (1000 < n) = false := by simp; omega
    have d2 : decide (50 < n2) = false := by simp; omega
    have d1' : decide ((1000 : Int) < n) = false := by simp; omega
    have d2' : decide ((50 : Int) < n2) = false := by simp; omega
    have S1 := Fact.mk s1
    have S2 := Fact.mk s2
    have HLN : Fact (l.length = n) := ⟨HA.out.len⟩
    have HLN2 : Fact (l2.length = n2) := ⟨HC.out.len⟩
    clear s1 s2
    go_enter Tryd.func5, Tryd.ntmps5
    go_wp2_with (first
      | (go_at_call 8; refine (Awake_calls _ HGW.out H1.out).mono ?_; rintro e w1 ⟨rfl, hb⟩; have HB1 := Fact.mk hb; clear hb)
      | (at_builtin
         have HO0 : Fact (Ow rU8 5 (w1.alloc (.cells #[] 5)) w1.heap.size (fun _ => False) (.slice (some ⟨w1.heap.size, 0, none⟩) 0 0) []) := ⟨Ow.litB (xs := []) (cells := #[]) (n := 0) w1 w1.heap.size 5 (Nat.le_refl _) rfl rfl (by decide)⟩
         refine wpList_app rU8 (w0 := w1) w1.heap.size rfl (.tmp 21) (.tmp 22) 22 5 (.int .u8 0) 1 rfl Tryd.underlying22 info_u8 rfl (by decide) (by decide) (fun _ => False) F _ [] l _ _ _ rfl rfl HO0.out ((HA.out.move (Same.of_below HB1.out HF.out)).move (Same.of_below ((Below.refl _ _).alloc (Nat.le_refl _) _) (fun k hk => Nat.lt_of_lt_of_le (HF.out k hk) HB1.out.size))) ((Below.refl _ _).alloc (Nat.le_refl _) _) (by simp) (by have := S1.out; simp; omega) (fun _ h => h.elim) (fun _ _ h => h) ?_
         intro v3 w3 ho3 hb3 hg3 hat3
         have HO3 := Fact.mk ho3
         have HB3 := Fact.mk hb3
         clear ho3 hb3 hg3 hat3 HO0)
      | (at_builtin
         refine wpList_app rU8 (w0 := w1) w1.heap.size rfl (.tmp 23) (.tmp 24) 22 5 (.int .u8 0) 1 rfl Tryd.underlying22 info_u8 rfl (by decide) (by decide) (fun _ => False) (fun k => k = w3.heap.size) v3 ([] ++ l) [7, 7] _ 2 2 rfl rfl
           (HO3.out.below ((Below.refl _ _).alloc (Nat.le_refl _) _) (fun _ h => h.elim)) (Sl.boxB w3 _ rfl rfl (by decide)) (HB3.out.alloc HB3.out.size _) (by have := HB3.out.size; simp; omega) (by have := S1.out; have := HLN.out; simp; omega) (fun _ h => h.elim) (fun _ _ h => h) ?_
         intro v4 w4 ho4 hb4 hg4 hat4
         obtain ⟨l7, hl7⟩ : ∃ l7, [] ++ l ++ [7, 7] = l7 := ⟨_, rfl⟩
         rw [hl7] at ho4
         have HL7 : Fact (l7 = l ++ [7, 7]) := ⟨by rw [← hl7]; simp⟩
         obtain ⟨A4, c4, hv4, hs4⟩ := ho4.sl
         subst hv4
         obtain ⟨n4, hn4⟩ : ∃ n4, l7.length = n4 := ⟨_, rfl⟩
         rw [hn4] at ho4 hs4 ⊢
         have HN4 : Fact (n4 = n + 2) := ⟨by rw [← hn4, HL7.out, ← HLN.out]; simp⟩
         have HS4 : Fact (Sl rU8 w4 (fun k => w1.heap.size ≤ k ∧ k < w4.heap.size) A4 n4 c4 l7) := ⟨hs4.mono (fun k hk => hk.elim False.elim (fun h => ho4.lt k h))⟩
         have HB4 := Fact.mk hb4
         clear ho4 hb4 hg4 hat4 hl7 hn4 hs4
         have hsl := slice_upto A4 n4 c4 n (by have := HS4.out.le; have := HN4.out; omega)))
    clear hsl
    have HBw4 : Fact (Below w.heap.size w w4) := ⟨HB1.out.trans (HB4.out.mono HB1.out.size)⟩
    have HIN : Fact (Sl rU8 w4 (fun k => k < w4.heap.size) A4 n c4 l) := ⟨by
      have h1 := (HS4.out.take_ (k := n) (by have := HN4.out; omega)).mono (F' := fun k => k < w4.heap.size) (fun k hk => hk.2)
      rw [HL7.out, List.take_left' HLN.out] at h1
      exact h1⟩
    have hn2 : (n2 : Int) ≤ 50 := by have := S2.out; omega
    go_loopg [6, 7, 32] n2 (fun kq b r i wr => ∃ (k nr cr : Nat) (Ar : Option Addr) (ps : List (List UInt8)) (rl : List UInt8), i = .int .i64 (k : Int) ∧ r = .slice Ar nr cr ∧ Fact (k + kq = n2) ∧ Fact (nr ≤ 1000) ∧ Fact (OwX (Rep.slice rU8) 22 wr w4.heap.size b ps) ∧ Fact (ps.length = k) ∧ Fact (Sl rU8 w4 (fun k => k < w4.heap.size) Ar nr cr rl) ∧ Fact (ps.flatten ++ rl = l) ∧ Fact (Below w4.heap.size w4 wr))
    case atStart => exact ⟨0, n, c4, A4, [], l, rfl, rfl, ⟨Nat.zero_add _⟩, S1, ⟨OwX.nil _ _ _ _⟩, ⟨rfl⟩, HIN, ⟨rfl⟩, ⟨Below.refl _ _⟩⟩
    case round =>
      obtain ⟨k, nr, cr, Ar, ps, rl, rfl, rfl, HK, HNR, HO, HPL, HRS, HFL, HB⟩ := hrel
      have hnr : (nr : Int) ≤ 1000 := by have := HNR.out; omega
      by_cases hlt : k < n2
      · have HLT := Fact.mk hlt
        have hkn : (k : Int) < (n2 : Int) := by omega
        obtain ⟨cb, hcb⟩ : ∃ b, l2[k]? = some b := ⟨_, List.getElem?_eq_getElem (by rw [HLN2.out]; exact hlt)⟩
        obtain ⟨ad2, rfl, hfa2, hy⟩ := HC.out.byte hcb
        have hy' : wr.cell? (ad2.add k) = some (.int .u8 (cb.toNat : Int)) := (cell_same (by rw [block_add]; exact (HB.out.block _ (Nat.lt_of_lt_of_le (HF.out _ hfa2) HBw4.out.size)).trans (HBw4.out.block _ (HF.out _ hfa2)))).trans hy
        have hz255 : (cb.toNat : Int) ≤ 255 := by have := cb.toNat_lt; omega
        obtain ⟨z, hz⟩ : ∃ z, cb.toNat = z := ⟨_, rfl⟩
        rw [hz] at hy' hz255
        clear hz
        rcases (show ((z : Int) ≤ (nr : Int)) ∨ ((nr : Int) < (z : Int)) by omega) with hmz | hmz
        · have hmnI : (z : Int) ≤ (nr : Int) := hmz
          have hmn : z ≤ nr := by omega
          obtain ⟨i, hi, hsz⟩ := u8_i
          obtain ⟨ht1, ht2⟩ := slice_to (P := Tryd.prog) rU8 22 5 Tryd.underlying22 hi Ar nr cr .i64 (z : Int) (by omega) (by omega) HRS.out.le
          obtain ⟨A6, hd1, hd2⟩ := slice_from (P := Tryd.prog) rU8 22 5 Tryd.underlying22 hi hsz Ar nr cr .i64 (z : Int) (by omega) (by omega)
          simp only [Int.toNat_natCast] at ht1 ht2 hd1 hd2
          have HT2 := Fact.mk (ht2 HRS.out)
          have HD2 := Fact.mk (hd2 HRS.out)
          obtain ⟨q, hq⟩ : ∃ q, nr - z = q := ⟨_, rfl⟩
          rw [hq] at hd1 HD2
          have HQ : Fact (q ≤ 1000) := ⟨by have := HNR.out; omega⟩
          have HTL : Fact ((rl.take z).length = z) := ⟨HT2.out.len⟩
          clear hcb hy hfa2 hi hsz ht2 hd2 hq hlt hmn
          go_wp2_with (at_builtin
                       refine wpList_pushX (Rep.slice rU8) (w0 := w4) w4.heap.size rfl (.tmp 41) (.tmp 45) 30 22 (.slice none 0 0) 24 rfl Tryd.underlying30 info_bs rfl (by decide) (by decide) u6 ps (rl.take z) #[.slice Ar z cr] 22 rfl rfl HO.out ⟨Ar, cr, by rw [HTL.out], by rw [HTL.out]; exact (HT2.out.move (Same.of_below HB.out (fun _ h => h))).mono (fun k hk => ⟨Nat.lt_of_lt_of_le hk HB.out.size, fun he => by have := (HO.out.lt _ he.symm).1; omega⟩)⟩ HB.out HB.out.size (by have := HPL.out; have := HLT.out; have := S2.out; omega) ?_
                       intro v7 w7 ho7 hb7 hs7
                       have HO7 := Fact.mk ho7
                       have HB7 := Fact.mk hb7
                       clear ho7 hb7 hs7)
          go_roundg (n2 - (k + 1))
          case measure => have := HK.out; have := HLT.out; omega
          case rel => exact ⟨k + 1, q, _, A6, ps ++ [rl.take z], rl.drop z, by go_num, rfl, ⟨by have := HLT.out; omega⟩, HQ, HO7, ⟨by simp [HPL.out]⟩, HD2, ⟨by rw [← HFL.out]; simp⟩, HB7⟩
        · have hmnI : (nr : Int) ≤ (nr : Int) := Int.le_refl _
          have hmn : nr ≤ nr := Nat.le_refl _
          obtain ⟨i, hi, hsz⟩ := u8_i
          obtain ⟨ht1, ht2⟩ := slice_to (P := Tryd.prog) rU8 22 5 Tryd.underlying22 hi Ar nr cr .i64 (nr : Int) (by omega) (by omega) HRS.out.le
          obtain ⟨A6, hd1, hd2⟩ := slice_from (P := Tryd.prog) rU8 22 5 Tryd.underlying22 hi hsz Ar nr cr .i64 (nr : Int) (by omega) (by omega)
          simp only [Int.toNat_natCast] at ht1 ht2 hd1 hd2
          have HT2 := Fact.mk (ht2 HRS.out)
          have HD2 := Fact.mk (hd2 HRS.out)
          obtain ⟨q, hq⟩ : ∃ q, nr - nr = q := ⟨_, rfl⟩
          rw [hq] at hd1 HD2
          have HQ : Fact (q ≤ 1000) := ⟨by have := HNR.out; omega⟩
          have HTL : Fact ((rl.take nr).length = nr) := ⟨HT2.out.len⟩
          clear hcb hy hfa2 hi hsz ht2 hd2 hq hlt hmn
          go_wp2_with (at_builtin
                       refine wpList_pushX (Rep.slice rU8) (w0 := w4) w4.heap.size rfl (.tmp 41) (.tmp 45) 30 22 (.slice none 0 0) 24 rfl Tryd.underlying30 info_bs rfl (by decide) (by decide) u6 ps (rl.take nr) #[.slice Ar nr cr] 22 rfl rfl HO.out ⟨Ar, cr, by rw [HTL.out], by rw [HTL.out]; exact (HT2.out.move (Same.of_below HB.out (fun _ h => h))).mono (fun k hk => ⟨Nat.lt_of_lt_of_le hk HB.out.size, fun he => by have := (HO.out.lt _ he.symm).1; omega⟩)⟩ HB.out HB.out.size (by have := HPL.out; have := HLT.out; have := S2.out; omega) ?_
                       intro v7 w7 ho7 hb7 hs7
                       have HO7 := Fact.mk ho7
                       have HB7 := Fact.mk hb7
                       clear ho7 hb7 hs7)
          go_roundg (n2 - (k + 1))
          case measure => have := HK.out; have := HLT.out; omega
          case rel => exact ⟨k + 1, q, _, A6, ps ++ [rl.take nr], rl.drop nr, by go_num, rfl, ⟨by have := HLT.out; omega⟩, HQ, HO7, ⟨by simp [HPL.out]⟩, HD2, ⟨by rw [← HFL.out]; simp⟩, HB7⟩
      · have hk2 : k = n2 := by have := HK.out; omega
        subst hk2
        clear hlt HK
        go_wp2_with (at_builtin
                     refine wpList_pushX (Rep.slice rU8) (w0 := w4) w4.heap.size rfl (.tmp 51) (.tmp 53) 30 22 (.slice none 0 0) 24 rfl Tryd.underlying30 info_bs rfl (by decide) (by decide) u6 ps rl #[.slice Ar nr cr] 22 rfl rfl HO.out ⟨Ar, cr, by rw [HRS.out.len], by rw [HRS.out.len]; exact (HRS.out.move (Same.of_below HB.out (fun _ h => h))).mono (fun k hk => ⟨Nat.lt_of_lt_of_le hk HB.out.size, fun he => by have := (HO.out.lt _ he.symm).1; omega⟩)⟩ HB.out HB.out.size (by have := HPL.out; have := S2.out; omega) ?_
                     intro v7 w7 ho7 hb7 hs7
                     have HO7 := Fact.mk ho7
                     have HB7 := Fact.mk hb7
                     clear ho7 hb7 hs7
                     obtain ⟨pl, hpl⟩ : ∃ pl, ps ++ [rl] = pl := ⟨_, rfl⟩
                     have HPF : Fact (pl.flatten = l) := ⟨by rw [← hpl, ← HFL.out]; simp⟩
                     rw [hpl] at HO7
                     obtain ⟨A7, c7, hv7, hs7⟩ := HO7.out.sl
                     subst hv7
                     have HS7 := Fact.mk hs7
                     obtain ⟨n7, hn7⟩ : ∃ n7, pl.length = n7 := ⟨_, rfl⟩
                     rw [hn7] at HS7 ⊢
                     clear hpl hs7 hn7)
        have HB9 : Fact (Below w.heap.size w w7) := ⟨HBw4.out.trans (HB7.out.mono HBw4.out.size)⟩
        refine (Sum_calls _ _ _ _ _ pl l HPF.out HS7.out (fun _ h => h) (by have := HLN.out; have := S1.out; omega) (laid_move HGW.out HB9.out H1.out) (Nat.lt_of_lt_of_le H1.out HB9.out.size)).mono ?_
        rintro e w8 ⟨⟨cs1, rfl, hc1⟩, hb8⟩
        have HC1 := Fact.mk hc1.out
        have HB8 : Fact (Below w.heap.size w w8) := ⟨HB9.out.trans (hb8.mono HB9.out.size)⟩
        have HB48 : Fact (Below w4.heap.size w4 w8) := ⟨HB7.out.trans (hb8.mono HB7.out.size)⟩
        clear hc1 hb8 HO7 HS7 HB7 HB9 HB HO HRS HFL HPL HPF
        go_wp2_with (go_at_call 9; fail)
        refine (sum_at w8 _ rfl (HA.out.move (Same.of_below HB8.out HF.out)) (fun k hk => Nat.lt_of_lt_of_le (HF.out k hk) HB8.out.size) (by have := HLN.out; have := S1.out; omega) (laid_move HGW.out HB8.out H1.out) (Nat.lt_of_lt_of_le H1.out HB8.out.size)).mono ?_
        rintro e w9 ⟨⟨cs2, rfl, hc2⟩, hb9⟩
        have hq := eq_hash hash_u hash_c hash_k cs1 cs2 _ _ HC1.out hc2.out (sha_len _) (sha_len _)
        rw [beq_self_eq_true] at hq
        have HB9 : Fact (Below w.heap.size w w9) := ⟨HB8.out.trans (hb9.mono HB8.out.size)⟩
        have HB49 : Fact (Below w4.heap.size w4 w9) := ⟨HB48.out.trans (hb9.mono HB48.out.size)⟩
        have K1 := run_str (P := Tryd.prog) 22 5 9 Tryd.underlying22 Tryd.underlying5 Tryd.underlying9 (HIN.out.move (Same.of_below HB49.out (fun _ h => h)))
        have K2 := run_str (P := Tryd.prog) 22 5 9 Tryd.underlying22 Tryd.underlying5 Tryd.underlying9 (HA.out.move (Same.of_below HB9.out HF.out))
        obtain ⟨ad4, rfl, hfa4, hc7⟩ := HS4.out.byte (i := n) (b := 7) (by rw [HL7.out, List.getElem?_append_right (by rw [HLN.out]; exact Nat.le_refl _), HLN.out, Nat.sub_self]; rfl)
        have hc9 : w9.cell? (ad4.add n) = some (.int .u8 7) := (cell_same (HB49.out.block _ (by rw [block_add]; exact hfa4.2))).trans hc7
        obtain ⟨n1, hn1⟩ : ∃ n1, n + 1 = n1 := ⟨_, rfl⟩
        have hn1i : (n : Int) + 1 = (n1 : Int) := by omega
        have hnn1 : (n : Int) < (n1 : Int) := by omega
        have hn1m : (n1 : Int) ≤ 1001 := by have := S1.out; omega
        have hn1c : (n1 : Int) ≤ (c4 : Int) := by have := HS4.out.le; have := HN4.out; omega
        have hnn1' : n < n1 := by omega
        have hsl := slice_upto (some ad4) n c4 n1 (by have := HS4.out.le; have := HN4.out; omega)
        clear hb9 hc2 hc7 hfa4 hn1
        go_wp2_with fail
        go_ret
        exact ⟨rfl, HB9.out⟩
  · have hcase : (decide (1000 < n) = true) ∨ (decide (1000 < n) = false ∧ decide (50 < n2) = true) := by simp; omega
    rcases hcase with d1 | ⟨d1, d2⟩
    all_goals
      have d1' : decide ((1000 : Int) < n) = decide (1000 < n) := by apply decide_eq_decide.2; omega
      have d2' : decide ((50 : Int) < n2) = decide (50 < n2) := by apply decide_eq_decide.2; omega
      try rw [d1] at d1'
      try rw [d2] at d2'
      clear hs
      go_enter Tryd.func5, Tryd.ntmps5
      go_wp2_with (go_at_call 8; refine (Awake_calls _ HGW.out H1.out).mono ?_; rintro e w1 ⟨rfl, hb⟩; have HB1 := Fact.mk hb; clear hb)
      go_ret
      exact ⟨rfl, HB1.out⟩
end Go.Proofs.YtjjcjdefenbnjaaDoor.LawSCuts
