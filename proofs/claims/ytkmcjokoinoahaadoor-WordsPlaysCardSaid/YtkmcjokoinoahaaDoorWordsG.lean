/- ferrymanref11's HasNum, CutNum, Word, Words: contracts over any world. -/
import Derived.Test.YtkmcjokoinoahaaDoorWordsF
set_option linter.unusedVariables false
set_option linter.unusedSimpArgs false
namespace Go.Proofs.YtkmcjokoinoahaaDoor.WordsG
open Go.RowKit Go.Proofs.YtkmcjokoinoahaaDoor.Lib Go.Proofs.YtkmcjokoinoahaaDoor.LibB Go.Proofs.YtkmcjokoinoahaaDoor.PlainS Go.Proofs.YtkmcjokoinoahaaDoor.WordsA Go.Proofs.YtkmcjokoinoahaaDoor.WordsB Go.Proofs.YtkmcjokoinoahaaDoor.PlainW Go.Proofs.YtkmcjokoinoahaaDoor.WordsC Go.Proofs.YtkmcjokoinoahaaDoor.WordsD Go.Proofs.YtkmcjokoinoahaaDoor.WordsE Go.Proofs.YtkmcjokoinoahaaDoor.WordsF Go.Maps
theorem take_snoc {l : List Nat} {k x : Nat} (h : l[k]? = some x) : l.take (k + 1) = l.take k ++ [x] := by
  obtain ⟨hk, he⟩ := List.getElem?_eq_some_iff.1 h
  rw [List.take_succ_eq_append_getElem hk, he]
set_option maxHeartbeats 1000000 in
set_option maxRecDepth 100000 in
theorem HasNum_calls (w : World) (F : Nat → Prop) (A : Option Addr) (n c : Nat) (l : List Nat) (h : Sl rNat w F A n c l) (x : Nat) :
    Calls Tryd.prog 52 #[.slice A n c, .int .u64 (x : Int)] w fun e w' => e = .returned (.bool (decide (x ∈ l))) ∧ w' = w := by
  have hmx := Nat.le_trans h.le h.max_
  have HL := Fact.mk h.len
  have H := Fact.mk h
  clear h
  obtain ⟨B, hB⟩ : ∃ B, decide (x ∈ l) = B := ⟨_, rfl⟩
  have HB := Fact.mk hB
  rw [hB]
  clear hB
  go_enter Tryd.func52, Tryd.ntmps52
  go_wp2
  go_loopg [5] n (fun kq v5 wr => ∃ k : Nat, v5 = .int .i64 (k : Int) ∧ Fact (k + kq = n) ∧ Fact (x ∉ l.take k) ∧ Fact (wr = w))
  case atStart => exact ⟨0, rfl, ⟨by omega⟩, ⟨by simp⟩, ⟨rfl⟩⟩
  case round =>
    obtain ⟨k, rfl, HK, HN, HW⟩ := hrel
    have hkn := HK.out
    by_cases hlt : k < n
    · obtain ⟨y, hy⟩ : ∃ y, l[k]? = some y := ⟨_, List.getElem?_eq_getElem (by rw [HL.out]; exact hlt)⟩
      obtain ⟨ad, rfl, -, hc1⟩ := num_at H.out hy
      have c1 : wr.cell? (ad.add k) = some (.int .u64 (y : Int)) := by rw [HW.out]; exact hc1
      have HS := Fact.mk (take_snoc hy)
      have HM := Fact.mk (List.mem_of_getElem? hy)
      clear hy hc1
      by_cases hyx : y = x
      · subst hyx
        have hz : ((y : Int) == (y : Int)) = true := by simp
        obtain rfl : B = true := by rw [← HB.out]; exact decide_eq_true HM.out
        go_wp2
        go_ret
        exact ⟨rfl, HW.out⟩
      · have hz : ((y : Int) == (x : Int)) = false := by simp; omega
        have HN2 : Fact (x ∉ l.take (k + 1)) := ⟨by rw [HS.out, List.mem_append, List.mem_singleton]; rintro (h | h); exact HN.out h; exact hyx h.symm⟩
        go_wp2
        go_roundg (n - (k + 1))
        case measure => omega
        case rel => exact ⟨k + 1, by go_num, ⟨by omega⟩, HN2, HW⟩
    · obtain rfl : B = false := by rw [← HB.out]; exact decide_eq_false (fun h => HN.out (by rw [List.take_of_length_le (by rw [HL.out]; omega)]; exact h))
      go_wp2
      go_ret
      exact ⟨rfl, HW.out⟩
set_option maxHeartbeats 1000000 in
set_option maxRecDepth 100000 in
theorem CutNum_calls (w : World) (F : Nat → Prop) (A : Option Addr) (n c : Nat) (l : List Nat) (h : Sl rNat w F A n c l) (hF : ∀ k, F k → k < w.heap.size) (hn : n ≤ 100000) (x : Nat) :
    Calls Tryd.prog 55 #[.slice A n c, .int .u64 (x : Int)] w fun e w' => (∃ A' c', e = .returned (.slice A' (l.filter fun y => !decide (y = x)).length c') ∧ Fact (Sl rNat w' (fun k => w.heap.size ≤ k ∧ k < w'.heap.size) A' (l.filter fun y => !decide (y = x)).length c' (l.filter fun y => !decide (y = x)))) ∧ Below w.heap.size w w' := by
  have HL := Fact.mk h.len
  have H := Fact.mk h
  have HF := Fact.mk hF
  clear h hF
  go_enter Tryd.func55, Tryd.ntmps55
  go_wp2
  go_loopg [5, 6] n (fun kq v5 v6 wr => ∃ k : Nat, v6 = .int .i64 (k : Int) ∧ Fact (k + kq = n) ∧ Fact (Ow rNat 50 wr w.heap.size (fun _ => False) v5 ((l.take k).filter fun y => !decide (y = x))) ∧ Fact (Below w.heap.size w wr))
  case atStart => exact ⟨0, rfl, ⟨by omega⟩, ⟨Ow.nil _ _ _ _ _⟩, ⟨Below.refl _ _⟩⟩
  case round =>
    obtain ⟨k, rfl, HK, HO, HB⟩ := hrel
    have hkn := HK.out
    obtain ⟨A1, cA, hv, -⟩ := HO.out.sl
    obtain ⟨q, hq⟩ : ∃ q, ((l.take k).filter fun y => !decide (y = x)).length = q := ⟨_, rfl⟩
    have hq2 : q ≤ k := by
      have h1 := List.length_filter_le (fun y => !decide (y = x)) (l.take k)
      rw [List.length_take] at h1
      omega
    rw [hq] at hv
    subst hv
    have HQ := Fact.mk hq
    clear hq
    by_cases hlt : k < n
    · obtain ⟨y, hy⟩ : ∃ y, l[k]? = some y := ⟨_, List.getElem?_eq_getElem (by rw [HL.out]; exact hlt)⟩
      obtain ⟨ad, rfl, hadF, hc1⟩ := num_at H.out hy
      have c1 : wr.cell? (ad.add k) = some (.int .u64 (y : Int)) := (HB.out.cell (p := ad.add k) (by rw [Lib.block_add]; exact HF.out _ hadF)).trans hc1
      have HS := Fact.mk (take_snoc hy)
      clear hy hc1 hadF
      by_cases hyx : y = x
      · have hz : ((y : Int) != (x : Int)) = false := by simp [hyx]
        have HE : Fact ((l.take (k + 1)).filter (fun y => !decide (y = x)) = (l.take k).filter (fun y => !decide (y = x))) := ⟨by rw [HS.out, List.filter_append]; simp [hyx]⟩
        clear hyx
        go_wp2_with fail
        go_roundg (n - (k + 1))
        case measure => omega
        case rel => exact ⟨k + 1, by go_num, ⟨by omega⟩, ⟨by rw [HE.out]; exact HO.out⟩, HB⟩
      · have hz : ((y : Int) != (x : Int)) = true := by simp; omega
        have HE : Fact ((l.take (k + 1)).filter (fun y => !decide (y = x)) = (l.take k).filter (fun y => !decide (y = x)) ++ [y]) := ⟨by rw [HS.out, List.filter_append]; simp [hyx]⟩
        have HSB : Fact (Sl rNat (wr.alloc (.cells #[.int .u64 (y : Int)] 50)) (fun k => k = wr.heap.size) (some ⟨wr.heap.size, 0, none⟩) 1 1 [y]) := ⟨by
          have h1 := (Sl.box (F := fun _ => False) wr 50 (els_nat _ _ y) (by simp)).mono (F' := fun k => k = wr.heap.size) (fun k hk => by simpa using hk)
          simpa using h1⟩
        go_wp2_with (at_builtin
                     refine wpList_app rNat (w0 := w) w.heap.size rfl (.tmp 19) (.tmp 24) 61 50 (.int .u64 0) 8 rfl Tryd.underlying61 info_u64 rfl (by decide) (by decide) (fun _ => False) (fun k => k = wr.heap.size) (.slice A1 q cA) ((l.take k).filter fun y => !decide (y = x)) [y] _ 1 1 rfl rfl (HO.out.below ((Below.refl _ _).alloc (Nat.le_refl _) _) (fun _ h => h.elim)) HSB.out (HB.out.alloc HB.out.size _) (by have := HB.out.size; simp at this ⊢; omega) (by rw [HQ.out]; omega) (fun _ h => h.elim) (fun _ _ h => h) ?_
                     intro v3 w3 ho3 hb3 hg3 hat3
                     have HO3 := Fact.mk ho3
                     have HB3 := Fact.mk hb3
                     clear ho3 hb3 hg3 hat3)
        go_roundg (n - (k + 1))
        case measure => omega
        case rel => exact ⟨k + 1, by go_num, ⟨by omega⟩, ⟨by rw [HE.out]; exact HO3.out⟩, HB3⟩
    · have HT : Fact (l.take k = l) := ⟨List.take_of_length_le (by rw [HL.out]; omega)⟩
      have ho := HO.out
      rw [HT.out] at ho
      have hqq := HQ.out
      rw [HT.out] at hqq
      have HS := Fact.mk (ow_slF ho)
      have HQQ := Fact.mk hqq
      clear ho hqq
      go_wp2_with fail
      go_ret
      exact ⟨⟨A1, cA, by rw [HQQ.out]; rfl, ⟨by rw [HQQ.out]; exact HS.out⟩⟩, HB.out⟩
/-- A word's bits, by the list. -/
def wordN (K : Nat) (l : List Nat) : Nat := l.foldl (fun o n => if keyN n = K then o ||| 2 ^ ((n - 1) % 64) else o) 0
theorem wordN_snoc (K : Nat) (l : List Nat) (x : Nat) : wordN K (l ++ [x]) = if keyN x = K then wordN K l ||| 2 ^ ((x - 1) % 64) else wordN K l := by
  unfold wordN
  rw [List.foldl_append]
  rfl
theorem wordN_lt (K : Nat) (l : List Nat) : wordN K l < 18446744073709551616 := by
  unfold wordN
  suffices h : ∀ (l : List Nat) (a : Nat), a < 18446744073709551616 → l.foldl (fun o n => if keyN n = K then o ||| 2 ^ ((n - 1) % 64) else o) a < 18446744073709551616 from h l 0 (by decide)
  intro l
  induction l with
  | nil => intro a h; exact h
  | cons x r ih =>
    intro a h
    refine ih _ ?_
    show (if keyN x = K then a ||| 2 ^ ((x - 1) % 64) else a) < _
    split
    · exact Nat.or_lt_two_pow (n := 64) h (Nat.pow_lt_pow_right (by omega) (by omega))
    · exact h
theorem wordN_bit (K b : Nat) : ∀ (l : List Nat) (a : Nat), (l.foldl (fun o n => if keyN n = K then o ||| 2 ^ ((n - 1) % 64) else o) a).testBit b = true ↔ a.testBit b = true ∨ ∃ n ∈ l, keyN n = K ∧ (n - 1) % 64 = b
  | [], a => by simp
  | x :: r, a => by
    rw [List.foldl_cons, wordN_bit K b r]
    split
    · rename_i hk
      rw [Nat.testBit_or, Nat.testBit_two_pow]
      simp only [Bool.or_eq_true, decide_eq_true_eq, List.mem_cons, exists_eq_or_imp]
      constructor
      · rintro ((h | h) | h)
        · exact .inl h
        · exact .inr (.inl ⟨hk, h⟩)
        · exact .inr (.inr h)
      · rintro (h | h | h)
        · exact .inl (.inl h)
        · exact .inl (.inr h.2)
        · exact .inr h
    · rename_i hk
      simp only [List.mem_cons, exists_eq_or_imp]
      constructor
      · rintro (h | h)
        · exact .inl h
        · exact .inr (.inr h)
      · rintro (h | h | h)
        · exact .inl h
        · exact absurd h.1 hk
        · exact .inr h
theorem word_all {w : World} {pb mb N : Nat} {D : DataW Unit} (h : Ws w pb mb N D) (hi : WInv D) {K : Nat} (hK : K < 18446744073709551616) : wordN K (allL D) = wd D K := by
  apply Nat.eq_of_testBit_eq
  intro b
  rw [Bool.eq_iff_iff]
  unfold wordN
  rw [wordN_bit]
  constructor
  · rintro (h0 | ⟨n, hn, hk, hb⟩)
    · simp at h0
    · have h3 := ((mem_allL h hi n).1 hn).2.2
      unfold hasB at h3
      unfold keyN at hk
      rw [hk, hb] at h3
      exact h3
  · intro ht
    refine .inr ?_
    have hwl := (h.look hK).2.1
    have hb64 : b < 64 := by
      rcases Nat.lt_or_ge b 64 with h1 | h1
      · exact h1
      · rw [Nat.testBit_lt_two_pow (Nat.lt_of_lt_of_le hwl (by have : (2 : Nat) ^ 64 ≤ 2 ^ b := Nat.pow_le_pow_right (by omega) h1; simpa using this))] at ht
        cases ht
    have hne : wd D K ≠ 0 := by intro e; rw [e] at ht; simp at ht
    obtain ⟨hk1, hk2, hk3, hk4⟩ := Ws.keys h
    have hmem : K ∈ keysL D := by
      unfold keysL
      rw [List.mem_mergeSort]
      exact (hk3 _ hK).2 ((hi.nz _ hK).2 hne)
    exact ⟨64 * K + b + 1, mem_allK.2 ⟨K, hmem, b, hb64, ht, rfl⟩, by unfold keyN; omega, by omega⟩
set_option maxHeartbeats 1000000 in
set_option maxRecDepth 100000 in
theorem RWord_calls (w : World) (F : Nat → Prop) (A : Option Addr) (n c : Nat) (l : List Nat) (h : Sl rNat w F A n c l) (hl : ∀ x ∈ l, 1 ≤ x ∧ x < 18446744073709551616) (K : Nat) (hK : K < 18446744073709551616) :
    Calls Tryd.prog 57 #[.slice A n c, .int .u64 (K : Int)] w fun e w' => e = .returned (.int .u64 (wordN K l : Int)) ∧ w' = w := by
  have hmx := Nat.le_trans h.le h.max_
  have HL := Fact.mk h.len
  have H := Fact.mk h
  have HLL := Fact.mk hl
  clear h hl
  go_enter Tryd.func57, Tryd.ntmps57
  go_wp2
  go_loopg [5, 6] n (fun kq v5 v6 wr => ∃ (k o : Nat), v5 = .int .u64 (o : Int) ∧ v6 = .int .i64 (k : Int) ∧ Fact (k + kq = n) ∧ Fact (wordN K (l.take k) = o) ∧ Fact (wr = w))
  case atStart => exact ⟨0, 0, rfl, rfl, ⟨by omega⟩, ⟨rfl⟩, ⟨rfl⟩⟩
  case round =>
    obtain ⟨k, o, rfl, rfl, HK, HO, HW⟩ := hrel
    have hkn := HK.out
    have hol : o < 18446744073709551616 := by rw [← HO.out]; exact wordN_lt _ _
    by_cases hlt : k < n
    · obtain ⟨y, hy⟩ : ∃ y, l[k]? = some y := ⟨_, List.getElem?_eq_getElem (by rw [HL.out]; exact hlt)⟩
      obtain ⟨ad, rfl, -, hc1⟩ := num_at H.out hy
      have c1 : wr.cell? (ad.add k) = some (.int .u64 (y : Int)) := by rw [HW.out]; exact hc1
      have HS := Fact.mk (take_snoc hy)
      have hyl := HLL.out y (List.mem_of_getElem? hy)
      clear hy hc1
      obtain ⟨z, hz⟩ : ∃ z, y - 1 = z := ⟨_, rfl⟩
      obtain ⟨d, hd⟩ : ∃ d, z / 64 = d := ⟨_, rfl⟩
      obtain ⟨b, hb⟩ : ∃ b, z % 64 = b := ⟨_, rfl⟩
      have hbl : b < 64 := by omega
      have e1 : IntKind.u64.wrap ((y : Int) - 1) = (z : Int) := by rw [IntKind.wrap_u64]; omega
      have e2 : (z : Int) / 64 = (d : Int) := by omega
      have e3 : ((z : Int)).tdiv 64 = (d : Int) := by rw [Int.tdiv_eq_ediv_of_nonneg (by omega)]; omega
      have e4 : (z : Int) % 64 = (b : Int) := by omega
      have e5 : ((z : Int)).tmod 64 = (b : Int) := by rw [Int.tmod_eq_emod_of_nonneg (by omega)]; omega
      have e6 : (y : Int) - 1 = (z : Int) := by omega
      have hb0 : (0 : Int) ≤ b := by omega
      have hb1 : (b : Int) < 64 := by omega
      have hmin : min b 64 = b := by omega
      have e7 := bit_or o b hol hbl
      have hkey : keyN y = d := by unfold keyN; rw [hz, hd]
      have hbit : (y - 1) % 64 = b := by rw [hz, hb]
      by_cases hdK : d = K
      · have hz2 : ((d : Int) == (K : Int)) = true := by simp [hdK]
        obtain ⟨o2, ho2⟩ : ∃ o2, o ||| 2 ^ b = o2 := ⟨_, rfl⟩
        rw [ho2] at e7
        have HO2 : Fact (wordN K (l.take (k + 1)) = o2) := ⟨by rw [HS.out, wordN_snoc, hkey, if_pos hdK, HO.out, hbit, ho2]⟩
        clear hdK hkey hbit ho2 hz hd hb
        go_wp2
        go_roundg (n - (k + 1))
        case measure => omega
        case rel => exact ⟨k + 1, o2, rfl, by go_num, ⟨by omega⟩, HO2, HW⟩
      · have hz2 : ((d : Int) == (K : Int)) = false := by simp; omega
        have HO2 : Fact (wordN K (l.take (k + 1)) = o) := ⟨by rw [HS.out, wordN_snoc, hkey, if_neg hdK, HO.out]⟩
        clear hdK hkey hbit hz hd hb e7
        go_wp2
        go_roundg (n - (k + 1))
        case measure => omega
        case rel => exact ⟨k + 1, o, rfl, by go_num, ⟨by omega⟩, HO2, HW⟩
    · have HT : Fact (l.take k = l) := ⟨List.take_of_length_le (by rw [HL.out]; omega)⟩
      have HO2 := HO.out
      rw [HT.out] at HO2
      subst HO2
      go_wp2
      go_ret
      exact ⟨rfl, HW.out⟩
/-! How many words. -/
theorem cnt_snoc : ∀ (l : List Nat) (p : Option Nat) (x : Nat), cntW p (l ++ [x]) = cntW p l + (if (l.getLast?.map keyN).or p = some (keyN x) then 0 else 1)
  | [], p, x => by
    by_cases h : p = some (keyN x)
    · simp [cntW, h]
    · simp [cntW, h]
  | y :: r, p, x => by
    show (if p = some (keyN y) then 0 else 1) + cntW (some (keyN y)) (r ++ [x]) = (if p = some (keyN y) then 0 else 1) + cntW (some (keyN y)) r + _
    rw [cnt_snoc r (some (keyN y)) x]
    have e : (r.getLast?.map keyN).or (some (keyN y)) = ((y :: r).getLast?.map keyN).or p := by
      cases r with
      | nil => simp
      | cons z s => simp [List.getLast?_cons_cons, List.getLast?_eq_some_getLast]
    rw [e]
    omega
set_option maxHeartbeats 1000000 in
set_option maxRecDepth 100000 in
theorem RWords_calls (w : World) (F : Nat → Prop) (A : Option Addr) (n c : Nat) (l : List Nat) (h : Sl rNat w F A n c l) (hl : ∀ x ∈ l, 1 ≤ x ∧ x < 18446744073709551616) :
    Calls Tryd.prog 58 #[.slice A n c] w fun e w' => e = .returned (.int .i64 (cntW none l : Int)) ∧ ∃ q, w' = w.drewN q := by
  have hmx := Nat.le_trans h.le h.max_
  have HL := Fact.mk h.len
  have H := Fact.mk h
  have HLL := Fact.mk hl
  clear h hl
  go_enter Tryd.func58, Tryd.ntmps58
  go_wp2
  go_loopg [3, 4] n (fun kq v3 v4 wr => ∃ (k m : Nat), v3 = .int .i64 (m : Int) ∧ v4 = .int .i64 (k : Int) ∧ Fact (k + kq = n) ∧ Fact (m ≤ k) ∧ Fact (cntW none (l.take k) = m) ∧ Fact (∃ q, wr = w.drewN q))
  case atStart => exact ⟨0, 0, rfl, rfl, ⟨by omega⟩, ⟨Nat.le_refl _⟩, ⟨rfl⟩, ⟨0, rfl⟩⟩
  case round =>
    obtain ⟨k, m, rfl, rfl, HK, HM, HO, HQ⟩ := hrel
    have hkn := HK.out
    have hmk := HM.out
    by_cases hlt : k < n
    · obtain ⟨y, hy⟩ : ∃ y, l[k]? = some y := ⟨_, List.getElem?_eq_getElem (by rw [HL.out]; exact hlt)⟩
      obtain ⟨ad, rfl, -, hc1⟩ := num_at H.out hy
      obtain ⟨q, hq⟩ := HQ.out
      have HWQ := Fact.mk hq
      have c1 : wr.cell? (ad.add k) = some (.int .u64 (y : Int)) := by rw [hq]; exact hc1
      have HS := Fact.mk (take_snoc hy)
      have hyl := HLL.out y (List.mem_of_getElem? hy)
      clear hy hc1 hq
      rcases Nat.eq_zero_or_pos k with hk0 | hk0
      · have HO2 : Fact (cntW none (l.take (k + 1)) = m + 1) := ⟨by rw [HS.out, cnt_snoc, HO.out, hk0]; simp⟩
        subst hk0
        clear c1
        go_wp2_with fail
        go_quiet (fail)
        go_wp2
        go_roundg (n - 1)
        case measure => omega
        case rel => exact ⟨1, m + 1, by go_num, rfl, ⟨by omega⟩, ⟨by omega⟩, HO2, ⟨q + nq, by rw [HWQ.out, World.drewN_drewN]⟩⟩
      · obtain ⟨x, hx⟩ : ∃ x, l[k - 1]? = some x := ⟨_, List.getElem?_eq_getElem (by rw [HL.out]; omega)⟩
        obtain ⟨ad', e', -, hc2⟩ := num_at H.out hx
        obtain rfl := Option.some.inj e'
        have c2 : wr.cell? (ad.add (k - 1)) = some (.int .u64 (x : Int)) := by rw [HWQ.out]; exact hc2
        have hxl := HLL.out x (List.mem_of_getElem? hx)
        have hlast : (l.take k).getLast? = some x := by
          rw [show k = (k - 1) + 1 by omega, take_snoc hx]
          simp
        have HLA := Fact.mk hlast
        obtain ⟨z, hz⟩ : ∃ z, y - 1 = z := ⟨_, rfl⟩
        obtain ⟨d, hd⟩ : ∃ d, z / 64 = d := ⟨_, rfl⟩
        obtain ⟨z', hz'⟩ : ∃ z', x - 1 = z' := ⟨_, rfl⟩
        obtain ⟨d', hd'⟩ : ∃ d', z' / 64 = d' := ⟨_, rfl⟩
        have e1 : IntKind.u64.wrap ((y : Int) - 1) = (z : Int) := by rw [IntKind.wrap_u64]; omega
        have e2 : (z : Int) / 64 = (d : Int) := by omega
        have e3 : ((z : Int)).tdiv 64 = (d : Int) := by rw [Int.tdiv_eq_ediv_of_nonneg (by omega)]; omega
        have e6 : (y : Int) - 1 = (z : Int) := by omega
        have f1 : IntKind.u64.wrap ((x : Int) - 1) = (z' : Int) := by rw [IntKind.wrap_u64]; omega
        have f2 : (z' : Int) / 64 = (d' : Int) := by omega
        have f3 : ((z' : Int)).tdiv 64 = (d' : Int) := by rw [Int.tdiv_eq_ediv_of_nonneg (by omega)]; omega
        have f6 : (x : Int) - 1 = (z' : Int) := by omega
        have ek : (k : Int) - 1 = ((k - 1 : Nat) : Int) := by omega
        have kz : ((k : Int) == 0) = false := by simp; omega
        have hkey : keyN y = d := by unfold keyN; rw [hz, hd]
        have hkey' : keyN x = d' := by unfold keyN; rw [hz', hd']
        clear hx hc2 hlast hz hd hz' hd'
        by_cases hdd : d = d'
        · have hz2 : ((d : Int) != (d' : Int)) = false := by simp [hdd]
          have HO2 : Fact (cntW none (l.take (k + 1)) = m) := ⟨by rw [HS.out, cnt_snoc, HO.out, HLA.out]; simp [hkey, hkey', hdd]⟩
          clear hdd hkey hkey'
          go_wp2_with fail
          go_quiet (fail)
          go_wp2
          go_roundg (n - (k + 1))
          case measure => omega
          case rel => exact ⟨k + 1, m, rfl, by go_num, ⟨by omega⟩, ⟨by omega⟩, HO2, ⟨q + nq, by rw [HWQ.out, World.drewN_drewN]⟩⟩
        · have hz2 : ((d : Int) != (d' : Int)) = true := by simp; omega
          have HO2 : Fact (cntW none (l.take (k + 1)) = m + 1) := ⟨by
            rw [HS.out, cnt_snoc, HO.out, HLA.out]
            have : ¬ d' = d := fun e => hdd e.symm
            simp [hkey, hkey', this]⟩
          clear hdd hkey hkey'
          go_wp2_with fail
          go_quiet (fail)
          go_wp2
          go_roundg (n - (k + 1))
          case measure => omega
          case rel => exact ⟨k + 1, m + 1, by go_num, by go_num, ⟨by omega⟩, ⟨by omega⟩, HO2, ⟨q + nq, by rw [HWQ.out, World.drewN_drewN]⟩⟩
    · have HT : Fact (l.take k = l) := ⟨List.take_of_length_le (by rw [HL.out]; omega)⟩
      have HO2 := HO.out
      rw [HT.out] at HO2
      subst HO2
      go_wp2
      go_ret
      exact ⟨rfl, HQ.out⟩
end Go.Proofs.YtkmcjokoinoahaaDoor.WordsG
