/- ferrymanref01.Put; TlvPuts: for every input the law answers true; what was in memory before is as it was. -/
import Derived.Test.YtjjcjdefenbnjaaTlvH
set_option linter.unusedVariables false
set_option linter.unusedSimpArgs false
namespace Go.Proofs.Ytjjcjdefenbnjaa.TlvI
open Go.RowKit Go.Proofs.Ytjjcjdefenbnjaa.Lib Go.Proofs.Ytjjcjdefenbnjaa.Reg Go.Proofs.Ytjjcjdefenbnjaa.TlvA Go.Proofs.Ytjjcjdefenbnjaa.TlvB Go.Proofs.Ytjjcjdefenbnjaa.TlvF Go.Proofs.Ytjjcjdefenbnjaa.TlvG Go.Proofs.Ytjjcjdefenbnjaa.TlvH

def rputL (l : List UInt8) (t : UInt8) (v : List UInt8) : List UInt8 := if v = [] then l else l ++ [t, lo (v.length / 256), lo v.length] ++ v
theorem rputL_nil {l : List UInt8} {t : UInt8} : rputL l t [] = l := by simp [rputL]
theorem rputL_some {l v : List UInt8} {t : UInt8} (h0 : v ≠ []) : rputL l t v = l ++ [t, lo (v.length / 256), lo v.length] ++ v := by unfold rputL; rw [if_neg h0]
theorem putL_eq {l v : List UInt8} {t : UInt8} (h : v.length ≤ 65535) : putL l t v = rputL l t v := by
  unfold putL rputL
  rw [if_neg (by omega)]

set_option maxHeartbeats 1000000 in
set_option maxRecDepth 100000 in
theorem RPut_calls (w : World) (F : Nat → Prop) (A : Option Addr) (n c : Nat) (l : List UInt8) (ti : Int) (t : UInt8) (A2 : Option Addr) (n2 c2 : Nat) (l2 : List UInt8) (ht : ti = (t.toNat : Int)) (h1 : Sl rU8 w F A n c l) (h2 : Sl rU8 w F A2 n2 c2 l2) (hF : ∀ k, F k → k < w.heap.size)
    (hs : n + n2 + 3 ≤ 140737488355328) :
    Calls Try.prog 21 #[.slice A n c, .int .u8 ti, .slice A2 n2 c2] w fun e w' => ∃ A' c', e = .returned (.slice A' (rputL l t l2).length c') ∧ Fact (Sl rU8 w' (fun k => k < w'.heap.size) A' (rputL l t l2).length c' (rputL l t l2)) ∧ Below w.heap.size w w' := by
  have hl1 : l.length = n := h1.len
  have hl2 : l2.length = n2 := h2.len
  have hm2 : n2 ≤ 9223372036854775807 := by omega
  have H1 := Fact.mk h1
  have H2 := Fact.mk h2
  have HT := Fact.mk ht
  have HF := Fact.mk hF
  have HL1 := Fact.mk hl1
  have HL2 := Fact.mk hl2
  clear h1 h2 ht hF
  by_cases hz : l2 = []
  · subst hz
    obtain rfl : n2 = 0 := hl2.symm
    clear hl1 hl2
    go_enter Try.func21, Try.ntmps21
    go_wp2_with fail
    go_ret
    rw [rputL_nil]
    exact ⟨A, c, by rw [HL1.out]; rfl, ⟨by rw [HL1.out]; exact H1.out.mono HF.out⟩, Below.refl _ _⟩
  · have hp : 0 < n2 := by rw [← hl2]; exact List.length_pos_iff.2 hz
    have hb2 : ((n2 : Int) == 0) = false := by simp; omega
    have HZ := Fact.mk hz
    clear hl1 hl2 hz
    go_enter Try.func21, Try.ntmps21
    go_wp2_with (first
      | (at_builtin
         refine wpList_app rU8 (w0 := w) w.heap.size rfl (.tmp 11) (.tmp 12) 22 5 (.int .u8 0) 1 rfl Try.underlying22 info_u8 rfl (by decide) (by decide) (fun _ => False) F (.slice (some ⟨w.heap.size, 0, none⟩) 0 0) [] l A n c rfl rfl
           (Ow.litB (xs := []) w w.heap.size _ (Nat.le_refl _) rfl rfl (by omega)) (H1.out.move ((Same.refl _ _).alloc HF.out _)) ((Below.refl _ _).alloc (Nat.le_refl _) _) (by simp) (by simp; omega) (fun _ h => h.elim) (fun _ _ h => h) ?_
         intro v1 w1 ho1 hb hg1 hat1
         have HO1 := Fact.mk ho1
         have HB := Fact.mk hb
         clear ho1 hb hg1 hat1)
      | (at_builtin
         refine wpList_app rU8 (w0 := w) w.heap.size rfl (.tmp 13) (.tmp 23) 22 5 (.int .u8 0) 1 rfl Try.underlying22 info_u8 rfl (by decide) (by decide) (fun _ => False) (fun k => k = w1.heap.size) v1 ([] ++ l) [t, lo (l2.length / 256), lo l2.length] _ 3 3 rfl rfl
           (HO1.out.below ((Below.refl _ _).alloc (Nat.le_refl _) _) (fun _ h => h.elim)) (Sl.boxB w1 _ (by simp [vu8, lo_int, HT.out, HL2.out]) rfl (by omega)) (HB.out.alloc HB.out.size _) (by have := HB.out.size; simp; omega) (by have := HL1.out; simp only [List.nil_append]; omega) (fun _ h => h.elim) (fun _ _ h => h) ?_
         intro v2 w2 ho2 hb2_ hg2 hat2
         have HO2 := Fact.mk ho2
         have HB2 := Fact.mk hb2_
         clear ho2 hb2_ hg2 hat2)
      | (at_builtin
         refine wpList_app rU8 (w0 := w) w.heap.size rfl (.tmp 24) (.tmp 25) 22 5 (.int .u8 0) 1 rfl Try.underlying22 info_u8 rfl (by decide) (by decide) (fun _ => False) F v2 ([] ++ l ++ [t, lo (l2.length / 256), lo l2.length]) l2 _ n2 c2 rfl rfl
           HO2.out (H2.out.move (Same.of_below HB2.out HF.out)) HB2.out HB2.out.size (by have := HL1.out; simp only [List.nil_append, List.length_append, List.length_cons, List.length_nil]; omega) (fun _ h => h.elim) (fun _ _ h => h) ?_
         intro v3 w3 ho3 hb3_ hg3 hat3
         have HO3 := Fact.mk ho3
         have HB3 := Fact.mk hb3_
         clear ho3 hb3_ hg3 hat3))
    go_ret
    rw [rputL_some HZ.out]
    obtain ⟨A3, c3, hv, hs3⟩ := HO3.out.sl
    exact ⟨A3, c3, by rw [← List.nil_append l, ← hv]; rfl, ⟨hs3.mono (fun k hk => hk.elim False.elim (fun h => (HO3.out.lt k h).2))⟩, HB3.out⟩

def putE (n : Nat) : Int := if n > 65535 then 3 else 0
theorem Put_calls' (w : World) (F : Nat → Prop) (A : Option Addr) (n c : Nat) (l : List UInt8) (ti : Int) (t : UInt8) (A2 : Option Addr) (n2 c2 : Nat) (l2 : List UInt8) (ht : ti = (t.toNat : Int)) (h1 : Sl rU8 w F A n c l) (h2 : Sl rU8 w F A2 n2 c2 l2) (hF : ∀ k, F k → k < w.heap.size)
    (hs : n + n2 + 3 ≤ 140737488355328) :
    Calls Try.prog 20 #[.slice A n c, .int .u8 ti, .slice A2 n2 c2] w fun e w' => ∃ A' c', e = .returned (.tuple #[.slice A' (putL l t l2).length c', .int .i64 (putE n2)]) ∧ Fact (Ow rU8 5 w' w.heap.size (fun _ => False) (.slice A' (putL l t l2).length c') (putL l t l2)) ∧ Below w.heap.size w w' := by
  obtain rfl := h1.len
  obtain rfl := h2.len
  refine (Put_calls w F A c l ti t A2 c2 l2 ht h1 h2 hF hs).mono ?_
  rintro e w' ⟨v, rfl, ho, hb⟩
  obtain ⟨A', c', hv, _⟩ := ho.out.sl
  subst hv
  exact ⟨A', c', rfl, ho, hb⟩
theorem _root_.Go.Proofs.Ytjjcjdefenbnjaa.Lib.Ow.slF {α : Type} {r : Rep α} {e : TypeId} {w : World} {base : Nat} {A : Option Addr} {n c : Nat} {xs : List α} (h : Ow r e w base (fun _ => False) (.slice A n c) xs) : Sl r w (fun k => base ≤ k ∧ k < w.heap.size) A n c xs := by
  obtain ⟨A', c', he, hs⟩ := h.sl
  injection he with h1 h2 h3
  subst h1 h2 h3
  exact hs.mono (fun k hk => hk.elim False.elim (fun hv => h.lt k hv))

set_option maxHeartbeats 2000000 in
set_option maxRecDepth 100000 in
theorem TlvPuts_calls (w : World) (F : Nat → Prop) (A : Option Addr) (n c : Nat) (l : List UInt8) (ti : Int) (t : UInt8) (A2 : Option Addr) (n2 c2 : Nat) (l2 : List UInt8) (many : Int) (hm0 : 0 ≤ many) (hm1 : many ≤ 65535) (ht : ti = (t.toNat : Int)) (h1 : Sl rU8 w F A n c l) (h2 : Sl rU8 w F A2 n2 c2 l2) (hF : ∀ k, F k → k < w.heap.size) :
    Calls Try.prog 3 #[.slice A n c, .int .u8 ti, .slice A2 n2 c2, .int .u16 many] w fun e w' => e = .returned (.bool true) ∧ Below w.heap.size w w' := by
  have hl1 : l.length = n := h1.len
  have hl2 : l2.length = n2 := h2.len
  have hmx : n ≤ 9223372036854775807 := Nat.le_trans h1.le h1.max_
  have hmx2 : n2 ≤ 9223372036854775807 := Nat.le_trans h2.le h2.max_
  have H1 := Fact.mk h1
  have H2 := Fact.mk h2
  have HT := Fact.mk ht
  have HF := Fact.mk hF
  have HL1 := Fact.mk hl1
  have HL2 := Fact.mk hl2
  clear h1 h2 ht hF hl1 hl2
  by_cases hbig : 1000 < n ∨ 1000 < n2
  · by_cases hb1 : 1000 < n
    · have k1 : decide (1000 < (n : Int)) = true := by simp; omega
      have k1' : decide (1000 < n) = true := by simp; omega
      go_enter Try.func3, Try.ntmps3
      go_wp2_with (go_at_call 19; refine (Awake_calls _).mono ?_; rintro e w1 ⟨rfl, hb⟩; have HB := Fact.mk hb; clear hb)
      go_ret
      exact ⟨rfl, HB.out⟩
    · have k1 : decide (1000 < (n : Int)) = false := by simp; omega
      have k1' : decide (1000 < n) = false := by simp; omega
      have k2 : decide (1000 < (n2 : Int)) = true := by simp; omega
      have k2' : decide (1000 < n2) = true := by simp; omega
      go_enter Try.func3, Try.ntmps3
      go_wp2_with (go_at_call 19; refine (Awake_calls _).mono ?_; rintro e w1 ⟨rfl, hb⟩; have HB := Fact.mk hb; clear hb)
      go_ret
      exact ⟨rfl, HB.out⟩
  · have hn : n ≤ 1000 := by omega
    have hn2 : n2 ≤ 1000 := by omega
    have k1 : decide (1000 < (n : Int)) = false := by simp; omega
    have k1' : decide (1000 < n) = false := by simp; omega
    have k2 : decide (1000 < (n2 : Int)) = false := by simp; omega
    have k2' : decide (1000 < n2) = false := by simp; omega
    obtain ⟨m, hm⟩ : ∃ m : Nat, 65530 + many % 9 = (m : Int) := ⟨(65530 + many % 9).toNat, by omega⟩
    have hmb : 65530 ≤ m ∧ m ≤ 65538 := by omega
    obtain ⟨hma, hmc⟩ := hmb
    have hmk := fun W : World => run_make_bytes (P := Try.prog) 22 5 Try.underlying22 info_u8 .i64 m (by omega) W
    clear hbig
    go_enter Try.func3, Try.ntmps3
    go_wp2_with (first
      | (go_at_call 19; refine (Awake_calls _).mono ?_; rintro e w1 ⟨rfl, hb⟩; have HB1 := Fact.mk hb; clear hb)
      | (at_builtin
         refine wpList_app rU8 (w0 := w) w.heap.size rfl (.tmp 25) (.tmp 26) 22 5 (.int .u8 0) 1 rfl Try.underlying22 info_u8 rfl (by decide) (by decide) (fun _ => False) F (.slice (some ⟨w1.heap.size, 0, none⟩) 0 0) [] l A n c rfl rfl
           (Ow.litB (xs := []) w1 w.heap.size _ HB1.out.size rfl rfl (by omega)) (H1.out.move (Same.of_below (HB1.out.alloc HB1.out.size _) HF.out)) (HB1.out.alloc HB1.out.size _) (by have := HB1.out.size; simp; omega) (by simp; omega) (fun _ h => h.elim) (fun _ _ h => h) ?_
         intro v2 w2 ho2 hb hg1 hat1
         have HO2 := Fact.mk ho2
         have HB2 := Fact.mk hb
         clear ho2 hb hg1 hat1)
      | (at_builtin
         refine wpList_app rU8 (w0 := w) w.heap.size rfl (.tmp 27) (.tmp 28) 22 5 (.int .u8 0) 1 rfl Try.underlying22 info_u8 rfl (by decide) (by decide) (fun _ => False) (fun k => k = w2.heap.size) v2 ([] ++ l) [7, 7] _ 2 2 rfl rfl
           (HO2.out.below ((Below.refl _ _).alloc (Nat.le_refl _) _) (fun _ h => h.elim)) (Sl.boxB w2 _ rfl rfl (by omega)) (HB2.out.alloc HB2.out.size _) (by have := HB2.out.size; simp; omega) (by have := HL1.out; simp only [List.nil_append]; omega) (fun _ h => h.elim) (fun _ _ h => h) ?_
         intro v3 w3 ho3 hb hg1 hat1
         have HO3 := Fact.mk ho3
         have HB3 := Fact.mk hb
         obtain ⟨A3, c3, hv, hs⟩ := HO3.out.sl
         have hl7 : ([] ++ l ++ [7, 7] : List UInt8).length = n + 2 := by have := HL1.out; simp; omega
         rw [hl7] at hv hs
         subst hv
         have hle3 := hs.le
         have hmx3 := hs.max_
         obtain ⟨i, hi, hsz⟩ := u8_i
         obtain ⟨hr1, hr2⟩ := slice_to (P := Try.prog) rU8 22 5 Try.underlying22 hi A3 (n + 2) c3 .i64 (n : Int) (by omega) (by omega) hle3
         simp only [Int.toNat_natCast] at hr1 hr2
         have hsi := hr2 hs
         have htk : ([] ++ l ++ [7, 7] : List UInt8).take n = l := by rw [List.nil_append, List.take_append_of_le_length (by have := HL1.out; omega), List.take_of_length_le (by have := HL1.out; omega)]
         rw [htk] at hsi
         have HSI : Fact (Sl rU8 w3 (fun k => k < w3.heap.size) A3 n c3 l) := ⟨hsi.mono (fun k hk => hk.elim False.elim (fun h => (HO3.out.lt k h).2))⟩
         have HSW : Fact (Sl rU8 w3 (fun k => k < w3.heap.size) A3 (n + 2) c3 ([] ++ l ++ [7, 7])) := ⟨hs.mono (fun k hk => hk.elim False.elim (fun h => (HO3.out.lt k h).2))⟩
         clear ho3 hb hg1 hat1 hs hsi htk hr2 hl7 hi hsz)
      | (go_at_call 20; fail))
    refine (Put_calls' _ (fun k => k < w3.heap.size) _ n c3 l ti t A2 n2 c2 l2 HT.out HSI.out (H2.out.move (Same.of_below HB3.out HF.out) |>.mono (fun k hk => by have := HF.out k hk; have := HB3.out.size; omega)) (fun _ h => h) (by omega)).mono ?_
    rintro e w4 ⟨A4, c4, rfl, HO4, hb⟩
    have HB4 := Fact.mk hb
    clear hb
    have hp1 : putE n2 = 0 := by unfold putE; rw [if_neg (by omega)]
    rw [hp1]
    clear hp1
    have HS4 : Fact (Sl rU8 w4 (fun k => k < w4.heap.size) A4 (putL l t l2).length c4 (putL l t l2)) := ⟨HO4.out.slF.mono (fun _ hk => hk.2)⟩
    generalize hq : (putL l t l2).length = q4 at HS4 ⊢
    have HQ := Fact.mk hq
    clear hq HO4
    go_wp2_with fail
    refine (Put_calls' _ (fun k => k < w4.heap.size + 1) _ n c3 l ti t (some ⟨w4.heap.size, 0, none⟩) m m (List.replicate m 0) HT.out
      ((HSI.out.move ((Same.of_below (HB4.out.alloc HB4.out.size _) (fun _ h => h)))).mono (fun k hk => by have := HB4.out.size; omega)) ((Sl.boxM w4 _ (made_bytes m) (by simp) (by omega)).mono (fun k hk => by omega)) (fun k hk => by simpa using hk) (by omega)).mono ?_
    rintro e w5 ⟨A5, c5, rfl, HO5, hb⟩
    have HB5 : Fact (Below w4.heap.size w4 w5) := ⟨((Below.refl _ _).alloc (Nat.le_refl _) _).trans (hb.mono (by simp))⟩
    clear hb HO5
    generalize (putL l t (List.replicate m 0)).length = q5
    obtain ⟨ad3, rfl, hf7, hc7⟩ := HSW.out.byte (i := n) (b := 7) (by have := HL1.out; simp; rw [List.getElem?_append_right (by omega)]; simp [this])
    have hc7 : w3.cell? (ad3.add n) = some (.int .u8 7) := hc7
    have HC7 := Fact.mk hc7
    clear hc7
    have hr3 : ∀ (L : Nat) (W : World), (Instr.slice 22 (.slice (some ad3) L c3) none (some (.int .i64 ((n : Int) + 1))) none).run Try.prog W = .ok (.slice (some ad3) (n + 1) c3) W := fun L W => by
      obtain ⟨i, hi, hsz⟩ := u8_i
      have hel : Try.prog.elem 22 = 5 := by simp [Program.elem, Try.underlying22]
      rw [run_slice_h W 22 (some ad3) L c3 (by rw [hel]; exact Try.underlying22) .i64 ((n : Int) + 1) (by omega) (by omega), hel]
      simp [sizeOf, typeInfo, hi, sliced, Result.andThen, add_zero']
    have HK1 : Fact (∀ w', Below w5.heap.size w5 w' → (convert 22 9 (.slice A4 q4 c4)).run Try.prog w' = .ok (.string ⟨(putL l t l2).toArray⟩) w') := ⟨fun w' hS => run_str _ _ _ Try.underlying22 Try.underlying5 Try.underlying9 (HS4.out.move (Same.of_below (HB5.out.trans (hS.mono HB5.out.size)) (fun _ h => h)))⟩
    have HK2 : Fact (∀ w', Below w5.heap.size w5 w' → w'.cell? (ad3.add n) = some (.int .u8 7)) := ⟨fun w' hS => by
        have hb : Below w3.heap.size w3 w' := HB4.out.trans ((HB5.out.trans (hS.mono HB5.out.size)).mono HB4.out.size)
        exact (cell_same (hb.block _ (by rw [block_add]; exact hf7))).trans HC7.out⟩
    have HPE : Fact (putL l t l2 = rputL l t l2) := ⟨putL_eq (by have := HL2.out; omega)⟩
    have hn1 : (0 : Int) ≤ n := by omega
    have hn2 : (n : Int) < (n : Int) + 1 := by omega
    have hn3 : n < n + 1 := by omega
    have hw1 : IntKind.i64.wrap ((n : Int) + 1) = (n : Int) + 1 := by rw [IntKind.wrap_i64]; omega
    obtain ⟨er, her, hb1, hb2, hb3, hb4⟩ : ∃ er, er = putE m ∧ (er == 3) = decide (65535 < m) ∧ (er == 0) = decide (m ≤ 65535) ∧ decide (65535 < (m : Int)) = decide (65535 < m) ∧ decide ((m : Int) ≤ 65535) = decide (m ≤ 65535) := by
      refine ⟨_, rfl, ?_, ?_, ?_, ?_⟩
      · unfold putE; split <;> simp <;> omega
      · unfold putE; split <;> simp <;> omega
      · rw [decide_eq_decide]; omega
      · rw [decide_eq_decide]; omega
    rw [← her]
    clear her
    go_wp2_with fail
    refine wp_region_S (fun w' => Below w5.heap.size w5 w') ([(0, true), (1, true), (2, true), (3, true), (4, true), (5, true), (6, true), (7, true), (8, false), (9, false)] ++ ((List.range 31).map fun i => (i + 10, true))) (by kernel_rfl) (by kernel_rfl) (by kernel_rfl) rfl rfl (by intro c a d v w h; cases d <;> exact h) (Below.refl _ _).drew ?_
    simp only [pick, List.range, List.range.loop, List.map_cons, List.map_nil, List.cons_append, List.nil_append, Nat.reduceAdd, List.filterMap_cons, List.filterMap_nil, Option.map_some, List.getElem?_toArray, List.getElem?_cons_zero, List.getElem?_cons_succ]
    have hS5 : Below w5.heap.size w5 w5.drew := (Below.refl _ _).drew
    generalize w5.drew = wd at hS5 ⊢
    have HS5 := Fact.mk hS5
    clear hS5
    iterate 8
        (first | apply seq_tell rfl | apply seq_tellG rfl
         · intro w' hS
           have K1 := HK1.out w' hS
           have K2 := HK2.out w' hS
           go_simp
           first | done | rfl
         simp only [Act.put, List.setIfInBounds_toArray, List.set_cons_succ, List.set_cons_zero])
    refine seq_callG (f := 21) (args := #[.slice A n c, .int .u8 ti, .slice A2 n2 c2]) rfl rfl Try.func21 (by kernel_rfl) rfl (by simp only [List.map_toArray, List.map_cons, List.map_nil]; rfl) ?_
    have hbd : Below w.heap.size w wd := HB3.out.trans ((HB4.out.trans ((HB5.out.trans (HS5.out.mono HB5.out.size)).mono HB4.out.size)).mono HB3.out.size)
    refine (RPut_calls wd F A n c l ti t A2 n2 c2 l2 HT.out (H1.out.move (Same.of_below hbd HF.out)) (H2.out.move (Same.of_below hbd HF.out)) (fun k hk => by have := HF.out k hk; have := hbd.size; omega) (by omega)).mono ?_
    rintro e w6 ⟨A6, c6, rfl, hs6, hb6⟩
    have HS6 : Fact (Below w5.heap.size w5 w6) := ⟨HS5.out.trans (hb6.mono HS5.out.size)⟩
    have HBE : Fact (Below w.heap.size w w6) := ⟨hbd.trans (hb6.mono hbd.size)⟩
    have hstr6 := run_str (P := Try.prog) 22 5 9 Try.underlying22 Try.underlying5 Try.underlying9 hs6.out
    rw [← HPE.out] at hstr6 ⊢
    clear hb6 hbd hs6
    refine ⟨_, rfl, HS6.out, ?_⟩
    simp only [Act.put, List.setIfInBounds_toArray, List.set_cons_succ, List.set_cons_zero]
    apply seq_doG rfl
    · go_simp
      exact ⟨rfl, rfl⟩
    · exact HS6.out
    simp only [Act.put, List.setIfInBounds_toArray, List.set_cons_succ, List.set_cons_zero]
    clear hstr6
    iterate 31
        (first | apply seq_tell rfl | apply seq_tellG rfl
         · intro w' hS
           have K1 := HK1.out w' hS
           have K2 := HK2.out w' hS
           go_simp
           first | done | rfl
         simp only [Act.put, List.setIfInBounds_toArray, List.set_cons_succ, List.set_cons_zero])
    show Exit.then _ _ _ _ _
    go_wp2_with fail
    go_ret
    exact ⟨rfl, HBE.out⟩
end Go.Proofs.Ytjjcjdefenbnjaa.TlvI
