/- WordsPlays: for every input the law answers true; what was in memory before is as it was. -/
import Derived.Test.YtkmcjokoinoahaaDoorWordsH
set_option linter.unusedVariables false
set_option linter.unusedSimpArgs false
namespace Go.Proofs.YtkmcjokoinoahaaDoor.LawWPlays
open Go.RowKit Go.Proofs.YtkmcjokoinoahaaDoor.Lib Go.Proofs.YtkmcjokoinoahaaDoor.LibB Go.Proofs.YtkmcjokoinoahaaDoor.PlainS Go.Proofs.YtkmcjokoinoahaaDoor.WordsA Go.Proofs.YtkmcjokoinoahaaDoor.WordsB Go.Proofs.YtkmcjokoinoahaaDoor.PlainW Go.Proofs.YtkmcjokoinoahaaDoor.WordsC Go.Proofs.YtkmcjokoinoahaaDoor.WordsD Go.Proofs.YtkmcjokoinoahaaDoor.WordsE Go.Proofs.YtkmcjokoinoahaaDoor.WordsF Go.Proofs.YtkmcjokoinoahaaDoor.WordsG Go.Proofs.YtkmcjokoinoahaaDoor.WordsH Go.Maps
theorem put_list {l : List Nat} {x i : Nat} (hs : l.Pairwise (· < ·)) (hx : x ∉ l) (h1 : ∀ y ∈ l.take i, y < x) (h2 : ∀ y, l[i]? = some y → ¬ y < x) : (l.take i ++ [x] ++ l.drop i).Pairwise (· < ·) ∧ ∀ m, m ∈ l.take i ++ [x] ++ l.drop i ↔ m = x ∨ m ∈ l := by
  have hsplit : l.take i ++ l.drop i = l := List.take_append_drop i l
  have hs' := hs
  rw [← hsplit, List.pairwise_append] at hs'
  obtain ⟨p1, p2, p3⟩ := hs'
  have hdrop : ∀ y ∈ l.drop i, x < y := by
    intro y hy
    have hge : ¬ y < x := by
      obtain ⟨j, hj, e⟩ := List.getElem_of_mem hy
      rw [List.getElem_drop] at e
      rw [List.length_drop] at hj
      rcases Nat.eq_zero_or_pos j with hj0 | hj0
      · subst hj0
        exact h2 y (by rw [List.getElem?_eq_getElem (by omega)]; simpa using e)
      · have hf := h2 (l[i]'(by omega)) (List.getElem?_eq_getElem _)
        have := List.pairwise_iff_getElem.1 hs i (i + j) (by omega) (by omega) (by omega)
        omega
    have hne : y ≠ x := fun e => hx (by rw [← e]; exact List.mem_of_mem_drop hy)
    omega
  refine ⟨?_, fun m => ?_⟩
  · rw [List.pairwise_append]
    refine ⟨?_, p2, ?_⟩
    · rw [List.pairwise_append]
      exact ⟨p1, List.pairwise_singleton _ _, fun a ha b hb => by rw [List.mem_singleton] at hb; subst hb; exact h1 a ha⟩
    · intro a ha b hb
      rw [List.mem_append, List.mem_singleton] at ha
      rcases ha with ha | rfl
      · exact p3 a ha b hb
      · exact hdrop b hb
  · have hm : m ∈ l ↔ m ∈ l.take i ∨ m ∈ l.drop i := by rw [← List.mem_append, hsplit]
    rw [List.mem_append, List.mem_append, List.mem_singleton, hm]
    constructor
    · rintro ((h | h) | h)
      · exact .inr (.inl h)
      · exact .inl h
      · exact .inr (.inr h)
    · rintro (h | h | h)
      · exact .inl (.inr h)
      · exact .inl (.inl h)
      · exact .inr h
theorem mem_dec {w : World} {pb mb N : Nat} {D : DataW Unit} (h : Ws w pb mb N D) (hi : WInv D) {x : Nat} (hx : x < 18446744073709551616) : decide (x ∈ allL D) = memB D x := by
  unfold memB
  rw [Bool.eq_iff_iff]
  simp only [decide_eq_true_eq, Bool.and_eq_true, mem_allL h hi]
  constructor
  · rintro ⟨h1, h2, h3⟩; exact ⟨h1, h3⟩
  · rintro ⟨h1, h3⟩; exact ⟨h1, hx, h3⟩
theorem put_all {w w' : World} {pb mb N N' : Nat} {D : DataW Unit} {x i : Nat} (h : Ws w pb mb N D) (hi : WInv D) (hx : x < 18446744073709551616) (hnew : newB D x = true) (h' : Ws w' pb mb N' (putD D x)) (h1 : ∀ y ∈ (allL D).take i, y < x) (h2 : ∀ y, (allL D)[i]? = some y → ¬ y < x) : (allL D).take i ++ [x] ++ (allL D).drop i = allL (putD D x) := by
  have hn : 1 ≤ x ∧ hasB D x = false := by unfold newB at hnew; simpa using hnew
  have hmem : x ∉ allL D := fun hm => by have := ((mem_allL h hi x).1 hm).2.2; rw [hn.2] at this; cases this
  obtain ⟨hs, hm⟩ := put_list (allL_sorted h) hmem h1 h2
  refine sorted_ext hs (allL_sorted h') fun m => ?_
  rw [hm, mem_allL h hi, mem_allL h' (inv_put h hi hx)]
  constructor
  · rintro (rfl | ⟨a, b, c⟩)
    · exact ⟨hn.1, hx, by rw [mem_put hi hn.1]; simp⟩
    · exact ⟨a, b, by rw [mem_put hi a, c]; simp⟩
  · rintro ⟨a, b, c⟩
    rw [mem_put hi a] at c
    simp only [Bool.or_eq_true, decide_eq_true_eq] at c
    rcases c with c | c
    · exact .inl c
    · exact .inr ⟨a, b, c⟩
theorem cut_all {w w' : World} {pb mb N N' : Nat} {D : DataW Unit} {x : Nat} (h : Ws w pb mb N D) (hi : WInv D) (hx : x < 18446744073709551616) (h' : Ws w' pb mb N' (delD D x)) : ((allL D).filter fun y => !decide (y = x)) = allL (delD D x) := by
  refine sorted_ext (List.Pairwise.filter _ (allL_sorted h)) (allL_sorted h') fun m => ?_
  rw [List.mem_filter, mem_allL h hi, mem_allL h' (inv_del h hi hx)]
  constructor
  · rintro ⟨⟨a, b, c⟩, d⟩
    exact ⟨a, b, by rw [mem_del h hi hx a, c]; simpa using d⟩
  · rintro ⟨a, b, c⟩
    rw [mem_del h hi hx a] at c
    simp at c
    exact ⟨⟨a, b, c.2⟩, by simpa using c.1⟩
theorem len_all {w : World} {pb mb N : Nat} {D : DataW Unit} (h : Ws w pb mb N D) : (allL D).length ≤ 64 * N := by
  have h1 := allK_len D (keysL D)
  have h2 := (Ws.keys h).2.2.2
  have h3 := keysL_len D
  have h4 := h.own.size_le
  unfold allL
  omega
set_option maxHeartbeats 3000000 in
set_option maxRecDepth 100000 in
theorem WordsPlays_calls (w : World) (F : Nat → Prop) (A : Option Addr) (n c : Nat) (l : List (UInt8 × UInt64 × Bool)) (h : Sl rAc w F A n c l) (hF : ∀ k, F k → k < w.heap.size) (hg : LaidB w) (hg2 : 2 < w.heap.size) :
    Calls Tryd.prog 16 #[.slice A n c] w fun ev w' => ev = .returned (.bool true) ∧ Below w.heap.size w w' := by
  have hnm := Nat.le_trans h.le h.max_
  have hln := h.len
  have H := Fact.mk h
  have HF := Fact.mk hF
  have HG := Fact.mk hg
  have HG2 := Fact.mk hg2
  have HLN := Fact.mk hln
  clear h hF hg hln
  go_enter Tryd.func16, Tryd.ntmps16
  go_wp2_with (first
    | (go_at_call 44; refine (Awake_calls _).mono ?_; rintro e w1 ⟨rfl, hb⟩; have HB1 := Fact.mk hb; clear hb)
    | (go_at_call 45; fail))
  refine (New_calls w1).mono ?_
  rintro e w2 ⟨pb, mb, rfl, HP, HM, HW2, hb2⟩
  have HB2 : Fact (Below w.heap.size w w2) := ⟨HB1.out.trans (hb2.mono HB1.out.size)⟩
  have HPM : Fact (w.heap.size ≤ pb ∧ w.heap.size ≤ mb) := ⟨by have := HP.out; have := HM.out; have := HB1.out.size; omega⟩
  clear hb2 HP HM
  have hnil : ∀ m, hasB (.map []) m = false := fun m => by unfold hasB; rw [show wd (.map []) ((m - 1) / 64) = 0 from rfl]; simp
  have HN0 : Fact (allL (.map []) = []) := ⟨by unfold allL keysL; simp [KeysU.natKeys, allK]⟩
  go_wp2_with fail
  go_loopg [4, 15] n (fun kq v4 v15 wr => ∃ (k N : Nat) (D : DataW Unit) (Al : Option Addr) (q cl : Nat), v4 = .slice Al q cl ∧ v15 = .int .i64 (k : Int) ∧ Fact (k + kq = n) ∧ Fact (N ≤ 2 * k ∧ N ≤ 302) ∧ Fact (Ws wr pb mb N D) ∧ Fact (WInv D) ∧ Fact ((allL D).length = q) ∧ Fact (Sl rNat wr (fun b => mb < b ∧ b < wr.heap.size) Al q cl (allL D)) ∧ Fact (Below w.heap.size w wr))
  case atStart => exact ⟨0, 0, .map [], none, 0, 0, rfl, rfl, ⟨by omega⟩, ⟨by omega⟩, HW2, ⟨WInv.empty⟩, ⟨by rw [HN0.out]; rfl⟩, ⟨by rw [HN0.out]; exact Sl.nil _ _ _ _ _ (by decide)⟩, HB2⟩
  case round =>
    obtain ⟨k, N, D, Al, q, cl, rfl, rfl, HK, HN, HWS, HWI, HQ, HSL, HB⟩ := hrel
    have hkn := HK.out
    by_cases hlt : k < n
    · obtain ⟨p, hp⟩ : ∃ p, l[k]? = some p := ⟨_, List.getElem?_eq_getElem (by rw [HLN.out]; exact hlt)⟩
      obtain ⟨ad, rfl, hadF, hcell⟩ := act_at H.out hp
      have hadl := HF.out _ hadF
      have HCP : Fact (∀ (j : Nat) v, (acA p).toList[j]? = some v → wr.cell? ((ad.add (k * 3)).add j) = some v) := ⟨fun j v hj => (HB.out.cell (p := (ad.add (k * 3)).add j) (by rw [Lib.block_add, Lib.block_add]; exact hadl)).trans (hcell j v hj)⟩
      have HAI := Fact.mk (act_info p)
      have HRA : Fact ((wr.alloc (.cells zAc 91)).heap[wr.heap.size]? = some (.cells zAc 91 (0, 0))) := ⟨heap_alloc_new _ _⟩
      have HAZ : Fact (zAc.size = (acA p).size) := ⟨rfl⟩
      have HAO : Fact ((acA p).all (·.oneCell') = true) := ⟨acA_one p⟩
      have HB3 : Fact (Below w.heap.size w (wr.alloc (.cells (acA p) 91))) := ⟨HB.out.alloc HB.out.size _⟩
      have HR3 : Fact ((wr.alloc (.cells (acA p) 91)).heap[wr.heap.size]? = some (.cells (acA p) 91 (0, 0))) := ⟨heap_alloc_new _ _⟩
      have HW3 : Fact (Ws (wr.alloc (.cells (acA p) 91)) pb mb N D) := ⟨HWS.out.move (Below.heap_alloc _ _ _ HWS.out.lt.1) (Below.heap_alloc _ _ _ HWS.out.lt.2)⟩
      have HS3 : Fact (wr.heap.size < (wr.alloc (.cells (acA p) 91)).heap.size ∧ pb < wr.heap.size ∧ mb < wr.heap.size) := ⟨by simp, HWS.out.lt⟩
      have HL3 : Fact (Sl rNat (wr.alloc (.cells (acA p) 91)) (fun b => mb < b ∧ b < wr.heap.size) Al q cl (allL D)) := ⟨HSL.out.move (fun b hb => Below.heap_alloc _ _ _ hb.2)⟩
      clear hp hadF hcell
      by_cases h150 : 150 < k
      · have hz : (150 : Int) < (k : Int) := by omega
        go_wp2_with (first
          | (refine wpList_ok rfl (exec_loadS rfl rfl HCP.out Tryd.underlying91 HAI.out) ?_)
          | (refine wpList_ok rfl (WordsE.exec_alloc rfl (alloc_ac _)) ?_)
          | (refine wpList_store_row rfl 91 (.tmp 6) (.tmp 19) rfl wr.heap.size (acA p) rfl rfl 91 zAc HRA.out HAI.out HAZ.out HAO.out ?_
             rw [World.setRow_alloc_new]))
        go_ret
        exact ⟨rfl, HB3.out⟩
      · have hz : decide ((150 : Int) < (k : Int)) = false := decide_eq_false (by omega)
        have hz2 : ¬ ((150 : Int) < (k : Int)) := by omega
        go_upto_region 9 with (first
          | (refine wpList_ok rfl (exec_loadS rfl rfl HCP.out Tryd.underlying91 HAI.out) ?_)
          | (refine wpList_ok rfl (WordsE.exec_alloc rfl (alloc_ac _)) ?_)
          | (refine wpList_store_row rfl 91 (.tmp 6) (.tmp 19) rfl wr.heap.size (acA p) rfl rfl 91 zAc HRA.out HAI.out HAZ.out HAO.out ?_
             rw [World.setRow_alloc_new]))
        generalize wr.alloc (.cells (acA p) 91) = w3 at HB3 HR3 HW3 HS3 HL3 ⊢
        generalize wr.heap.size = hb at HR3 HS3 HL3 ⊢
        go_wp2_with (first
          | (refine wpList_load_row rfl 91 (.tmp 6) rfl hb rfl 91 (acA p) (0, 0) _ HR3.out Tryd.underlying91 rfl HAI.out ?_)
          | (go_at_call 47; fail))
        refine (num_calls w3 p).mono ?_
        rintro e w4 ⟨rfl, hb4⟩
        obtain ⟨x, hx⟩ : ∃ x, numN p = x := ⟨_, rfl⟩
        have hxl : x < 18446744073709551616 := by rw [← hx]; exact numN_lt p
        rw [hx]
        have HB4 : Fact (Below w.heap.size w w4) := ⟨HB3.out.trans (hb4.mono HB3.out.size)⟩
        have HW4 : Fact (Ws w4 pb mb N D) := ⟨HW3.out.move (hb4.block _ HW3.out.lt.1) (hb4.block _ HW3.out.lt.2)⟩
        have HR4 : Fact (w4.heap[hb]? = some (.cells (acA p) 91 (0, 0))) := ⟨(hb4.block _ HS3.out.1).trans HR3.out⟩
        have HL4 : Fact (Sl rNat w4 (fun b => mb < b ∧ b < w4.heap.size) Al q cl (allL D)) := ⟨(HL3.out.move (fun b hb => hb4.block b (by have := HS3.out; omega))).mono (fun b hb => by have := HS3.out; have := hb4.size; omega)⟩
        have hm4 : mb < w4.heap.size := by have := HW4.out.lt; omega
        clear hb4 hx HR3 HS3 HL3 HW3 HB3 HCP HRA
        have HMD := Fact.mk (mem_dec HW4.out HWI.out hxl)
        obtain ⟨B, hB⟩ : ∃ B, memB D x = B := ⟨_, rfl⟩
        have HHN := Fact.mk (HasNum_calls w4 _ Al q cl (allL D) HL4.out x)
        rw [HMD.out, hB] at HHN
        have HBB := Fact.mk hB
        clear hB
        go_wp2_with (go_at_call 52; fail)
        refine HHN.out.mono ?_
        rintro e w5 ⟨rfl, hw5⟩
        obtain rfl : w4 = w5 := hw5.symm
        clear HHN
        have z0 := SortA.rowc HR4.out (j := 0) (v := .int .u8 (p.1.toNat : Int)) rfl
        obtain ⟨kd, hkd⟩ : ∃ kd, p.1.toNat = kd := ⟨_, rfl⟩
        rw [hkd] at z0
        obtain ⟨r, hr⟩ : ∃ r, kd % 4 = r := ⟨_, rfl⟩
        have r1 : ((kd : Int)).tmod 4 = (r : Int) := by rw [Int.tmod_eq_emod_of_nonneg (by omega)]; omega
        have r2 : (kd : Int) % 4 = (r : Int) := by omega
        obtain ⟨z, hzz⟩ : ∃ z, (if x = 0 then 18446744073709551615 else x - 1) = z := ⟨_, rfl⟩
        have hzl : z < 18446744073709551616 := by rw [← hzz]; split <;> omega
        obtain ⟨K, hK⟩ : ∃ K, z / 64 = K := ⟨_, rfl⟩
        have k1 : IntKind.u64.wrap ((x : Int) - 1) = (z : Int) := by rw [IntKind.wrap_u64, ← hzz]; split <;> omega
        have k2 : (z : Int) / 64 = (K : Int) := by omega
        have k3 : ((z : Int)).tdiv 64 = (K : Int) := by rw [Int.tdiv_eq_ediv_of_nonneg (by omega)]; omega
        have HKL : Fact (K < 18446744073709551616) := ⟨by omega⟩
        clear hkd hr hzz hK
        have hN2 := HN.out
        by_cases hr3 : r < 3
        · have hr4 : (r : Int) < 3 := by omega
          have HPC := Fact.mk (Put_all w4 pb mb N D x HW4.out hxl (by omega))
          have hpb : newB D x = (decide (0 < x) && !B) := by
            rw [← HBB.out]
            unfold newB memB
            rcases Nat.eq_zero_or_pos x with h0 | h0
            · simp [h0]
            · have h1 : 1 ≤ x := h0
              have h2 : 0 < x := h0
              simp [h1, h2]
          rw [hpb] at HPC
          have HPB := Fact.mk hpb
          clear hpb
          have HIN : Fact (WInv (putD D x)) := ⟨inv_put HW4.out HWI.out hxl⟩
          rcases Nat.eq_zero_or_pos x with hx0 | hx0
          · have g0 : decide ((0 : Int) < (x : Int)) = false := decide_eq_false (by omega)
            have g1 : decide (0 < x) = false := decide_eq_false (by omega)
            rw [g1, Bool.false_and] at HPC HPB
            clear hx0
            have HPD : Fact (putD D x = D) := ⟨by unfold putD; rw [HPB.out, if_neg (by decide)]⟩
            rw [HPD.out] at HPC HIN
            go_upto_region 19 with (go_at_call 46; refine HPC.out.mono ?_; rintro e w7 ⟨rfl, N', hN', HW7, ht7⟩; have HB7 : Fact (Below w.heap.size w w7) := ⟨Turned.move ht7 HB4.out HPM.out.2 HB4.out.size⟩; have HL7 : Fact (Sl rNat w7 (fun b => mb < b ∧ b < w7.heap.size) Al q cl (allL D)) := ⟨(HL4.out.move (fun b hb => ht7.block b hb.2 (by intro e; have := Option.some.inj e; omega))).mono (fun b hb => by have := ht7.size; omega)⟩; have HN7 : Fact (N' ≤ 2 * (k + 1) ∧ N' ≤ 302) := ⟨by omega⟩; clear ht7 hN')
            clear HPC z0 hm4 HL4
            have HQ7 := HQ
            have HT1 := Fact.mk (Has_all w7 pb mb N' D x HW7.out hxl)
            obtain ⟨B2, hB2⟩ : ∃ B2, memB D x = B2 := ⟨_, rfl⟩
            rw [hB2] at HT1
            have HMD2 := Fact.mk (mem_dec HW7.out HIN.out hxl)
            rw [hB2] at HMD2
            have bb2 : (B2 != B2) = false := by cases B2 <;> rfl
            clear hB2
            go_wp2_with (go_at_call 50; fail)
            refine HT1.out.mono ?_
            rintro e w8 ⟨rfl, hq8⟩
            have HW8 : Fact (Ws w8 pb mb N' D) := ⟨HW7.out.quiet hq8⟩
            have HB8 : Fact (Below w.heap.size w w8) := ⟨by obtain ⟨j, rfl⟩ := hq8; exact below_drewN' HB7.out j⟩
            have HL8 : Fact (Sl rNat w8 (fun b => mb < b ∧ b < w8.heap.size) Al q cl (allL D)) := ⟨by obtain ⟨j, rfl⟩ := hq8; exact HL7.out.move (fun _ _ => rfl)⟩
            clear hq8 HL7 HT1
            have HT2 := Fact.mk (HasNum_calls w8 _ Al q cl (allL D) HL8.out x)
            rw [HMD2.out] at HT2
            go_wp2_with (go_at_call 52; fail)
            refine HT2.out.mono ?_
            rintro e w9 ⟨rfl, hw9⟩
            obtain rfl : w8 = w9 := hw9.symm
            clear HT2
            obtain ⟨X, hX⟩ : ∃ X, wd D K = X := ⟨_, rfl⟩
            have HXX := Fact.mk hX
            have xx : ((X : Int) != (X : Int)) = false := by simp
            clear hX
            go_wp2_with (go_at_call 56; fail)
            refine (Word_calls' w8 pb mb N' D K X HW8.out HKL.out HXX.out).mono ?_
            rintro e w10 ⟨rfl, hq10⟩
            have HW10 : Fact (Ws w10 pb mb N' D) := ⟨HW8.out.quiet hq10⟩
            have HB10 : Fact (Below w.heap.size w w10) := ⟨by obtain ⟨j, rfl⟩ := hq10; exact below_drewN' HB8.out j⟩
            have HL10 : Fact (Sl rNat w10 (fun b => mb < b ∧ b < w10.heap.size) Al q cl (allL D)) := ⟨by obtain ⟨j, rfl⟩ := hq10; exact HL8.out.move (fun _ _ => rfl)⟩
            clear hq10 HL8
            have HAX : Fact (∀ x ∈ allL D, 1 ≤ x ∧ x < 18446744073709551616) := ⟨fun m hm => by have := (mem_allL HW10.out HIN.out m).1 hm; exact ⟨this.1, this.2.1⟩⟩
            have HT3 := Fact.mk (RWord_calls w10 _ Al q cl (allL D) HL10.out HAX.out K HKL.out)
            rw [word_all HW10.out HIN.out HKL.out, HXX.out] at HT3
            go_wp2_with (go_at_call 57; fail)
            refine HT3.out.mono ?_
            rintro e w11 ⟨rfl, hw11⟩
            obtain rfl : w10 = w11 := hw11.symm
            clear HT3
            obtain ⟨s, hs⟩ : ∃ s, Maps.size D = s := ⟨_, rfl⟩
            have HSS := Fact.mk hs
            have HSC : Fact (cntW none (allL D) = s) := ⟨by rw [← size_cnt HW10.out HIN.out]; exact hs⟩
            have ss : ((s : Int) != (s : Int)) = false := by simp
            clear hs
            go_wp2_with (go_at_call 49; fail)
            refine (Len_calls' w10 pb mb N' D s HW10.out HSS.out).mono ?_
            rintro e w12 ⟨rfl, hq12⟩
            have HW12 : Fact (Ws w12 pb mb N' D) := ⟨HW10.out.quiet hq12⟩
            have HB12 : Fact (Below w.heap.size w w12) := ⟨by obtain ⟨j, rfl⟩ := hq12; exact below_drewN' HB10.out j⟩
            have HL12 : Fact (Sl rNat w12 (fun b => mb < b ∧ b < w12.heap.size) Al q cl (allL D)) := ⟨by obtain ⟨j, rfl⟩ := hq12; exact HL10.out.move (fun _ _ => rfl)⟩
            clear hq12 HL10
            have HT4 := Fact.mk (RWords_calls w12 _ Al q cl (allL D) HL12.out HAX.out)
            rw [HSC.out] at HT4
            go_wp2_with (go_at_call 58; fail)
            refine HT4.out.mono ?_
            rintro e w13 ⟨rfl, hq13⟩
            have HW13 : Fact (Ws w13 pb mb N' D) := ⟨HW12.out.quiet hq13⟩
            have HB13 : Fact (Below w.heap.size w w13) := ⟨by obtain ⟨j, rfl⟩ := hq13; exact below_drewN' HB12.out j⟩
            have HL13 : Fact (Sl rNat w13 (fun b => mb < b ∧ b < w13.heap.size) Al q cl (allL D)) := ⟨by obtain ⟨j, rfl⟩ := hq13; exact HL12.out.move (fun _ _ => rfl)⟩
            have hsz13 := HW13.out.own.size_le
            have hn13 := HN7.out
            clear hq13 HL12 HT4
            have HT5 := Fact.mk (All_calls w13 pb mb N' D HW13.out HIN.out (HG.out.below HB13.out HG2.out) (Nat.lt_of_lt_of_le HG2.out HB13.out.size) (by omega))
            rw [HQ7.out] at HT5
            go_wp2_with (go_at_call 48; fail)
            refine HT5.out.mono ?_
            rintro e w14 ⟨⟨A14, c14, rfl, HS14⟩, hb14⟩
            have HW14 : Fact (Ws w14 pb mb N' D) := ⟨HW13.out.move (hb14.block _ HW13.out.lt.1) (hb14.block _ HW13.out.lt.2)⟩
            have HB14 : Fact (Below w.heap.size w w14) := ⟨HB13.out.trans (hb14.mono HB13.out.size)⟩
            have HL14 : Fact (Sl rNat w14 (fun b => mb < b ∧ b < w14.heap.size) Al q cl (allL D)) := ⟨(HL13.out.move (fun b hb => hb14.block b hb.2)).mono (fun b hb => by have := hb14.size; omega)⟩
            clear hb14 HL13 HT5
            go_wp2_with (go_at_call 51; fail)
            refine (Same_calls w14 _ _ A14 Al q c14 cl (allL D) HS14.out HL14.out).mono ?_
            rintro e w15 ⟨rfl, hq15⟩
            have HW15 : Fact (Ws w15 pb mb N' D) := ⟨HW14.out.quiet hq15⟩
            have HB15 : Fact (Below w.heap.size w w15) := ⟨by obtain ⟨j, rfl⟩ := hq15; exact below_drewN' HB14.out j⟩
            have HL15 : Fact (Sl rNat w15 (fun b => mb < b ∧ b < w15.heap.size) Al q cl (allL D)) := ⟨by obtain ⟨j, rfl⟩ := hq15; exact HL14.out.move (fun _ _ => rfl)⟩
            clear hq15 HL14 HS14
            go_wp2_with fail
            go_roundg (n - (k + 1))
            case measure => omega
            case rel => exact ⟨k + 1, N', D, Al, q, cl, rfl, by go_num, ⟨by omega⟩, HN7, HW15, HIN, HQ7, HL15, HB15⟩
          · have g0 : (0 : Int) < (x : Int) := by omega
            have g1 : decide (0 < x) = true := decide_eq_true hx0
            rw [g1, Bool.true_and] at HPC HPB
            cases B with
            | true =>
              simp only [Bool.not_true] at HPC HPB
              have HPD : Fact (putD D x = D) := ⟨by unfold putD; rw [HPB.out, if_neg (by decide)]⟩
              rw [HPD.out] at HPC HIN
              go_upto_region 19 with (go_at_call 46; refine HPC.out.mono ?_; rintro e w7 ⟨rfl, N', hN', HW7, ht7⟩; have HB7 : Fact (Below w.heap.size w w7) := ⟨Turned.move ht7 HB4.out HPM.out.2 HB4.out.size⟩; have HL7 : Fact (Sl rNat w7 (fun b => mb < b ∧ b < w7.heap.size) Al q cl (allL D)) := ⟨(HL4.out.move (fun b hb => ht7.block b hb.2 (by intro e; have := Option.some.inj e; omega))).mono (fun b hb => by have := ht7.size; omega)⟩; have HN7 : Fact (N' ≤ 2 * (k + 1) ∧ N' ≤ 302) := ⟨by omega⟩; clear ht7 hN')
              clear HPC z0 hm4 HL4
              have HQ7 := HQ
              have HT1 := Fact.mk (Has_all w7 pb mb N' D x HW7.out hxl)
              obtain ⟨B2, hB2⟩ : ∃ B2, memB D x = B2 := ⟨_, rfl⟩
              rw [hB2] at HT1
              have HMD2 := Fact.mk (mem_dec HW7.out HIN.out hxl)
              rw [hB2] at HMD2
              have bb2 : (B2 != B2) = false := by cases B2 <;> rfl
              clear hB2
              go_wp2_with (go_at_call 50; fail)
              refine HT1.out.mono ?_
              rintro e w8 ⟨rfl, hq8⟩
              have HW8 : Fact (Ws w8 pb mb N' D) := ⟨HW7.out.quiet hq8⟩
              have HB8 : Fact (Below w.heap.size w w8) := ⟨by obtain ⟨j, rfl⟩ := hq8; exact below_drewN' HB7.out j⟩
              have HL8 : Fact (Sl rNat w8 (fun b => mb < b ∧ b < w8.heap.size) Al q cl (allL D)) := ⟨by obtain ⟨j, rfl⟩ := hq8; exact HL7.out.move (fun _ _ => rfl)⟩
              clear hq8 HL7 HT1
              have HT2 := Fact.mk (HasNum_calls w8 _ Al q cl (allL D) HL8.out x)
              rw [HMD2.out] at HT2
              go_wp2_with (go_at_call 52; fail)
              refine HT2.out.mono ?_
              rintro e w9 ⟨rfl, hw9⟩
              obtain rfl : w8 = w9 := hw9.symm
              clear HT2
              obtain ⟨X, hX⟩ : ∃ X, wd D K = X := ⟨_, rfl⟩
              have HXX := Fact.mk hX
              have xx : ((X : Int) != (X : Int)) = false := by simp
              clear hX
              go_wp2_with (go_at_call 56; fail)
              refine (Word_calls' w8 pb mb N' D K X HW8.out HKL.out HXX.out).mono ?_
              rintro e w10 ⟨rfl, hq10⟩
              have HW10 : Fact (Ws w10 pb mb N' D) := ⟨HW8.out.quiet hq10⟩
              have HB10 : Fact (Below w.heap.size w w10) := ⟨by obtain ⟨j, rfl⟩ := hq10; exact below_drewN' HB8.out j⟩
              have HL10 : Fact (Sl rNat w10 (fun b => mb < b ∧ b < w10.heap.size) Al q cl (allL D)) := ⟨by obtain ⟨j, rfl⟩ := hq10; exact HL8.out.move (fun _ _ => rfl)⟩
              clear hq10 HL8
              have HAX : Fact (∀ x ∈ allL D, 1 ≤ x ∧ x < 18446744073709551616) := ⟨fun m hm => by have := (mem_allL HW10.out HIN.out m).1 hm; exact ⟨this.1, this.2.1⟩⟩
              have HT3 := Fact.mk (RWord_calls w10 _ Al q cl (allL D) HL10.out HAX.out K HKL.out)
              rw [word_all HW10.out HIN.out HKL.out, HXX.out] at HT3
              go_wp2_with (go_at_call 57; fail)
              refine HT3.out.mono ?_
              rintro e w11 ⟨rfl, hw11⟩
              obtain rfl : w10 = w11 := hw11.symm
              clear HT3
              obtain ⟨s, hs⟩ : ∃ s, Maps.size D = s := ⟨_, rfl⟩
              have HSS := Fact.mk hs
              have HSC : Fact (cntW none (allL D) = s) := ⟨by rw [← size_cnt HW10.out HIN.out]; exact hs⟩
              have ss : ((s : Int) != (s : Int)) = false := by simp
              clear hs
              go_wp2_with (go_at_call 49; fail)
              refine (Len_calls' w10 pb mb N' D s HW10.out HSS.out).mono ?_
              rintro e w12 ⟨rfl, hq12⟩
              have HW12 : Fact (Ws w12 pb mb N' D) := ⟨HW10.out.quiet hq12⟩
              have HB12 : Fact (Below w.heap.size w w12) := ⟨by obtain ⟨j, rfl⟩ := hq12; exact below_drewN' HB10.out j⟩
              have HL12 : Fact (Sl rNat w12 (fun b => mb < b ∧ b < w12.heap.size) Al q cl (allL D)) := ⟨by obtain ⟨j, rfl⟩ := hq12; exact HL10.out.move (fun _ _ => rfl)⟩
              clear hq12 HL10
              have HT4 := Fact.mk (RWords_calls w12 _ Al q cl (allL D) HL12.out HAX.out)
              rw [HSC.out] at HT4
              go_wp2_with (go_at_call 58; fail)
              refine HT4.out.mono ?_
              rintro e w13 ⟨rfl, hq13⟩
              have HW13 : Fact (Ws w13 pb mb N' D) := ⟨HW12.out.quiet hq13⟩
              have HB13 : Fact (Below w.heap.size w w13) := ⟨by obtain ⟨j, rfl⟩ := hq13; exact below_drewN' HB12.out j⟩
              have HL13 : Fact (Sl rNat w13 (fun b => mb < b ∧ b < w13.heap.size) Al q cl (allL D)) := ⟨by obtain ⟨j, rfl⟩ := hq13; exact HL12.out.move (fun _ _ => rfl)⟩
              have hsz13 := HW13.out.own.size_le
              have hn13 := HN7.out
              clear hq13 HL12 HT4
              have HT5 := Fact.mk (All_calls w13 pb mb N' D HW13.out HIN.out (HG.out.below HB13.out HG2.out) (Nat.lt_of_lt_of_le HG2.out HB13.out.size) (by omega))
              rw [HQ7.out] at HT5
              go_wp2_with (go_at_call 48; fail)
              refine HT5.out.mono ?_
              rintro e w14 ⟨⟨A14, c14, rfl, HS14⟩, hb14⟩
              have HW14 : Fact (Ws w14 pb mb N' D) := ⟨HW13.out.move (hb14.block _ HW13.out.lt.1) (hb14.block _ HW13.out.lt.2)⟩
              have HB14 : Fact (Below w.heap.size w w14) := ⟨HB13.out.trans (hb14.mono HB13.out.size)⟩
              have HL14 : Fact (Sl rNat w14 (fun b => mb < b ∧ b < w14.heap.size) Al q cl (allL D)) := ⟨(HL13.out.move (fun b hb => hb14.block b hb.2)).mono (fun b hb => by have := hb14.size; omega)⟩
              clear hb14 HL13 HT5
              go_wp2_with (go_at_call 51; fail)
              refine (Same_calls w14 _ _ A14 Al q c14 cl (allL D) HS14.out HL14.out).mono ?_
              rintro e w15 ⟨rfl, hq15⟩
              have HW15 : Fact (Ws w15 pb mb N' D) := ⟨HW14.out.quiet hq15⟩
              have HB15 : Fact (Below w.heap.size w w15) := ⟨by obtain ⟨j, rfl⟩ := hq15; exact below_drewN' HB14.out j⟩
              have HL15 : Fact (Sl rNat w15 (fun b => mb < b ∧ b < w15.heap.size) Al q cl (allL D)) := ⟨by obtain ⟨j, rfl⟩ := hq15; exact HL14.out.move (fun _ _ => rfl)⟩
              clear hq15 HL14 HS14
              go_wp2_with fail
              go_roundg (n - (k + 1))
              case measure => omega
              case rel => exact ⟨k + 1, N', D, Al, q, cl, rfl, by go_num, ⟨by omega⟩, HN7, HW15, HIN, HQ7, HL15, HB15⟩
            | false =>
              simp only [Bool.not_false] at HPC HPB
              go_wp2_with (go_at_call 46; fail)
              refine HPC.out.mono ?_
              rintro e w6 ⟨rfl, N', hN', HW6, ht6⟩
              have HB6 : Fact (Below w.heap.size w w6) := ⟨Turned.move ht6 HB4.out HPM.out.2 HB4.out.size⟩
              have HL6 : Fact (Sl rNat w6 (fun b => mb < b ∧ b < w6.heap.size) Al q cl (allL D)) := ⟨(HL4.out.move (fun b hb => ht6.block b hb.2 (by intro e; have := Option.some.inj e; omega))).mono (fun b hb => by have := ht6.size; omega)⟩
              have hm6 : mb < w6.heap.size := by have := HW6.out.lt; omega
              have HN6 := Fact.mk hN'
              clear ht6 hN' HPC z0 hm4
              have hq64 := len_all HW4.out
              rw [HQ.out] at hq64
              have HPN := Fact.mk (PutNum_calls w6 _ Al q cl (allL D) HL6.out (fun b hb => hb.2) (by omega) x)
              go_wp2_with (go_at_call 53; fail)
              refine HPN.out.mono ?_
              rintro e w7 ⟨⟨A7, c7, i7, rfl, hi7, h71, h72, HS7⟩, hb7⟩
              have HE7 := Fact.mk (put_all HW4.out HWI.out hxl HPB.out HW6.out h71 h72)
              rw [HE7.out] at HS7
              obtain ⟨D', hD'⟩ : ∃ D', putD D x = D' := ⟨_, rfl⟩
              rw [hD'] at HS7 HIN HW6
              obtain ⟨q', hq'⟩ : ∃ q', q + 1 = q' := ⟨_, rfl⟩
              rw [hq'] at HS7 ⊢
              have HW7 : Fact (Ws w7 pb mb N' D') := ⟨HW6.out.move (hb7.block _ HW6.out.lt.1) (hb7.block _ HW6.out.lt.2)⟩
              have HB7 : Fact (Below w.heap.size w w7) := ⟨HB6.out.trans (hb7.mono HB6.out.size)⟩
              have HL7 : Fact (Sl rNat w7 (fun b => mb < b ∧ b < w7.heap.size) A7 q' c7 (allL D')) := ⟨HS7.out.mono (fun b hb => by omega)⟩
              have HQ7 : Fact ((allL D').length = q') := ⟨HS7.out.len⟩
              have HN7 : Fact (N' ≤ 2 * (k + 1) ∧ N' ≤ 302) := ⟨by have := HN6.out; omega⟩
              clear hD' hq' hb7 h71 h72 hi7 HPN HS7 HL6 HL4 hm6 HE7
              have HT1 := Fact.mk (Has_all w7 pb mb N' D' x HW7.out hxl)
              obtain ⟨B2, hB2⟩ : ∃ B2, memB D' x = B2 := ⟨_, rfl⟩
              rw [hB2] at HT1
              have HMD2 := Fact.mk (mem_dec HW7.out HIN.out hxl)
              rw [hB2] at HMD2
              have bb2 : (B2 != B2) = false := by cases B2 <;> rfl
              clear hB2
              go_wp2_with (go_at_call 50; fail)
              refine HT1.out.mono ?_
              rintro e w8 ⟨rfl, hq8⟩
              have HW8 : Fact (Ws w8 pb mb N' D') := ⟨HW7.out.quiet hq8⟩
              have HB8 : Fact (Below w.heap.size w w8) := ⟨by obtain ⟨j, rfl⟩ := hq8; exact below_drewN' HB7.out j⟩
              have HL8 : Fact (Sl rNat w8 (fun b => mb < b ∧ b < w8.heap.size) A7 q' c7 (allL D')) := ⟨by obtain ⟨j, rfl⟩ := hq8; exact HL7.out.move (fun _ _ => rfl)⟩
              clear hq8 HL7 HT1
              have HT2 := Fact.mk (HasNum_calls w8 _ A7 q' c7 (allL D') HL8.out x)
              rw [HMD2.out] at HT2
              go_wp2_with (go_at_call 52; fail)
              refine HT2.out.mono ?_
              rintro e w9 ⟨rfl, hw9⟩
              obtain rfl : w8 = w9 := hw9.symm
              clear HT2
              obtain ⟨X, hX⟩ : ∃ X, wd D' K = X := ⟨_, rfl⟩
              have HXX := Fact.mk hX
              have xx : ((X : Int) != (X : Int)) = false := by simp
              clear hX
              go_wp2_with (go_at_call 56; fail)
              refine (Word_calls' w8 pb mb N' D' K X HW8.out HKL.out HXX.out).mono ?_
              rintro e w10 ⟨rfl, hq10⟩
              have HW10 : Fact (Ws w10 pb mb N' D') := ⟨HW8.out.quiet hq10⟩
              have HB10 : Fact (Below w.heap.size w w10) := ⟨by obtain ⟨j, rfl⟩ := hq10; exact below_drewN' HB8.out j⟩
              have HL10 : Fact (Sl rNat w10 (fun b => mb < b ∧ b < w10.heap.size) A7 q' c7 (allL D')) := ⟨by obtain ⟨j, rfl⟩ := hq10; exact HL8.out.move (fun _ _ => rfl)⟩
              clear hq10 HL8
              have HAX : Fact (∀ x ∈ allL D', 1 ≤ x ∧ x < 18446744073709551616) := ⟨fun m hm => by have := (mem_allL HW10.out HIN.out m).1 hm; exact ⟨this.1, this.2.1⟩⟩
              have HT3 := Fact.mk (RWord_calls w10 _ A7 q' c7 (allL D') HL10.out HAX.out K HKL.out)
              rw [word_all HW10.out HIN.out HKL.out, HXX.out] at HT3
              go_wp2_with (go_at_call 57; fail)
              refine HT3.out.mono ?_
              rintro e w11 ⟨rfl, hw11⟩
              obtain rfl : w10 = w11 := hw11.symm
              clear HT3
              obtain ⟨s, hs⟩ : ∃ s, Maps.size D' = s := ⟨_, rfl⟩
              have HSS := Fact.mk hs
              have HSC : Fact (cntW none (allL D') = s) := ⟨by rw [← size_cnt HW10.out HIN.out]; exact hs⟩
              have ss : ((s : Int) != (s : Int)) = false := by simp
              clear hs
              go_wp2_with (go_at_call 49; fail)
              refine (Len_calls' w10 pb mb N' D' s HW10.out HSS.out).mono ?_
              rintro e w12 ⟨rfl, hq12⟩
              have HW12 : Fact (Ws w12 pb mb N' D') := ⟨HW10.out.quiet hq12⟩
              have HB12 : Fact (Below w.heap.size w w12) := ⟨by obtain ⟨j, rfl⟩ := hq12; exact below_drewN' HB10.out j⟩
              have HL12 : Fact (Sl rNat w12 (fun b => mb < b ∧ b < w12.heap.size) A7 q' c7 (allL D')) := ⟨by obtain ⟨j, rfl⟩ := hq12; exact HL10.out.move (fun _ _ => rfl)⟩
              clear hq12 HL10
              have HT4 := Fact.mk (RWords_calls w12 _ A7 q' c7 (allL D') HL12.out HAX.out)
              rw [HSC.out] at HT4
              go_wp2_with (go_at_call 58; fail)
              refine HT4.out.mono ?_
              rintro e w13 ⟨rfl, hq13⟩
              have HW13 : Fact (Ws w13 pb mb N' D') := ⟨HW12.out.quiet hq13⟩
              have HB13 : Fact (Below w.heap.size w w13) := ⟨by obtain ⟨j, rfl⟩ := hq13; exact below_drewN' HB12.out j⟩
              have HL13 : Fact (Sl rNat w13 (fun b => mb < b ∧ b < w13.heap.size) A7 q' c7 (allL D')) := ⟨by obtain ⟨j, rfl⟩ := hq13; exact HL12.out.move (fun _ _ => rfl)⟩
              have hsz13 := HW13.out.own.size_le
              have hn13 := HN7.out
              clear hq13 HL12 HT4
              have HT5 := Fact.mk (All_calls w13 pb mb N' D' HW13.out HIN.out (HG.out.below HB13.out HG2.out) (Nat.lt_of_lt_of_le HG2.out HB13.out.size) (by omega))
              rw [HQ7.out] at HT5
              go_wp2_with (go_at_call 48; fail)
              refine HT5.out.mono ?_
              rintro e w14 ⟨⟨A14, c14, rfl, HS14⟩, hb14⟩
              have HW14 : Fact (Ws w14 pb mb N' D') := ⟨HW13.out.move (hb14.block _ HW13.out.lt.1) (hb14.block _ HW13.out.lt.2)⟩
              have HB14 : Fact (Below w.heap.size w w14) := ⟨HB13.out.trans (hb14.mono HB13.out.size)⟩
              have HL14 : Fact (Sl rNat w14 (fun b => mb < b ∧ b < w14.heap.size) A7 q' c7 (allL D')) := ⟨(HL13.out.move (fun b hb => hb14.block b hb.2)).mono (fun b hb => by have := hb14.size; omega)⟩
              clear hb14 HL13 HT5
              go_wp2_with (go_at_call 51; fail)
              refine (Same_calls w14 _ _ A14 A7 q' c14 c7 (allL D') HS14.out HL14.out).mono ?_
              rintro e w15 ⟨rfl, hq15⟩
              have HW15 : Fact (Ws w15 pb mb N' D') := ⟨HW14.out.quiet hq15⟩
              have HB15 : Fact (Below w.heap.size w w15) := ⟨by obtain ⟨j, rfl⟩ := hq15; exact below_drewN' HB14.out j⟩
              have HL15 : Fact (Sl rNat w15 (fun b => mb < b ∧ b < w15.heap.size) A7 q' c7 (allL D')) := ⟨by obtain ⟨j, rfl⟩ := hq15; exact HL14.out.move (fun _ _ => rfl)⟩
              clear hq15 HL14 HS14
              go_wp2_with fail
              go_roundg (n - (k + 1))
              case measure => omega
              case rel => exact ⟨k + 1, N', D', A7, q', c7, rfl, by go_num, ⟨by omega⟩, HN7, HW15, HIN, HQ7, HL15, HB15⟩
        · have hr4 : decide ((r : Int) < 3) = false := decide_eq_false (by omega)
          have HCC := Fact.mk (Cut_all w4 pb mb N D x HW4.out hxl (by omega))
          rw [HBB.out] at HCC
          have HIN : Fact (WInv (delD D x)) := ⟨inv_del HW4.out HWI.out hxl⟩
          go_wp2_with (go_at_call 54; fail)
          refine HCC.out.mono ?_
          rintro e w6 ⟨rfl, N', hN', HW6, ht6⟩
          have HB6 : Fact (Below w.heap.size w w6) := ⟨Turned.move ht6 HB4.out HPM.out.2 HB4.out.size⟩
          have HL6 : Fact (Sl rNat w6 (fun b => mb < b ∧ b < w6.heap.size) Al q cl (allL D)) := ⟨(HL4.out.move (fun b hb => ht6.block b hb.2 (by intro e; have := Option.some.inj e; omega))).mono (fun b hb => by have := ht6.size; omega)⟩
          have hm6 : mb < w6.heap.size := by have := HW6.out.lt; omega
          have HN6 := Fact.mk hN'
          clear ht6 hN' HCC z0 hm4
          have hq64 := len_all HW4.out
          rw [HQ.out] at hq64
          have HCN := Fact.mk (CutNum_calls w6 _ Al q cl (allL D) HL6.out (fun b hb => hb.2) (by omega) x)
          rw [cut_all HW4.out HWI.out hxl HW6.out] at HCN
          obtain ⟨D', hD'⟩ : ∃ D', delD D x = D' := ⟨_, rfl⟩
          rw [hD'] at HCN HIN HW6
          obtain ⟨q', hq'⟩ : ∃ q', (allL D').length = q' := ⟨_, rfl⟩
          rw [hq'] at HCN
          have HQ7 := Fact.mk hq'
          have bb : (B != B) = false := by cases B <;> rfl
          clear hD' hq'
          go_wp2_with (go_at_call 55; fail)
          refine HCN.out.mono ?_
          rintro e w7 ⟨⟨A7, c7, rfl, HS7⟩, hb7⟩
          have HW7 : Fact (Ws w7 pb mb N' D') := ⟨HW6.out.move (hb7.block _ HW6.out.lt.1) (hb7.block _ HW6.out.lt.2)⟩
          have HB7 : Fact (Below w.heap.size w w7) := ⟨HB6.out.trans (hb7.mono HB6.out.size)⟩
          have HL7 : Fact (Sl rNat w7 (fun b => mb < b ∧ b < w7.heap.size) A7 q' c7 (allL D')) := ⟨HS7.out.mono (fun b hb => by omega)⟩
          have HN7 : Fact (N' ≤ 2 * (k + 1) ∧ N' ≤ 302) := ⟨by have := HN6.out; omega⟩
          clear hb7 HCN HS7 HL6 HL4 hm6
          have HT1 := Fact.mk (Has_all w7 pb mb N' D' x HW7.out hxl)
          obtain ⟨B2, hB2⟩ : ∃ B2, memB D' x = B2 := ⟨_, rfl⟩
          rw [hB2] at HT1
          have HMD2 := Fact.mk (mem_dec HW7.out HIN.out hxl)
          rw [hB2] at HMD2
          have bb2 : (B2 != B2) = false := by cases B2 <;> rfl
          clear hB2
          go_wp2_with (go_at_call 50; fail)
          refine HT1.out.mono ?_
          rintro e w8 ⟨rfl, hq8⟩
          have HW8 : Fact (Ws w8 pb mb N' D') := ⟨HW7.out.quiet hq8⟩
          have HB8 : Fact (Below w.heap.size w w8) := ⟨by obtain ⟨j, rfl⟩ := hq8; exact below_drewN' HB7.out j⟩
          have HL8 : Fact (Sl rNat w8 (fun b => mb < b ∧ b < w8.heap.size) A7 q' c7 (allL D')) := ⟨by obtain ⟨j, rfl⟩ := hq8; exact HL7.out.move (fun _ _ => rfl)⟩
          clear hq8 HL7 HT1
          have HT2 := Fact.mk (HasNum_calls w8 _ A7 q' c7 (allL D') HL8.out x)
          rw [HMD2.out] at HT2
          go_wp2_with (go_at_call 52; fail)
          refine HT2.out.mono ?_
          rintro e w9 ⟨rfl, hw9⟩
          obtain rfl : w8 = w9 := hw9.symm
          clear HT2
          obtain ⟨X, hX⟩ : ∃ X, wd D' K = X := ⟨_, rfl⟩
          have HXX := Fact.mk hX
          have xx : ((X : Int) != (X : Int)) = false := by simp
          clear hX
          go_wp2_with (go_at_call 56; fail)
          refine (Word_calls' w8 pb mb N' D' K X HW8.out HKL.out HXX.out).mono ?_
          rintro e w10 ⟨rfl, hq10⟩
          have HW10 : Fact (Ws w10 pb mb N' D') := ⟨HW8.out.quiet hq10⟩
          have HB10 : Fact (Below w.heap.size w w10) := ⟨by obtain ⟨j, rfl⟩ := hq10; exact below_drewN' HB8.out j⟩
          have HL10 : Fact (Sl rNat w10 (fun b => mb < b ∧ b < w10.heap.size) A7 q' c7 (allL D')) := ⟨by obtain ⟨j, rfl⟩ := hq10; exact HL8.out.move (fun _ _ => rfl)⟩
          clear hq10 HL8
          have HAX : Fact (∀ x ∈ allL D', 1 ≤ x ∧ x < 18446744073709551616) := ⟨fun m hm => by have := (mem_allL HW10.out HIN.out m).1 hm; exact ⟨this.1, this.2.1⟩⟩
          have HT3 := Fact.mk (RWord_calls w10 _ A7 q' c7 (allL D') HL10.out HAX.out K HKL.out)
          rw [word_all HW10.out HIN.out HKL.out, HXX.out] at HT3
          go_wp2_with (go_at_call 57; fail)
          refine HT3.out.mono ?_
          rintro e w11 ⟨rfl, hw11⟩
          obtain rfl : w10 = w11 := hw11.symm
          clear HT3
          obtain ⟨s, hs⟩ : ∃ s, Maps.size D' = s := ⟨_, rfl⟩
          have HSS := Fact.mk hs
          have HSC : Fact (cntW none (allL D') = s) := ⟨by rw [← size_cnt HW10.out HIN.out]; exact hs⟩
          have ss : ((s : Int) != (s : Int)) = false := by simp
          clear hs
          go_wp2_with (go_at_call 49; fail)
          refine (Len_calls' w10 pb mb N' D' s HW10.out HSS.out).mono ?_
          rintro e w12 ⟨rfl, hq12⟩
          have HW12 : Fact (Ws w12 pb mb N' D') := ⟨HW10.out.quiet hq12⟩
          have HB12 : Fact (Below w.heap.size w w12) := ⟨by obtain ⟨j, rfl⟩ := hq12; exact below_drewN' HB10.out j⟩
          have HL12 : Fact (Sl rNat w12 (fun b => mb < b ∧ b < w12.heap.size) A7 q' c7 (allL D')) := ⟨by obtain ⟨j, rfl⟩ := hq12; exact HL10.out.move (fun _ _ => rfl)⟩
          clear hq12 HL10
          have HT4 := Fact.mk (RWords_calls w12 _ A7 q' c7 (allL D') HL12.out HAX.out)
          rw [HSC.out] at HT4
          go_wp2_with (go_at_call 58; fail)
          refine HT4.out.mono ?_
          rintro e w13 ⟨rfl, hq13⟩
          have HW13 : Fact (Ws w13 pb mb N' D') := ⟨HW12.out.quiet hq13⟩
          have HB13 : Fact (Below w.heap.size w w13) := ⟨by obtain ⟨j, rfl⟩ := hq13; exact below_drewN' HB12.out j⟩
          have HL13 : Fact (Sl rNat w13 (fun b => mb < b ∧ b < w13.heap.size) A7 q' c7 (allL D')) := ⟨by obtain ⟨j, rfl⟩ := hq13; exact HL12.out.move (fun _ _ => rfl)⟩
          have hsz13 := HW13.out.own.size_le
          have hn13 := HN7.out
          clear hq13 HL12 HT4
          have HT5 := Fact.mk (All_calls w13 pb mb N' D' HW13.out HIN.out (HG.out.below HB13.out HG2.out) (Nat.lt_of_lt_of_le HG2.out HB13.out.size) (by omega))
          rw [HQ7.out] at HT5
          go_wp2_with (go_at_call 48; fail)
          refine HT5.out.mono ?_
          rintro e w14 ⟨⟨A14, c14, rfl, HS14⟩, hb14⟩
          have HW14 : Fact (Ws w14 pb mb N' D') := ⟨HW13.out.move (hb14.block _ HW13.out.lt.1) (hb14.block _ HW13.out.lt.2)⟩
          have HB14 : Fact (Below w.heap.size w w14) := ⟨HB13.out.trans (hb14.mono HB13.out.size)⟩
          have HL14 : Fact (Sl rNat w14 (fun b => mb < b ∧ b < w14.heap.size) A7 q' c7 (allL D')) := ⟨(HL13.out.move (fun b hb => hb14.block b hb.2)).mono (fun b hb => by have := hb14.size; omega)⟩
          clear hb14 HL13 HT5
          go_wp2_with (go_at_call 51; fail)
          refine (Same_calls w14 _ _ A14 A7 q' c14 c7 (allL D') HS14.out HL14.out).mono ?_
          rintro e w15 ⟨rfl, hq15⟩
          have HW15 : Fact (Ws w15 pb mb N' D') := ⟨HW14.out.quiet hq15⟩
          have HB15 : Fact (Below w.heap.size w w15) := ⟨by obtain ⟨j, rfl⟩ := hq15; exact below_drewN' HB14.out j⟩
          have HL15 : Fact (Sl rNat w15 (fun b => mb < b ∧ b < w15.heap.size) A7 q' c7 (allL D')) := ⟨by obtain ⟨j, rfl⟩ := hq15; exact HL14.out.move (fun _ _ => rfl)⟩
          clear hq15 HL14 HS14
          go_wp2_with fail
          go_roundg (n - (k + 1))
          case measure => omega
          case rel => exact ⟨k + 1, N', D', A7, q', c7, rfl, by go_num, ⟨by omega⟩, HN7, HW15, HIN, HQ7, HL15, HB15⟩
    · go_wp2_with fail
      go_ret
      exact ⟨rfl, HB.out⟩
end Go.Proofs.YtkmcjokoinoahaaDoor.LawWPlays
