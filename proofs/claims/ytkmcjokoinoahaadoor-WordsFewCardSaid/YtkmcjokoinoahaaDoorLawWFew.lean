/- WordsFew: for every input the law answers true; what was in memory before is as it was. -/
import Derived.Test.YtkmcjokoinoahaaDoorWordsE
import Derived.Laws.Small
set_option linter.unusedVariables false
set_option linter.unusedSimpArgs false
namespace Go.Proofs.YtkmcjokoinoahaaDoor.LawWFew
open Go.RowKit Go.Proofs.YtkmcjokoinoahaaDoor.Lib Go.Proofs.YtkmcjokoinoahaaDoor.LibB Go.Proofs.YtkmcjokoinoahaaDoor.PlainS Go.Proofs.YtkmcjokoinoahaaDoor.WordsA Go.Proofs.YtkmcjokoinoahaaDoor.WordsB Go.Proofs.YtkmcjokoinoahaaDoor.PlainW Go.Proofs.YtkmcjokoinoahaaDoor.WordsC Go.Proofs.YtkmcjokoinoahaaDoor.WordsD Go.Proofs.YtkmcjokoinoahaaDoor.WordsE Go.Maps
open Go.Proofs.YtkmcjokoinoahaaDoor.KeysU (natKeys)
theorem len_allK {D : DataW Unit} : ∀ {ks : List Nat}, (∀ k ∈ ks, wd D k ≠ 0 ∧ wd D k < 18446744073709551616) → ks.length ≤ (allK D ks).length
  | [], _ => by simp
  | k :: r, h => by
    show (k :: r).length ≤ (numsOf k (wd D k) ++ allK D r).length
    have h1 := len_allK (fun x hx => h x (List.mem_cons_of_mem _ hx))
    obtain ⟨h2, h3⟩ := h k List.mem_cons_self
    have h4 : 0 < (numsOf k (wd D k)).length := by
      unfold numsOf
      rw [List.length_map]
      exact List.length_pos_iff.2 (bitsL_ne h2 h3)
    rw [List.length_append, List.length_cons]
    omega
theorem few_all {w : World} {pb mb N : Nat} {D : DataW Unit} (h : Ws w pb mb N D) (hi : WInv D) : Maps.size D ≤ (allL D).length := by
  obtain ⟨hk1, hk2, hk3, hk4⟩ := Ws.keys h
  rw [← hk4, ← keysL_len]
  refine len_allK fun k hk => ?_
  have := hi.key hk2 hk hk3
  exact ⟨this.2, (h.look (by omega)).2.1⟩
theorem few_most {w : World} {pb mb N : Nat} {D : DataW Unit} (h : Ws w pb mb N D) (hi : WInv D) {M : Nat} (hM : ∀ m, 1 ≤ m → m < 18446744073709551616 → hasB D m = true → m ≤ M) : Maps.size D ≤ (M - 1) / 64 + 1 := by
  obtain ⟨hk1, hk2, hk3, hk4⟩ := Ws.keys h
  rw [← hk4, ← keysL_len]
  have := sorted_len (a := 0) (M := (M - 1) / 64 + 1) (keysL_sorted hk1) (fun k hk => ⟨Nat.zero_le _, by
    have hs := hi.key hk2 hk hk3
    have hb := bitsL_ne hs.2 (h.look (show k < 18446744073709551616 by omega)).2.1
    obtain ⟨b, hb⟩ := List.exists_mem_of_ne_nil _ hb
    have hn : 64 * k + b + 1 ∈ allL D := mem_allK.2 ⟨k, hk, b, (mem_bitsL.1 hb).1, (mem_bitsL.1 hb).2, rfl⟩
    obtain ⟨h1, h2, h3⟩ := (mem_allL h hi _).1 hn
    have := hM _ h1 h2 h3
    omega⟩)
  omega
theorem few_none {w : World} {pb mb N : Nat} {D : DataW Unit} (h : Ws w pb mb N D) (hi : WInv D) (hM : ∀ m, 1 ≤ m → m < 18446744073709551616 → hasB D m = true → m ≤ 0) : allL D = [] := by
  rw [List.eq_nil_iff_forall_not_mem]
  intro n hn
  obtain ⟨h1, h2, h3⟩ := (mem_allL h hi n).1 hn
  have := hM n h1 h2 h3
  omega
set_option maxHeartbeats 4000000 in
set_option maxRecDepth 100000 in
theorem WordsFew_calls (w : World) (F : Nat → Prop) (A : Option Addr) (n c : Nat) (l : List (UInt8 × UInt64 × Bool)) (h : Sl rAc w F A n c l) (hF : ∀ k, F k → k < w.heap.size) (hg : LaidB w) (hg2 : 2 < w.heap.size) :
    Calls Tryd.prog 14 #[.slice A n c] w fun ev w' => ev = .returned (.bool true) ∧ Below w.heap.size w w' := by
  have hnm := Nat.le_trans h.le h.max_
  have hln := h.len
  have H := Fact.mk h
  have HF := Fact.mk hF
  have HG := Fact.mk hg
  have HG2 := Fact.mk hg2
  have HLN := Fact.mk hln
  clear h hF hg hln
  go_enter Tryd.func14, Tryd.ntmps14
  go_wp2_with (first
    | (go_at_call 44; refine (Awake_calls _).mono ?_; rintro e w1 ⟨rfl, hb⟩; have HB1 := Fact.mk hb; clear hb)
    | (go_at_call 45; fail))
  refine (New_calls w1).mono ?_
  rintro e w2 ⟨pb, mb, rfl, HP, HM, HW2, hb2⟩
  have HB2 : Fact (Below w.heap.size w w2) := ⟨HB1.out.trans (hb2.mono HB1.out.size)⟩
  have HPM : Fact (w.heap.size ≤ pb ∧ w.heap.size ≤ mb) := ⟨by have := HP.out; have := HM.out; have := HB1.out.size; omega⟩
  clear hb2 HP HM
  go_wp2_with fail
  go_loopg [4, 13] n (fun kq v4 v13 wr => ∃ (k N M : Nat) (D : DataW Unit), v4 = .int .u64 (M : Int) ∧ v13 = .int .i64 (k : Int) ∧ Fact (k + kq = n) ∧ Fact (M < 18446744073709551616) ∧ Fact (N ≤ k ∧ N ≤ 200) ∧ Fact (Ws wr pb mb N D) ∧ Fact (WInv D) ∧ Fact (∀ m, 1 ≤ m → m < 18446744073709551616 → hasB D m = true → m ≤ M) ∧ Fact (Below w.heap.size w wr))
  case atStart => exact ⟨0, 0, 0, .map [], rfl, rfl, ⟨by omega⟩, ⟨by decide⟩, ⟨by omega⟩, HW2, ⟨WInv.empty⟩, ⟨fun m h1 h2 h3 => by
    have : hasB (.map []) m = false := by unfold hasB; rw [show wd (.map []) ((m - 1) / 64) = 0 from rfl]; simp
    rw [this] at h3; cases h3⟩, HB2⟩
  case round =>
    obtain ⟨k, N, M, D, rfl, rfl, HK, HML, HN, HWS, HWI, HMM, HB⟩ := hrel
    have hkn := HK.out
    by_cases hlt : k < n
    · obtain ⟨p, hp⟩ : ∃ p, l[k]? = some p := ⟨_, List.getElem?_eq_getElem (by rw [HLN.out]; exact hlt)⟩
      obtain ⟨ad, rfl, hadF, hcell⟩ := act_at H.out hp
      have hadl := HF.out _ hadF
      have HCP : Fact (∀ (j : Nat) v, (acA p).toList[j]? = some v → wr.cell? ((ad.add (k * 3)).add j) = some v) := ⟨fun j v hj => (HB.out.cell (p := (ad.add (k * 3)).add j) (by rw [Lib.block_add, Lib.block_add]; exact hadl)).trans (hcell j v hj)⟩
      have HAI := Fact.mk (act_info p)
      have HRA : Fact ((wr.alloc (.cells zAc 91)).heap[wr.heap.size]? = some (.cells zAc 91 (0, 0))) := ⟨heap_alloc_new _ _⟩
      have HAZ : Fact (zAc.size = (acA p).size) := ⟨rfl⟩
      have HAO : Fact ((acA p).all (·.oneCell') = true) := ⟨acA_one p⟩
      have HB3 : Fact (Below w.heap.size w (wr.alloc (.cells (acA p) 91))) := ⟨HB.out.alloc HB.out.size _⟩
      have HR3 : Fact ((wr.alloc (.cells (acA p) 91)).heap[wr.heap.size]? = some (.cells (acA p) 91 (0, 0))) := ⟨heap_alloc_new _ _⟩
      have HW3 : Fact (Ws (wr.alloc (.cells (acA p) 91)) pb mb N D) := ⟨HWS.out.move (Below.heap_alloc _ _ _ HWS.out.lt.1) (Below.heap_alloc _ _ _ HWS.out.lt.2)⟩
      have HS3 : Fact (wr.heap.size < (wr.alloc (.cells (acA p) 91)).heap.size ∧ pb < wr.heap.size ∧ mb < wr.heap.size) := ⟨by simp, HWS.out.lt⟩
      clear hp hadF hcell
      by_cases h200 : k < 200
      · have h200z : (k : Int) < 200 := by omega
        go_upto_region 8 with (first
          | (refine wpList_ok rfl (exec_loadS rfl rfl HCP.out Tryd.underlying91 HAI.out) ?_)
          | (refine wpList_ok rfl (WordsE.exec_alloc rfl (alloc_ac _)) ?_)
          | (refine wpList_store_row rfl 91 (.tmp 6) (.tmp 17) rfl wr.heap.size (acA p) rfl rfl 91 zAc HRA.out HAI.out HAZ.out HAO.out ?_
             rw [World.setRow_alloc_new]))
        generalize wr.alloc (.cells (acA p) 91) = w3 at HB3 HR3 HW3 HS3 ⊢
        generalize wr.heap.size = hb at HR3 HS3 ⊢
        have z0 := SortA.rowc HR3.out (j := 0) (v := .int .u8 (p.1.toNat : Int)) rfl
        have z1 := SortA.rowc HR3.out (j := 1) (v := .int .u64 (p.2.1.toNat : Int)) rfl
        have z2 := SortA.rowc HR3.out (j := 2) (v := .bool p.2.2) rfl
        go_wp2_with (go_at_call 47; fail)
        refine (num_calls w3 p).mono ?_
        rintro e w4 ⟨rfl, hb4⟩
        obtain ⟨x, hx⟩ : ∃ x, numN p = x := ⟨_, rfl⟩
        have hxl : x < 18446744073709551616 := by rw [← hx]; exact numN_lt p
        have HX := Fact.mk hx
        rw [hx]
        have HB4 : Fact (Below w.heap.size w w4) := ⟨HB3.out.trans (hb4.mono HB3.out.size)⟩
        have HW4 : Fact (Ws w4 pb mb N D) := ⟨HW3.out.move (hb4.block _ HW3.out.lt.1) (hb4.block _ HW3.out.lt.2)⟩
        have HR4 : Fact (w4.heap[hb]? = some (.cells (acA p) 91 (0, 0))) := ⟨(hb4.block _ HS3.out.1).trans HR3.out⟩
        clear hb4 hx z0 z1 z2
        have hputc := Put_all w4 pb mb N D x HW4.out hxl (by have := HN.out; omega)
        obtain ⟨nb, hnb⟩ : ∃ nb, newB D x = nb := ⟨_, rfl⟩
        rw [hnb] at hputc
        have HNB := Fact.mk hnb
        have HPC := Fact.mk hputc
        clear hnb hputc
        have HIN : Fact (WInv (putD D x)) := ⟨inv_put HW4.out HWI.out hxl⟩
        cases nb with
        | true =>
          go_wp2_with (go_at_call 46; fail)
          refine HPC.out.mono ?_
          rintro e w5 ⟨rfl, N', hN', HW5, ht5⟩
          have HB5 : Fact (Below w.heap.size w w5) := ⟨Turned.move ht5 HB4.out HPM.out.2 HB4.out.size⟩
          have HR5 : Fact (w5.heap[hb]? = some (.cells (acA p) 91 (0, 0))) := ⟨(ht5.block _ (Array.getElem?_eq_some_iff.1 HR4.out).1 (by intro e; have := Option.some.inj e; have := HS3.out; omega)).trans HR4.out⟩
          have HN5 := Fact.mk hN'
          clear ht5 hN' HPC
          go_wp2_with (first
            | (refine wpList_load_row rfl 91 (.tmp 6) rfl hb rfl 91 (acA p) (0, 0) _ HR5.out Tryd.underlying91 rfl HAI.out ?_)
            | (go_at_call 47; fail))
          refine (num_calls w5 p).mono ?_
          rintro e w6 ⟨rfl, hb6⟩
          rw [HX.out]
          have HB6 : Fact (Below w.heap.size w w6) := ⟨HB5.out.trans (hb6.mono HB5.out.size)⟩
          have HW6 : Fact (Ws w6 pb mb N' (putD D x)) := ⟨HW5.out.move (hb6.block _ HW5.out.lt.1) (hb6.block _ HW5.out.lt.2)⟩
          clear hb6
          obtain ⟨Z, hZ⟩ : ∃ Z, max M x = Z := ⟨_, rfl⟩
          have m1 : max (M : Int) (x : Int) = (Z : Int) := by omega
          have m2 : (if (M : Int) < (x : Int) then (x : Int) else (M : Int)) = (Z : Int) := by split <;> omega
          have m3 : (if (x : Int) < (M : Int) then (M : Int) else (x : Int)) = (Z : Int) := by split <;> omega
          have m4 : (if M < x then (x : Int) else (M : Int)) = (Z : Int) := by split <;> omega
          have HMZ : Fact (∀ m, 1 ≤ m → m < 18446744073709551616 → hasB (putD D x) m = true → m ≤ Z) := ⟨fun m h1 h2 h3 => by
            rw [mem_put HWI.out h1] at h3
            simp only [Bool.or_eq_true, decide_eq_true_eq] at h3
            rcases h3 with h3 | h3
            · omega
            · have := HMM.out m h1 h2 h3; omega⟩
          have HZL : Fact (Z < 18446744073709551616) := ⟨by have := HML.out; omega⟩
          clear hZ
          go_wp2
          go_roundg (n - (k + 1))
          case measure => omega
          case rel => exact ⟨k + 1, N', Z, putD D x, rfl, by go_num, ⟨by omega⟩, HZL, ⟨by have := HN.out; have := HN5.out; omega⟩, HW6, HIN, HMZ, HB6⟩
        | false =>
          have HPD : Fact (putD D x = D) := ⟨by unfold putD; rw [HNB.out, if_neg (by decide)]⟩
          go_wp2_with (go_at_call 46; fail)
          refine HPC.out.mono ?_
          rintro e w5 ⟨rfl, N', hN', HW5, ht5⟩
          have HB5 : Fact (Below w.heap.size w w5) := ⟨Turned.move ht5 HB4.out HPM.out.2 HB4.out.size⟩
          have HN5 := Fact.mk hN'
          rw [HPD.out] at HW5
          clear ht5 hN' HPC
          go_wp2_with fail
          go_roundg (n - (k + 1))
          case measure => omega
          case rel => exact ⟨k + 1, N', M, D, rfl, by go_num, ⟨by omega⟩, HML, ⟨by have := HN.out; have := HN5.out; omega⟩, HW5, HWI, HMM, HB5⟩
      · have h200z : decide ((k : Int) < 200) = false := decide_eq_false (by omega)
        go_wp2_with (first
          | (refine wpList_ok rfl (exec_loadS rfl rfl HCP.out Tryd.underlying91 HAI.out) ?_)
          | (refine wpList_ok rfl (WordsE.exec_alloc rfl (alloc_ac _)) ?_)
          | (refine wpList_store_row rfl 91 (.tmp 6) (.tmp 17) rfl wr.heap.size (acA p) rfl rfl 91 zAc HRA.out HAI.out HAZ.out HAO.out ?_
             rw [World.setRow_alloc_new]))
        go_roundg (n - (k + 1))
        case measure => omega
        case rel => exact ⟨k + 1, N, M, D, rfl, by go_num, ⟨by omega⟩, HML, ⟨by have := HN.out; omega⟩, HW3, HWI, HMM, HB3⟩
    · have hsz := HWS.out.own.size_le
      have HGw : Fact (LaidB wr) := ⟨HG.out.below HB.out HG2.out⟩
      have HGl : Fact (2 < wr.heap.size) := ⟨Nat.lt_of_lt_of_le HG2.out HB.out.size⟩
      go_wp2_with (go_at_call 48; fail)
      refine (All_calls wr pb mb N D HWS.out HWI.out HGw.out HGl.out (by have := HN.out; omega)).mono ?_
      rintro e w7 ⟨⟨A7, c7, rfl, -⟩, hb7⟩
      have HW7 : Fact (Ws w7 pb mb N D) := ⟨HWS.out.move (hb7.block _ HWS.out.lt.1) (hb7.block _ HWS.out.lt.2)⟩
      have HB7 : Fact (Below w.heap.size w w7) := ⟨HB.out.trans (hb7.mono HB.out.size)⟩
      have hle := few_all HWS.out HWI.out
      have hmo := few_most HWS.out HWI.out HMM.out
      have hno : M = 0 → (allL D).length = 0 := fun e => by rw [few_none HWS.out HWI.out (by rw [← e]; exact HMM.out)]; rfl
      obtain ⟨q, hq⟩ : ∃ q, (allL D).length = q := ⟨_, rfl⟩
      obtain ⟨s, hs⟩ : ∃ s, Maps.size D = s := ⟨_, rfl⟩
      rw [hq] at hle hno ⊢
      rw [hs] at hle hmo hsz
      have hN2 := HN.out
      have HS := Fact.mk hs
      have hML := HML.out
      clear hq hs hb7
      have sq : (s : Int) ≤ (q : Int) := by omega
      have sqd : decide ((s : Int) ≤ (q : Int)) = true := decide_eq_true sq
      go_wp2_with (go_at_call 49; fail)
      refine (Len_calls' w7 pb mb N D s HW7.out HS.out).mono ?_
      rintro e w8 ⟨rfl, hq8⟩
      have HW8 : Fact (Ws w8 pb mb N D) := ⟨HW7.out.quiet hq8⟩
      have HB8 : Fact (Below w.heap.size w w8) := ⟨by obtain ⟨j, rfl⟩ := hq8; exact below_drewN' HB7.out j⟩
      clear hq8
      rcases Nat.eq_zero_or_pos M with hM0 | hM0
      · subst hM0
        have hq0 : q = 0 := hno rfl
        subst hq0
        go_wp2_with fail
        go_ret
        exact ⟨rfl, HB8.out⟩
      · have z0 : ((M : Int) == 0) = false := by simp; omega
        obtain ⟨t, ht⟩ : ∃ t, (M - 1) / 64 = t := ⟨_, rfl⟩
        have e0 : IntKind.u64.wrap (s : Int) = (s : Int) := by rw [IntKind.wrap_u64]; omega
        have e1 : IntKind.u64.wrap ((M : Int) - 1) = ((M - 1 : Nat) : Int) := by rw [IntKind.wrap_u64]; omega
        obtain ⟨M1, hM1⟩ : ∃ M1, M - 1 = M1 := ⟨_, rfl⟩
        rw [hM1] at e1 ht
        have e2 : (M1 : Int) / 64 = (t : Int) := by omega
        have e3 : ((M1 : Int)).tdiv 64 = (t : Int) := by rw [Int.tdiv_eq_ediv_of_nonneg (by omega)]; omega
        have e4 : IntKind.u64.wrap ((t : Int) + 1) = (t : Int) + 1 := by rw [IntKind.wrap_u64]; omega
        have e5 : (s : Int) ≤ (t : Int) + 1 := by rw [hM1, ht] at hmo; omega
        have e6 : (M : Int) - 1 = (M1 : Int) := by omega
        clear hmo hno ht hM1
        go_wp2_with (go_at_call 49; fail)
        refine (Len_calls' w8 pb mb N D s HW8.out HS.out).mono ?_
        rintro e w9 ⟨rfl, hq9⟩
        have HB9 : Fact (Below w.heap.size w w9) := ⟨by obtain ⟨j, rfl⟩ := hq9; exact below_drewN' HB8.out j⟩
        clear hq9
        go_wp2_with fail
        go_ret
        exact ⟨rfl, HB9.out⟩
end Go.Proofs.YtkmcjokoinoahaaDoor.LawWFew
