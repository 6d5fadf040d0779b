/- ferrymanref01.Parse, tlv.Unpack, ferrymanref01.Unpack: contracts over any world. -/
import Derived.Test.YtjjcjdefenbnjaaTlvC
set_option linter.unusedVariables false
set_option linter.unusedSimpArgs false
namespace Go.Proofs.Ytjjcjdefenbnjaa.TlvD
open Go.RowKit Go.Proofs.Ytjjcjdefenbnjaa.Lib Go.Proofs.Ytjjcjdefenbnjaa.TlvA Go.Proofs.Ytjjcjdefenbnjaa.TlvB Go.Proofs.Ytjjcjdefenbnjaa.TlvC

theorem lastT_lt (acc : List (UInt8 × List UInt8)) : -1 ≤ lastT acc ∧ lastT acc ≤ 255 := by
  unfold lastT
  split
  · rename_i t _ _
    have := u8_lt t
    omega
  · omega

set_option maxHeartbeats 2000000 in
set_option maxRecDepth 100000 in
theorem RParse_calls (w : World) (F : Nat → Prop) (A : Option Addr) (n c : Nat) (l : List UInt8) (h : Sl rU8 w F A n c l) (hF : ∀ k, F k → k < w.heap.size) (hn : n ≤ 4294967296) :
    Calls Try.prog 34 #[.slice A n c] w fun e w' => ∃ v, e = .returned (.tuple #[v, .int .i64 (parseG l (-1)).2]) ∧ Fact (OwX fld 47 w' w.heap.size v (parseG l (-1)).1) ∧ Below w.heap.size w w' := by
  have HF := Fact.mk hF
  have H := Fact.mk h
  have HX : Fact (parseG l (-1) = more [] (parseG l (lastT []))) := ⟨(more_nil _ (parseG_err _ _)).symm⟩
  have HBr := Fact.mk (Below.refl w.heap.size w)
  generalize parseG l (-1) = res at HX ⊢
  clear h hF
  go_enter Try.func34, Try.ntmps34
  go_wp2_with fail
  go_loopg [0, 4, 5] n (fun kq b out last wr => ∃ (A' : Option Addr) (n' c' : Nat) (l' : List UInt8) (acc : List (UInt8 × List UInt8)) (la : Int), b = .slice A' n' c' ∧ last = .int .i64 la ∧ Fact (la = lastT acc) ∧ Fact (n' ≤ kq) ∧ Fact (n' + acc.length ≤ n) ∧ Fact (Sl rU8 w F A' n' c' l') ∧ Fact (OwX fld 47 wr w.heap.size out acc) ∧ Fact (Below w.heap.size w wr) ∧ Fact (res = more acc (parseG l' (lastT acc))))
  case atStart => exact ⟨A, n, c, l, [], -1, rfl, rfl, ⟨rfl⟩, ⟨Nat.le_refl _⟩, ⟨by simp⟩, H, ⟨OwX.nil _ _ _ _⟩, HBr, HX⟩
  case round =>
    obtain ⟨A', n', c', l', acc, la, rfl, rfl, HLA, HK, HN, HS, HO, HB, HR⟩ := hrel
    obtain ⟨Ao, co, hvo, hso⟩ := HO.out.sl
    subst hvo
    match l', HS, HR with
    | [], HS, HR =>
      obtain rfl : n' = 0 := HS.out.len.symm
      go_wp2_with fail
      go_ret2
      refine ⟨_, by rw [HR.out, parseG_nil]; rfl, ⟨?_⟩, HB.out⟩
      rw [HR.out, parseG_nil]
      simpa [more] using HO.out
    | t :: r, HS, HR =>
      have hlen : r.length + 1 = n' := HS.out.len
      have hp : 0 < n' := by omega
      have hp' : (0 : Int) < n' := by omega
      obtain ⟨ad, rfl, hfa, hcell⟩ := HS.out.byte (i := 0) (b := t) rfl
      have hcell := cell0 hcell
      have hcell' : wr.cell? ad = some (.int .u8 (t.toNat : Int)) := (cell_same (HB.out.block _ (HF.out _ hfa))).trans hcell
      clear hcell
      obtain ⟨i, hi, hsz⟩ := u8_i
      obtain ⟨A2, hs1, hs2⟩ := slice_from (P := Try.prog) rU8 22 5 Try.underlying22 hi hsz (some ad) n' c' .i64 1 (by omega) (by omega)
      have HS2 : Fact (Sl rU8 wr F A2 (n' - 1) (c' - 1) r) := ⟨(hs2 HS.out).move (Same.of_below HB.out HF.out)⟩
      simp only [Int.reduceToNat] at hs1
      clear hs2 hi hsz hso
      have HL := Fact.mk hlen
      clear hlen
      cases hpc : pieceL r with
      | none =>
        have HPC := Fact.mk hpc
        clear hpc
        go_wp2_with (go_at_call 62; refine (rpiece_none _ F _ _ _ r HPC.out HS2.out).mono ?_; rintro e w' ⟨rfl, q, rfl⟩)
        go_ret2
        refine ⟨_, by rw [HR.out, parseG_none HPC.out]; rfl, ⟨?_⟩, below_drewN' HB.out _⟩
        rw [HR.out, parseG_none HPC.out]
        exact OwX.nil _ _ _ _
      | some x =>
        obtain ⟨v, rest⟩ := x
        have HPC := Fact.mk hpc
        clear hpc
        by_cases hv : v = []
        · subst hv
          have hz : (((([] : List UInt8).length : Nat) : Int) == 0) = true := rfl
          go_wp2_with (go_at_call 62; refine (rpiece_some _ F _ _ _ r [] rest HPC.out HS2.out).mono ?_; rintro e w' ⟨A3, c3, A4, c4, rfl, hs34, q, rfl⟩)
          go_ret2
          refine ⟨_, by rw [HR.out, parseG_some HPC.out]; rfl, ⟨?_⟩, below_drewN' HB.out _⟩
          rw [HR.out, parseG_some HPC.out]
          exact OwX.nil _ _ _ _
        · have hz : ((v.length : Int) == 0) = false := by simp; exact hv
          have hvp : 0 < v.length := List.length_pos_iff.2 hv
          have HV := Fact.mk hv
          clear hv
          have hvl := (piece_len HPC.out).1
          have haccl : acc.length ≤ 4294967296 := by have := HN.out; omega
          have ht := u8_lt t
          by_cases hle : (t.toNat : Int) ≤ la
          · have hle1 : decide ((t.toNat : Int) ≤ la) = true := decide_eq_true hle
            go_wp2_with (go_at_call 62; refine (rpiece_some _ F _ _ _ r v rest HPC.out HS2.out).mono ?_; rintro e w' ⟨A3, c3, A4, c4, rfl, hs34, q, rfl⟩)
            go_ret2
            have hx : parseG (t :: r) (lastT acc) = ([], 5) := by rw [parseG_some HPC.out, if_neg HV.out, if_pos (by rw [← HLA.out]; exact hle)]
            refine ⟨_, by rw [HR.out, hx]; rfl, ⟨?_⟩, below_drewN' HB.out _⟩
            rw [HR.out, hx]
            exact OwX.nil _ _ _ _
          · have hle1 : decide ((t.toNat : Int) ≤ la) = false := decide_eq_false hle
            have HLE := Fact.mk hle
            clear hle
            go_wp2_with (first
              | (go_at_call 62; refine (rpiece_some _ F _ _ _ r v rest HPC.out HS2.out).mono ?_; rintro e w2 ⟨A3, c3, A4, c4, rfl, hs34, q, hw⟩; have HW2 := quiet_below hw; clear hw)
              | (at_builtin
                 have HB3 : Fact (Below w.heap.size w w2) := ⟨HB.out.trans ((HW2.out _).mono HB.out.size)⟩
                 have HO3 : Fact (OwX fld 47 w2 w.heap.size _ _) := ⟨HO.out.below (HW2.out _)⟩
                 have HK3 : Fact (fld.K w2 (fun k => k < w2.heap.size ∧ some k ≠ (Value.slice Ao acc.length co).ownBlock) (t, v) [.int .u8 (t.toNat : Int), .slice A3 v.length c3]) := ⟨⟨[vu8 t], [.slice A3 v.length c3], rfl, rfl, A3, c3, rfl, by
                   refine (hs34.out.1.move (Same.of_below (HW2.out w.heap.size) HF.out)).mono ?_
                   intro k hk
                   have h1 := HF.out k hk
                   exact ⟨by have := HB3.out.size; omega, fun he => by have h2 := (HO3.out.lt k he.symm).1; omega⟩⟩⟩
                 refine wpList_pushX (w0 := w) fld w.heap.size rfl (.tmp 32) (.tmp 37) 45 47 (.agg #[.int .u8 0, .slice none 0 0]) 32 rfl Try.underlying45 info_fld rfl (by decide) (by decide) (Value.slice Ao acc.length co) acc (t, v) #[.int .u8 (t.toNat : Int), .slice A3 v.length c3] _ rfl rfl HO3.out HK3.out HB3.out HB3.out.size (by omega) ?_
                 intro v2 w4 ho4 hb4 hz4
                 have HO4 := Fact.mk ho4
                 have HB4 := Fact.mk hb4
                 clear ho4 hb4 hz4))
            have hl2 := (piece_len HPC.out).2
            go_roundg rest.length
            case measure => have := HK.out; have := HL.out; omega
            case rel => exact ⟨A4, rest.length, c4, rest, acc ++ [(t, v)], _, rfl, rfl, ⟨by rw [lastT_snoc]⟩, ⟨Nat.le_refl _⟩, ⟨by have h1 := HN.out; have h2 := HL.out; simp only [List.length_append, List.length_cons, List.length_nil]; omega⟩, ⟨hs34.out.2.move (fun k hk => (HB.out.block k (HF.out k hk)).symm)⟩, HO4, HB4, ⟨by rw [HR.out]; exact more_step acc HPC.out HV.out (by rw [← HLA.out]; have := HLE.out; omega)⟩⟩

/-- Pieces; an error's number. -/
def unpackG (l : List UInt8) : List (List UInt8) × Int :=
  match l with
  | [] => ([], 0)
  | t :: r =>
    match h : pieceL (t :: r) with
    | none => ([], 4)
    | some (v, rest) =>
        have : rest.length < (t :: r).length := by have := (piece_len h).2; omega
        let x := unpackG rest
        if x.2 = 0 then (v :: x.1, 0) else ([], x.2)
termination_by l.length
theorem unpackG_nil : unpackG [] = ([], 0) := by rw [unpackG]
theorem unpackG_none {l : List UInt8} (hl : l ≠ []) (h : pieceL l = none) : unpackG l = ([], 4) := by
  match l, hl with
  | t :: r, _ =>
    rw [unpackG]; split
    · rfl
    · rename_i h'; rw [h] at h'; cases h'
theorem unpackG_some {l v rest : List UInt8} (h : pieceL l = some (v, rest)) : unpackG l = if (unpackG rest).2 = 0 then (v :: (unpackG rest).1, 0) else ([], (unpackG rest).2) := by
  match l with
  | [] => cases h
  | t :: r =>
    rw [unpackG]; split
    · rename_i h'; rw [h] at h'; cases h'
    · rename_i v' rest' h'
      rw [h] at h'
      injection h' with h'
      injection h' with h1 h2
      subst h1 h2
      rfl
def moreP (acc : List (List UInt8)) (x : List (List UInt8) × Int) : List (List UInt8) × Int := if x.2 = 0 then (acc ++ x.1, 0) else ([], x.2)
theorem moreP_nil (l : List UInt8) : moreP [] (unpackG l) = unpackG l := by
  unfold moreP
  split
  · rename_i h0; rw [List.nil_append]; revert h0; generalize unpackG l = x; cases x; rintro ⟨⟩; rfl
  · rename_i h0
    match l with
    | [] => rw [unpackG_nil] at h0; simp at h0
    | t :: r =>
      cases h : pieceL (t :: r) with
      | none => rw [unpackG_none (by simp) h]
      | some x =>
        obtain ⟨v, rest⟩ := x
        rw [unpackG_some h] at h0 ⊢
        split
        · rename_i h1; rw [if_pos h1] at h0; simp at h0
        · rfl
theorem moreP_step (acc : List (List UInt8)) {l v rest : List UInt8} (h : pieceL l = some (v, rest)) : moreP acc (unpackG l) = moreP (acc ++ [v]) (unpackG rest) := by
  rw [unpackG_some h]
  unfold moreP
  by_cases h0 : (unpackG rest).2 = 0
  · rw [if_pos h0, if_pos rfl, if_pos h0]; simp
  · rw [if_neg h0, if_neg h0, if_neg h0]


set_option maxHeartbeats 2000000 in
set_option maxRecDepth 100000 in
theorem Unpack_calls (w : World) (F : Nat → Prop) (A : Option Addr) (n c : Nat) (l : List UInt8) (h : Sl rU8 w F A n c l) (hF : ∀ k, F k → k < w.heap.size) (hn : n ≤ 4294967296) :
    Calls Try.prog 37 #[.slice A n c] w fun e w' => ∃ v, e = .returned (.tuple #[v, .int .i64 (unpackG l).2]) ∧ Fact (OwX (Rep.slice rU8) 22 w' w.heap.size v (unpackG l).1) ∧ Below w.heap.size w w' := by
  have HF := Fact.mk hF
  have H := Fact.mk h
  have HX : Fact (unpackG l = moreP [] (unpackG l)) := ⟨(moreP_nil l).symm⟩
  have HBr := Fact.mk (Below.refl w.heap.size w)
  have HX' : Fact (∀ res, res = unpackG l → res = moreP [] (unpackG l)) := ⟨fun _ h => h.trans HX.out⟩
  obtain ⟨res, hres⟩ : ∃ res, res = unpackG l := ⟨_, rfl⟩
  rw [← hres]
  have HX := Fact.mk (HX'.out res hres)
  clear h hF HX' hres
  go_enter Try.func37, Try.ntmps37
  go_wp2_with fail
  go_loopg [0, 4] n (fun kq b out wr => ∃ (A' : Option Addr) (n' c' : Nat) (l' : List UInt8) (acc : List (List UInt8)), b = .slice A' n' c' ∧ Fact (n' ≤ kq) ∧ Fact (n' + acc.length ≤ n) ∧ Fact (Sl rU8 w F A' n' c' l') ∧ Fact (OwX (Rep.slice rU8) 22 wr w.heap.size out acc) ∧ Fact (Below w.heap.size w wr) ∧ Fact (res = moreP acc (unpackG l')))
  case atStart => exact ⟨A, n, c, l, [], rfl, ⟨Nat.le_refl _⟩, ⟨by simp⟩, H, ⟨OwX.nil _ _ _ _⟩, HBr, HX⟩
  case round =>
    obtain ⟨A', n', c', l', acc, rfl, HK, HN, HS, HO, HB, HR⟩ := hrel
    obtain ⟨Ao, co, hvo, hso⟩ := HO.out.sl
    subst hvo
    clear hso
    by_cases hl : l' = []
    · subst hl
      obtain rfl : n' = 0 := HS.out.len.symm
      go_wp2_with fail
      go_ret2
      refine ⟨_, by rw [HR.out, unpackG_nil]; rfl, ⟨?_⟩, HB.out⟩
      rw [HR.out, unpackG_nil]
      simpa [moreP] using HO.out
    · have hlen : l'.length = n' := HS.out.len
      have hp : 0 < n' := by rw [← hlen]; exact List.length_pos_iff.2 hl
      have hp' : (0 : Int) < n' := by omega
      have HS2 : Fact (Sl rU8 wr F A' n' c' l') := ⟨HS.out.move (Same.of_below HB.out HF.out)⟩
      have HL := Fact.mk hlen
      have HNE := Fact.mk hl
      clear hlen hl
      cases hpc : pieceL l' with
      | none =>
        have HPC := Fact.mk hpc
        clear hpc
        go_wp2_with (go_at_call 61; refine (piece_none _ F _ _ _ l' HPC.out HS2.out).mono ?_; rintro e w' ⟨rfl, q, rfl⟩)
        go_ret2
        refine ⟨_, by rw [HR.out, unpackG_none HNE.out HPC.out]; rfl, ⟨?_⟩, below_drewN' HB.out _⟩
        rw [HR.out, unpackG_none HNE.out HPC.out]
        exact OwX.nil _ _ _ _
      | some x =>
        obtain ⟨v, rest⟩ := x
        have HPC := Fact.mk hpc
        clear hpc
        have hvl := (piece_len HPC.out).1
        have haccl : acc.length ≤ 4294967296 := by have := HN.out; omega
        go_wp2_with (first
          | (go_at_call 61; refine (piece_some _ F _ _ _ l' v rest HPC.out HS2.out).mono ?_; rintro e w2 ⟨A3, c3, A4, c4, rfl, hs34, q, hw⟩; have HW2 := quiet_below hw; clear hw)
          | (at_builtin
             refine wpList_app rU8 (w0 := w2) w2.heap.size rfl (.tmp 21) (.tmp 22) 22 5 (.int .u8 0) 1 rfl Try.underlying22 info_u8 rfl (by decide) (by decide) (fun _ => False) F (.slice (some ⟨w2.heap.size, 0, none⟩) 0 0) [] v A3 v.length c3 rfl rfl
               (Ow.litB (xs := []) w2 w2.heap.size _ (Nat.le_refl _) rfl rfl (by omega)) (hs34.out.1.move (sameF HF HB (HW2.out _) (below_alloc' (Below.refl _ _) (Nat.le_refl _) _))) ((Below.refl _ _).alloc (Nat.le_refl _) _) (by simp) (by simp; omega) (fun _ h => h.elim) (fun _ _ h => h) ?_
             intro v1 w3 ho1 hb1 hg1 hat1
             obtain ⟨A5, c5, hv1, hs5⟩ := ho1.sl
             have HO3 : Fact (OwX (Rep.slice rU8) 22 w3 w.heap.size _ _) := ⟨(HO.out.below (HW2.out _)).below hb1⟩
             have HB3 : Fact (Below w.heap.size w w3) := ⟨(HB.out.trans (HW2.out _)).trans (hb1.mono (Nat.le_trans HB.out.size (HW2.out 0).size))⟩
             have HK3 : Fact ((Rep.slice rU8).K w3 (fun k => k < w3.heap.size ∧ some k ≠ (Value.slice Ao acc.length co).ownBlock) v [.slice A5 v.length c5]) := ⟨⟨A5, c5, rfl, by
               refine hs5.mono ?_
               rintro k (hk | hk)
               · exact hk.elim
               · have h1 := ho1.lt k hk
                 exact ⟨h1.2, fun he => by have h2 := ((HO.out.below (HW2.out _)).lt k he.symm).2; omega⟩⟩⟩
             simp only [List.nil_append] at hv1
             subst hv1
             clear ho1 hb1 hg1 hat1 hs5)
          | (at_builtin
             refine wpList_pushX (w0 := w) (Rep.slice rU8) w.heap.size rfl (.tmp 20) (.tmp 24) 49 22 (.slice none 0 0) 24 rfl Try.underlying49 info_sl rfl (by decide) (by decide) (Value.slice Ao acc.length co) acc v #[.slice A5 v.length c5] _ rfl rfl HO3.out HK3.out HB3.out HB3.out.size (by omega) ?_
             intro v2 w4 ho4 hb4 hz4
             have HO4 := Fact.mk ho4
             have HB4 := Fact.mk hb4
             clear ho4 hb4 hz4))
        have hl2 := (piece_len HPC.out).2
        go_roundg rest.length
        case measure => have := HK.out; have := HL.out; omega
        case rel => exact ⟨A4, rest.length, c4, rest, acc ++ [v], rfl, ⟨Nat.le_refl _⟩, ⟨by have h1 := HN.out; have h2 := HL.out; simp only [List.length_append, List.length_cons, List.length_nil]; omega⟩, ⟨hs34.out.2.move (fun k hk => (HB.out.block k (HF.out k hk)).symm)⟩, HO4, HB4, ⟨by rw [HR.out]; exact moreP_step acc HPC.out⟩⟩

set_option maxHeartbeats 2000000 in
set_option maxRecDepth 100000 in
theorem RUnpack_calls (w : World) (F : Nat → Prop) (A : Option Addr) (n c : Nat) (l : List UInt8) (h : Sl rU8 w F A n c l) (hF : ∀ k, F k → k < w.heap.size) (hn : n ≤ 4294967296) :
    Calls Try.prog 40 #[.slice A n c] w fun e w' => ∃ v, e = .returned (.tuple #[v, .int .i64 (unpackG l).2]) ∧ Fact (OwX (Rep.slice rU8) 22 w' w.heap.size v (unpackG l).1) ∧ Below w.heap.size w w' := by
  have HF := Fact.mk hF
  have H := Fact.mk h
  have HX : Fact (unpackG l = moreP [] (unpackG l)) := ⟨(moreP_nil l).symm⟩
  have HBr := Fact.mk (Below.refl w.heap.size w)
  have HX' : Fact (∀ res, res = unpackG l → res = moreP [] (unpackG l)) := ⟨fun _ h => h.trans HX.out⟩
  obtain ⟨res, hres⟩ : ∃ res, res = unpackG l := ⟨_, rfl⟩
  rw [← hres]
  have HX := Fact.mk (HX'.out res hres)
  clear h hF HX' hres
  go_enter Try.func40, Try.ntmps40
  go_wp2_with fail
  go_loopg [0, 4] n (fun kq b out wr => ∃ (A' : Option Addr) (n' c' : Nat) (l' : List UInt8) (acc : List (List UInt8)), b = .slice A' n' c' ∧ Fact (n' ≤ kq) ∧ Fact (n' + acc.length ≤ n) ∧ Fact (Sl rU8 w F A' n' c' l') ∧ Fact (OwX (Rep.slice rU8) 22 wr w.heap.size out acc) ∧ Fact (Below w.heap.size w wr) ∧ Fact (res = moreP acc (unpackG l')))
  case atStart => exact ⟨A, n, c, l, [], rfl, ⟨Nat.le_refl _⟩, ⟨by simp⟩, H, ⟨OwX.nil _ _ _ _⟩, HBr, HX⟩
  case round =>
    obtain ⟨A', n', c', l', acc, rfl, HK, HN, HS, HO, HB, HR⟩ := hrel
    obtain ⟨Ao, co, hvo, hso⟩ := HO.out.sl
    subst hvo
    clear hso
    by_cases hl : l' = []
    · subst hl
      obtain rfl : n' = 0 := HS.out.len.symm
      go_wp2_with fail
      go_ret2
      refine ⟨_, by rw [HR.out, unpackG_nil]; rfl, ⟨?_⟩, HB.out⟩
      rw [HR.out, unpackG_nil]
      simpa [moreP] using HO.out
    · have hlen : l'.length = n' := HS.out.len
      have hp : 0 < n' := by rw [← hlen]; exact List.length_pos_iff.2 hl
      have hp' : (0 : Int) < n' := by omega
      have HS2 : Fact (Sl rU8 wr F A' n' c' l') := ⟨HS.out.move (Same.of_below HB.out HF.out)⟩
      have HL := Fact.mk hlen
      have HNE := Fact.mk hl
      clear hlen hl
      cases hpc : pieceL l' with
      | none =>
        have HPC := Fact.mk hpc
        clear hpc
        go_wp2_with (go_at_call 62; refine (rpiece_none _ F _ _ _ l' HPC.out HS2.out).mono ?_; rintro e w' ⟨rfl, q, rfl⟩)
        go_ret2
        refine ⟨_, by rw [HR.out, unpackG_none HNE.out HPC.out]; rfl, ⟨?_⟩, below_drewN' HB.out _⟩
        rw [HR.out, unpackG_none HNE.out HPC.out]
        exact OwX.nil _ _ _ _
      | some x =>
        obtain ⟨v, rest⟩ := x
        have HPC := Fact.mk hpc
        clear hpc
        have hvl := (piece_len HPC.out).1
        have haccl : acc.length ≤ 4294967296 := by have := HN.out; omega
        go_wp2_with (first
          | (go_at_call 62; refine (rpiece_some _ F _ _ _ l' v rest HPC.out HS2.out).mono ?_; rintro e w2 ⟨A3, c3, A4, c4, rfl, hs34, q, hw⟩; have HW2 := quiet_below hw; clear hw)
          | (at_builtin
             have HB3 : Fact (Below w.heap.size w w2) := ⟨HB.out.trans ((HW2.out _).mono HB.out.size)⟩
             have HO3 : Fact (OwX (Rep.slice rU8) 22 w2 w.heap.size _ _) := ⟨HO.out.below (HW2.out _)⟩
             have HK3 : Fact ((Rep.slice rU8).K w2 (fun k => k < w2.heap.size ∧ some k ≠ (Value.slice Ao acc.length co).ownBlock) v [.slice A3 v.length c3]) := ⟨⟨A3, c3, rfl, by
               refine (hs34.out.1.move (Same.of_below (HW2.out w.heap.size) HF.out)).mono ?_
               intro k hk
               have h1 := HF.out k hk
               exact ⟨by have := HB3.out.size; omega, fun he => by have h2 := (HO3.out.lt k he.symm).1; omega⟩⟩⟩
             refine wpList_pushX (w0 := w) (Rep.slice rU8) w.heap.size rfl (.tmp 19) (.tmp 21) 49 22 (.slice none 0 0) 24 rfl Try.underlying49 info_sl rfl (by decide) (by decide) (Value.slice Ao acc.length co) acc v #[.slice A3 v.length c3] _ rfl rfl HO3.out HK3.out HB3.out HB3.out.size (by omega) ?_
             intro v2 w4 ho4 hb4 hz4
             have HO4 := Fact.mk ho4
             have HB4 := Fact.mk hb4
             clear ho4 hb4 hz4))
        have hl2 := (piece_len HPC.out).2
        go_roundg rest.length
        case measure => have := HK.out; have := HL.out; omega
        case rel => exact ⟨A4, rest.length, c4, rest, acc ++ [v], rfl, ⟨Nat.le_refl _⟩, ⟨by have h1 := HN.out; have h2 := HL.out; simp only [List.length_append, List.length_cons, List.length_nil]; omega⟩, ⟨hs34.out.2.move (fun k hk => (HB.out.block k (HF.out k hk)).symm)⟩, HO4, HB4, ⟨by rw [HR.out]; exact moreP_step acc HPC.out⟩⟩
end Go.Proofs.Ytjjcjdefenbnjaa.TlvD
