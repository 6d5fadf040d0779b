/- tlv.Parse, ferrymanref01.Parse, tlv.Unpack, ferrymanref01.Unpack: contracts over any world. -/
import Derived.Test.YtjjcjdefenbnjaaTlvB
set_option linter.unusedVariables false
set_option linter.unusedSimpArgs false
namespace Go.Proofs.Ytjjcjdefenbnjaa.TlvC
open Go.RowKit Go.Proofs.Ytjjcjdefenbnjaa.Lib Go.Proofs.Ytjjcjdefenbnjaa.TlvA Go.Proofs.Ytjjcjdefenbnjaa.TlvB

def fld : Rep (UInt8 × List UInt8) := Rep.pair rU8 (Rep.slice rU8)
theorem info_fld : (Try.prog.info? 47).map (fun i => (i.zero, i.size, i.bytes)) = some (some (.agg #[.int .u8 0, .slice none 0 0]), 2, 32) := by kernel_rfl
theorem info_sl : (Try.prog.info? 22).map (fun i => (i.zero, i.size, i.bytes)) = some (some (.slice none 0 0), 1, 24) := by kernel_rfl

/-- Fields whose tags rise, from one tag on; an error's number. -/
def parseG (l : List UInt8) (last : Int) : List (UInt8 × List UInt8) × Int :=
  match l with
  | [] => ([], 0)
  | t :: r =>
    match h : pieceL r with
    | none => ([], 4)
    | some (v, rest) =>
      if v = [] then ([], 6) else if (t.toNat : Int) ≤ last then ([], 5) else
        have : rest.length < (t :: r).length := by have := (piece_len h).2; simp; omega
        let x := parseG rest t.toNat
        if x.2 = 0 then ((t, v) :: x.1, 0) else ([], x.2)
termination_by l.length
theorem parseG_nil (last : Int) : parseG [] last = ([], 0) := by rw [parseG]
theorem parseG_none {t : UInt8} {r : List UInt8} {last : Int} (h : pieceL r = none) : parseG (t :: r) last = ([], 4) := by
  rw [parseG]; split
  · rfl
  · rename_i h'; rw [h] at h'; cases h'
theorem parseG_some {t : UInt8} {r v rest : List UInt8} {last : Int} (h : pieceL r = some (v, rest)) :
    parseG (t :: r) last = if v = [] then ([], 6) else if (t.toNat : Int) ≤ last then ([], 5) else if (parseG rest t.toNat).2 = 0 then ((t, v) :: (parseG rest t.toNat).1, 0) else ([], (parseG rest t.toNat).2) := by
  rw [parseG]; split
  · rename_i h'; rw [h] at h'; cases h'
  · rename_i v' rest' h'
    rw [h] at h'
    injection h' with h'
    injection h' with h1 h2
    subst h1 h2
    rfl
/-- What is still to come, behind what has been read. -/
def more (acc : List (UInt8 × List UInt8)) (x : List (UInt8 × List UInt8) × Int) : List (UInt8 × List UInt8) × Int := if x.2 = 0 then (acc ++ x.1, 0) else ([], x.2)
/-- The last tag; -1 of none. -/
def lastT (acc : List (UInt8 × List UInt8)) : Int := match acc.getLast? with | some (t, _) => (t.toNat : Int) | none => -1
theorem lastT_snoc (acc : List (UInt8 × List UInt8)) (t : UInt8) (v : List UInt8) : lastT (acc ++ [(t, v)]) = t.toNat := by simp [lastT]
theorem more_nil (x : List (UInt8 × List UInt8) × Int) (h : x.2 ≠ 0 → x.1 = []) : more [] x = x := by
  unfold more
  split
  · rename_i h0; rw [List.nil_append]; cases x; simp at h0; subst h0; rfl
  · rename_i h0; cases x; simp at h0 h; simp [h h0]
theorem parseG_err (l : List UInt8) (last : Int) : (parseG l last).2 ≠ 0 → (parseG l last).1 = [] := by
  match l with
  | [] => rw [parseG_nil]; simp
  | t :: r =>
    cases h : pieceL r with
    | none => rw [parseG_none h]; simp
    | some x =>
      obtain ⟨v, rest⟩ := x
      rw [parseG_some h]
      repeat' split
      all_goals simp
theorem more_step (acc : List (UInt8 × List UInt8)) {t : UInt8} {r v rest : List UInt8} (h : pieceL r = some (v, rest)) (hv : v ≠ []) (ht : ¬ (t.toNat : Int) ≤ lastT acc) :
    more acc (parseG (t :: r) (lastT acc)) = more (acc ++ [(t, v)]) (parseG rest (lastT (acc ++ [(t, v)]))) := by
  rw [lastT_snoc, parseG_some h, if_neg hv, if_neg ht]
  unfold more
  by_cases h0 : (parseG rest t.toNat).2 = 0
  · rw [if_pos h0, if_pos rfl, if_pos h0]; simp
  · rw [if_neg h0, if_neg h0, if_neg h0]

theorem sameF {w wr w2 w3 : World} {F : Nat → Prop} (HF : Fact (∀ k, F k → k < w.heap.size)) (HB : Fact (Below w.heap.size w wr)) (h2 : Below wr.heap.size wr w2) (h3 : Below w2.heap.size w2 w3) : Same F wr w3 := fun k hk =>
  ((h3.block k (by have := HF.out k hk; have := HB.out.size; have := h2.size; omega)).trans (h2.block k (by have := HF.out k hk; have := HB.out.size; omega)))
set_option maxHeartbeats 2000000 in
set_option maxRecDepth 100000 in
theorem Parse_calls (w : World) (F : Nat → Prop) (A : Option Addr) (n c : Nat) (l : List UInt8) (h : Sl rU8 w F A n c l) (hF : ∀ k, F k → k < w.heap.size) (hn : n ≤ 4294967296) :
    Calls Try.prog 33 #[.slice A n c] w fun e w' => ∃ v, e = .returned (.tuple #[v, .int .i64 (parseG l (-1)).2]) ∧ Fact (OwX fld 47 w' w.heap.size v (parseG l (-1)).1) ∧ Below w.heap.size w w' := by
  have HF := Fact.mk hF
  have H := Fact.mk h
  have HX : Fact (parseG l (-1) = more [] (parseG l (lastT []))) := ⟨(more_nil _ (parseG_err _ _)).symm⟩
  have HBr := Fact.mk (Below.refl w.heap.size w)
  generalize parseG l (-1) = res at HX ⊢
  clear h hF
  go_enter Try.func33, Try.ntmps33
  go_wp2_with fail
  go_loopg [0, 4] n (fun kq b out wr => ∃ (A' : Option Addr) (n' c' : Nat) (l' : List UInt8) (acc : List (UInt8 × List UInt8)), b = .slice A' n' c' ∧ Fact (n' ≤ kq) ∧ Fact (n' + acc.length ≤ n) ∧ Fact (Sl rU8 w F A' n' c' l') ∧ Fact (OwX fld 47 wr w.heap.size out acc) ∧ Fact (Below w.heap.size w wr) ∧ Fact (res = more acc (parseG l' (lastT acc))))
  case atStart => exact ⟨A, n, c, l, [], rfl, ⟨Nat.le_refl _⟩, ⟨by simp⟩, H, ⟨OwX.nil _ _ _ _⟩, HBr, HX⟩
  case round =>
    obtain ⟨A', n', c', l', acc, rfl, HK, HN, HS, HO, HB, HR⟩ := hrel
    obtain ⟨Ao, co, rfl, hso⟩ := HO.out.sl
    match l', HS, HR with
    | [], HS, HR =>
      obtain rfl : n' = 0 := HS.out.len.symm
      go_wp2_with fail
      go_ret2
      refine ⟨_, by rw [HR.out, parseG_nil]; rfl, ⟨?_⟩, HB.out⟩
      rw [HR.out, parseG_nil]
      simpa [more] using HO.out
    | t :: r, HS, HR =>
      have hlen : r.length + 1 = n' := HS.out.len
      have hp : 0 < n' := by omega
      have hp' : (0 : Int) < n' := by omega
      obtain ⟨ad, rfl, hfa, hcell⟩ := HS.out.byte (i := 0) (b := t) rfl
      have hcell := cell0 hcell
      have hcell' : wr.cell? ad = some (.int .u8 (t.toNat : Int)) := (cell_same (HB.out.block _ (HF.out _ hfa))).trans hcell
      clear hcell
      obtain ⟨i, hi, hsz⟩ := u8_i
      obtain ⟨A2, hs1, hs2⟩ := slice_from (P := Try.prog) rU8 22 5 Try.underlying22 hi hsz (some ad) n' c' .i64 1 (by omega) (by omega)
      have HS2 : Fact (Sl rU8 wr F A2 (n' - 1) (c' - 1) r) := ⟨(hs2 HS.out).move (Same.of_below HB.out HF.out)⟩
      simp only [Int.reduceToNat] at hs1
      clear hs2 hi hsz
      have HL := Fact.mk hlen
      clear hlen
      have HP : Fact (pieceL r = pieceL r) := ⟨rfl⟩
      cases hpc : pieceL r with
      | none =>
        have HPC := Fact.mk hpc
        clear hpc HP
        go_wp2_with (go_at_call 61; refine (piece_none _ F _ _ _ r HPC.out HS2.out).mono ?_; rintro e w' ⟨rfl, q, rfl⟩)
        go_ret2
        refine ⟨_, by rw [HR.out, parseG_none HPC.out]; rfl, ⟨?_⟩, below_drewN' HB.out _⟩
        rw [HR.out, parseG_none HPC.out]
        exact OwX.nil _ _ _ _
      | some x =>
        obtain ⟨v, rest⟩ := x
        have HPC := Fact.mk hpc
        clear hpc HP
        by_cases hv : v = []
        · subst hv
          have hz : (((([] : List UInt8).length : Nat) : Int) == 0) = true := rfl
          go_wp2_with (go_at_call 61; refine (piece_some _ F _ _ _ r [] rest HPC.out HS2.out).mono ?_; rintro e w' ⟨A3, c3, A4, c4, rfl, hs34, q, rfl⟩)
          go_ret2
          refine ⟨_, by rw [HR.out, parseG_some HPC.out]; rfl, ⟨?_⟩, below_drewN' HB.out _⟩
          rw [HR.out, parseG_some HPC.out]
          exact OwX.nil _ _ _ _
        · have hz : ((v.length : Int) == 0) = false := by simp; exact hv
          have hvp : 0 < v.length := List.length_pos_iff.2 hv
          have HV := Fact.mk hv
          clear hv
          have hvl := (piece_len HPC.out).1
          have haccl : acc.length ≤ 4294967296 := by have := HN.out; omega
          rcases List.eq_nil_or_concat acc with rfl | ⟨acc0, ⟨t0, v0⟩, rfl⟩
          · go_wp2_with (first
              | (go_at_call 61; refine (piece_some _ F _ _ _ r v rest HPC.out HS2.out).mono ?_; rintro e w2 ⟨A3, c3, A4, c4, rfl, hs34, q, hw⟩; have HW2 := quiet_below hw; clear hw)
              | (at_builtin
                 refine wpList_app rU8 (w0 := w2) w2.heap.size rfl (.tmp 47) (.tmp 48) 22 5 (.int .u8 0) 1 rfl Try.underlying22 info_u8 rfl (by decide) (by decide) (fun _ => False) F (.slice (some ⟨w2.heap.size, 0, none⟩) 0 0) [] v A3 v.length c3 rfl rfl
                   (Ow.litB (xs := []) w2 w2.heap.size _ (Nat.le_refl _) rfl rfl (by omega)) (hs34.out.1.move (sameF HF HB (HW2.out _) (below_alloc' (Below.refl _ _) (Nat.le_refl _) _))) ((Below.refl _ _).alloc (Nat.le_refl _) _) (by simp) (by simp; omega) (fun _ h => h.elim) (fun _ _ h => h) ?_
                 intro v1 w3 ho1 hb1 hg1 hat1
                 obtain ⟨A5, c5, hv1, hs5⟩ := ho1.sl
                 have HO3 : Fact (OwX fld 47 w3 w.heap.size _ _) := ⟨(HO.out.below (HW2.out _)).below hb1⟩
                 have HB3 : Fact (Below w.heap.size w w3) := ⟨(HB.out.trans (HW2.out _)).trans (hb1.mono (Nat.le_trans HB.out.size (HW2.out 0).size))⟩
                 have HK3 : Fact (fld.K w3 (fun k => k < w3.heap.size ∧ some k ≠ (Value.slice Ao 0 co).ownBlock) (t, v) [.int .u8 (t.toNat : Int), .slice A5 v.length c5]) := ⟨⟨[vu8 t], [.slice A5 v.length c5], rfl, rfl, A5, c5, rfl, by
                   refine hs5.mono ?_
                   rintro k (hk | hk)
                   · exact hk.elim
                   · have h1 := ho1.lt k hk
                     exact ⟨h1.2, fun he => by have h2 := ((HO.out.below (HW2.out _)).lt k he.symm).2; omega⟩⟩⟩
                 simp only [List.nil_append] at hv1
                 subst hv1
                 clear ho1 hb1 hg1 hat1 hs5)
              | (at_builtin
                 refine wpList_pushX (w0 := w) fld w.heap.size rfl (.tmp 45) (.tmp 51) 45 47 (.agg #[.int .u8 0, .slice none 0 0]) 32 rfl Try.underlying45 info_fld rfl (by decide) (by decide) ((Value.slice Ao 0 co)) ([] : List (UInt8 × List UInt8)) (t, v) #[.int .u8 (t.toNat : Int), .slice A5 v.length c5] _ rfl rfl HO3.out HK3.out HB3.out HB3.out.size (by simp only [List.length_nil, List.length_append, List.length_cons]; omega) ?_
                 intro v2 w4 ho4 hb4 hz4
                 have HO4 := Fact.mk ho4
                 have HB4 := Fact.mk hb4
                 clear ho4 hb4 hz4))
            have hl2 := (piece_len HPC.out).2
            go_roundg rest.length
            case measure => have := HK.out; have := HL.out; omega
            case rel => exact ⟨A4, rest.length, c4, rest, ([] : List (UInt8 × List UInt8)) ++ [(t, v)], rfl, ⟨Nat.le_refl _⟩, ⟨by have h1 := HN.out; have h2 := HL.out; simp only [List.length_nil, List.length_append, List.length_cons] at h1 ⊢; omega⟩, ⟨hs34.out.2.move (fun k hk => (HB.out.block k (HF.out k hk)).symm)⟩, HO4, HB4, ⟨by rw [HR.out]; exact more_step ([] : List (UInt8 × List UInt8)) HPC.out HV.out (by rw [show lastT [] = -1 from rfl]; omega)⟩⟩
          · rw [List.concat_eq_append] at *
            obtain ⟨ad0, cs0, rfl, hf0, ⟨c0, d0, rfl, hk0, hk0'⟩, hcell0⟩ := hso.at_ (i := acc0.length) (x := (t0, v0)) (by simp)
            have hc0 : wr.cell? (ad0.add (acc0.length * 2)) = some (.int .u8 (t0.toNat : Int)) := hcell0 0 (vu8 t0) (by rw [show c0 = [vu8 t0] from hk0]; rfl)
            clear hcell0 hk0 hk0' hso
            simp only [List.length_append, List.length_cons, List.length_nil, Nat.zero_add] at haccl HO
            by_cases hle : t.toNat ≤ t0.toNat
            · have hle1 : decide (t.toNat ≤ t0.toNat) = true := decide_eq_true hle
              go_wp2_with (go_at_call 61; refine (piece_some _ F _ _ _ r v rest HPC.out HS2.out).mono ?_; rintro e w2 ⟨A3, c3, A4, c4, rfl, hs34, q, rfl⟩)
              go_ret2
              have hx : parseG (t :: r) (lastT (acc0 ++ [(t0, v0)])) = ([], 5) := by rw [lastT_snoc, parseG_some HPC.out, if_neg HV.out, if_pos (by omega)]
              refine ⟨_, by rw [HR.out, hx]; rfl, ⟨?_⟩, below_drewN' HB.out _⟩
              rw [HR.out, hx]
              exact OwX.nil _ _ _ _
            · have hle1 : decide (t.toNat ≤ t0.toNat) = false := decide_eq_false hle
              go_wp2_with (first
                | (go_at_call 61; refine (piece_some _ F _ _ _ r v rest HPC.out HS2.out).mono ?_; rintro e w2 ⟨A3, c3, A4, c4, rfl, hs34, q, hw⟩; have HW2 := quiet_below hw; clear hw; have hc2 : w2.cell? (ad0.add (acc0.length * 2)) = some (.int .u8 (t0.toNat : Int)) := (cell_same ((HW2.out _).block _ (by rw [block_add]; exact hf0))).trans hc0)
                | (at_builtin
                   refine wpList_app rU8 (w0 := w2) w2.heap.size rfl (.tmp 47) (.tmp 48) 22 5 (.int .u8 0) 1 rfl Try.underlying22 info_u8 rfl (by decide) (by decide) (fun _ => False) F (.slice (some ⟨w2.heap.size, 0, none⟩) 0 0) [] v A3 v.length c3 rfl rfl
                     (Ow.litB (xs := []) w2 w2.heap.size _ (Nat.le_refl _) rfl rfl (by omega)) (hs34.out.1.move (sameF HF HB (HW2.out _) (below_alloc' (Below.refl _ _) (Nat.le_refl _) _))) ((Below.refl _ _).alloc (Nat.le_refl _) _) (by simp) (by simp; omega) (fun _ h => h.elim) (fun _ _ h => h) ?_
                   intro v1 w3 ho1 hb1 hg1 hat1
                   obtain ⟨A5, c5, hv1, hs5⟩ := ho1.sl
                   have HO3 : Fact (OwX fld 47 w3 w.heap.size _ _) := ⟨(HO.out.below (HW2.out _)).below hb1⟩
                   have HB3 : Fact (Below w.heap.size w w3) := ⟨(HB.out.trans (HW2.out _)).trans (hb1.mono (Nat.le_trans HB.out.size (HW2.out 0).size))⟩
                   have HK3 : Fact (fld.K w3 (fun k => k < w3.heap.size ∧ some k ≠ (Value.slice (some ad0) (acc0.length + 1) co).ownBlock) (t, v) [.int .u8 (t.toNat : Int), .slice A5 v.length c5]) := ⟨⟨[vu8 t], [.slice A5 v.length c5], rfl, rfl, A5, c5, rfl, by
                     refine hs5.mono ?_
                     rintro k (hk | hk)
                     · exact hk.elim
                     · have h1 := ho1.lt k hk
                       exact ⟨h1.2, fun he => by have h2 := ((HO.out.below (HW2.out _)).lt k he.symm).2; omega⟩⟩⟩
                   simp only [List.nil_append] at hv1
                   subst hv1
                   clear ho1 hb1 hg1 hat1 hs5)
                | (at_builtin
                   refine wpList_pushX (w0 := w) fld w.heap.size rfl (.tmp 45) (.tmp 51) 45 47 (.agg #[.int .u8 0, .slice none 0 0]) 32 rfl Try.underlying45 info_fld rfl (by decide) (by decide) ((Value.slice (some ad0) (acc0.length + 1) co)) (acc0 ++ [(t0, v0)]) (t, v) #[.int .u8 (t.toNat : Int), .slice A5 v.length c5] _ rfl rfl HO3.out HK3.out HB3.out HB3.out.size (by simp only [List.length_nil, List.length_append, List.length_cons]; omega) ?_
                   intro v2 w4 ho4 hb4 hz4
                   have HO4 := Fact.mk ho4
                   have HB4 := Fact.mk hb4
                   clear ho4 hb4 hz4))
              have hl2 := (piece_len HPC.out).2
              go_roundg rest.length
              case measure => have := HK.out; have := HL.out; omega
              case rel => exact ⟨A4, rest.length, c4, rest, (acc0 ++ [(t0, v0)]) ++ [(t, v)], rfl, ⟨Nat.le_refl _⟩, ⟨by have h1 := HN.out; have h2 := HL.out; simp only [List.length_nil, List.length_append, List.length_cons] at h1 ⊢; omega⟩, ⟨hs34.out.2.move (fun k hk => (HB.out.block k (HF.out k hk)).symm)⟩, HO4, HB4, ⟨by rw [HR.out]; exact more_step (acc0 ++ [(t0, v0)]) HPC.out HV.out (by rw [lastT_snoc]; omega)⟩⟩
end Go.Proofs.Ytjjcjdefenbnjaa.TlvC
