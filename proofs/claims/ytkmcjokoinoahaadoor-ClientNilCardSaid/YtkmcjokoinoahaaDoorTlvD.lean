/- ferrymanref01.Parse, tlv.Unpack, ferrymanref01.Unpack: contracts over any world. -/
import Derived.Test.YtkmcjokoinoahaaDoorTlvC
set_option linter.unusedVariables false
set_option linter.unusedSimpArgs false
namespace Go.Proofs.YtkmcjokoinoahaaDoor.TlvD
open Go.RowKit Go.Proofs.YtkmcjokoinoahaaDoor.Lib Go.Proofs.YtkmcjokoinoahaaDoor.TlvA Go.Proofs.YtkmcjokoinoahaaDoor.TlvB Go.Proofs.YtkmcjokoinoahaaDoor.TlvC

theorem lastT_lt (acc : List (UInt8 × List UInt8)) : -1 ≤ lastT acc ∧ lastT acc ≤ 255 := by
  unfold lastT
  split
  · rename_i t _ _
    have := u8_lt t
    omega
  · omega

/-- Pieces; an error's number. -/
def unpackG (l : List UInt8) : List (List UInt8) × Int :=
  match l with
  | [] => ([], 0)
  | t :: r =>
    match h : pieceL (t :: r) with
    | none => ([], 4)
    | some (v, rest) =>
        have : rest.length < (t :: r).length := by have := (piece_len h).2; omega
        let x := unpackG rest
        if x.2 = 0 then (v :: x.1, 0) else ([], x.2)
termination_by l.length
theorem unpackG_nil : unpackG [] = ([], 0) := by rw [unpackG]
theorem unpackG_none {l : List UInt8} (hl : l ≠ []) (h : pieceL l = none) : unpackG l = ([], 4) := by
  match l, hl with
  | t :: r, _ =>
    rw [unpackG]; split
    · rfl
    · rename_i h'; rw [h] at h'; cases h'
theorem unpackG_some {l v rest : List UInt8} (h : pieceL l = some (v, rest)) : unpackG l = if (unpackG rest).2 = 0 then (v :: (unpackG rest).1, 0) else ([], (unpackG rest).2) := by
  match l with
  | [] => cases h
  | t :: r =>
    rw [unpackG]; split
    · rename_i h'; rw [h] at h'; cases h'
    · rename_i v' rest' h'
      rw [h] at h'
      injection h' with h'
      injection h' with h1 h2
      subst h1 h2
      rfl
def moreP (acc : List (List UInt8)) (x : List (List UInt8) × Int) : List (List UInt8) × Int := if x.2 = 0 then (acc ++ x.1, 0) else ([], x.2)
theorem moreP_nil (l : List UInt8) : moreP [] (unpackG l) = unpackG l := by
  unfold moreP
  split
  · rename_i h0; rw [List.nil_append]; revert h0; generalize unpackG l = x; cases x; rintro ⟨⟩; rfl
  · rename_i h0
    match l with
    | [] => rw [unpackG_nil] at h0; simp at h0
    | t :: r =>
      cases h : pieceL (t :: r) with
      | none => rw [unpackG_none (by simp) h]
      | some x =>
        obtain ⟨v, rest⟩ := x
        rw [unpackG_some h] at h0 ⊢
        split
        · rename_i h1; rw [if_pos h1] at h0; simp at h0
        · rfl
theorem moreP_step (acc : List (List UInt8)) {l v rest : List UInt8} (h : pieceL l = some (v, rest)) : moreP acc (unpackG l) = moreP (acc ++ [v]) (unpackG rest) := by
  rw [unpackG_some h]
  unfold moreP
  by_cases h0 : (unpackG rest).2 = 0
  · rw [if_pos h0, if_pos rfl, if_pos h0]; simp
  · rw [if_neg h0, if_neg h0, if_neg h0]


end Go.Proofs.YtkmcjokoinoahaaDoor.TlvD
