/- tlv.Parse, ferrymanref01.Parse, tlv.Unpack, ferrymanref01.Unpack: contracts over any world. -/
import Derived.Test.YtkmcjokoinoahaaDoorTlvB
set_option linter.unusedVariables false
set_option linter.unusedSimpArgs false
namespace Go.Proofs.YtkmcjokoinoahaaDoor.TlvC
open Go.RowKit Go.Proofs.YtkmcjokoinoahaaDoor.Lib Go.Proofs.YtkmcjokoinoahaaDoor.TlvA Go.Proofs.YtkmcjokoinoahaaDoor.TlvB

def fld : Rep (UInt8 × List UInt8) := Rep.pair rU8 (Rep.slice rU8)
theorem info_sl : (Tryd.prog.info? 129).map (fun i => (i.zero, i.size, i.bytes)) = some (some (.slice none 0 0), 1, 24) := by kernel_rfl

/-- Fields whose tags rise, from one tag on; an error's number. -/
def parseG (l : List UInt8) (last : Int) : List (UInt8 × List UInt8) × Int :=
  match l with
  | [] => ([], 0)
  | t :: r =>
    match h : pieceL r with
    | none => ([], 4)
    | some (v, rest) =>
      if v = [] then ([], 6) else if (t.toNat : Int) ≤ last then ([], 5) else
        have : rest.length < (t :: r).length := by have := (piece_len h).2; simp; omega
        let x := parseG rest t.toNat
        if x.2 = 0 then ((t, v) :: x.1, 0) else ([], x.2)
termination_by l.length
theorem parseG_nil (last : Int) : parseG [] last = ([], 0) := by rw [parseG]
theorem parseG_none {t : UInt8} {r : List UInt8} {last : Int} (h : pieceL r = none) : parseG (t :: r) last = ([], 4) := by
  rw [parseG]; split
  · rfl
  · rename_i h'; rw [h] at h'; cases h'
theorem parseG_some {t : UInt8} {r v rest : List UInt8} {last : Int} (h : pieceL r = some (v, rest)) :
    parseG (t :: r) last = if v = [] then ([], 6) else if (t.toNat : Int) ≤ last then ([], 5) else if (parseG rest t.toNat).2 = 0 then ((t, v) :: (parseG rest t.toNat).1, 0) else ([], (parseG rest t.toNat).2) := by
  rw [parseG]; split
  · rename_i h'; rw [h] at h'; cases h'
  · rename_i v' rest' h'
    rw [h] at h'
    injection h' with h'
    injection h' with h1 h2
    subst h1 h2
    rfl
/-- What is still to come, behind what has been read. -/
def more (acc : List (UInt8 × List UInt8)) (x : List (UInt8 × List UInt8) × Int) : List (UInt8 × List UInt8) × Int := if x.2 = 0 then (acc ++ x.1, 0) else ([], x.2)
/-- The last tag; -1 of none. -/
def lastT (acc : List (UInt8 × List UInt8)) : Int := match acc.getLast? with | some (t, _) => (t.toNat : Int) | none => -1
theorem lastT_snoc (acc : List (UInt8 × List UInt8)) (t : UInt8) (v : List UInt8) : lastT (acc ++ [(t, v)]) = t.toNat := by simp [lastT]
theorem more_nil (x : List (UInt8 × List UInt8) × Int) (h : x.2 ≠ 0 → x.1 = []) : more [] x = x := by
  unfold more
  split
  · rename_i h0; rw [List.nil_append]; cases x; simp at h0; subst h0; rfl
  · rename_i h0; cases x; simp at h0 h; simp [h h0]
theorem parseG_err (l : List UInt8) (last : Int) : (parseG l last).2 ≠ 0 → (parseG l last).1 = [] := by
  match l with
  | [] => rw [parseG_nil]; simp
  | t :: r =>
    cases h : pieceL r with
    | none => rw [parseG_none h]; simp
    | some x =>
      obtain ⟨v, rest⟩ := x
      rw [parseG_some h]
      repeat' split
      all_goals simp
theorem more_step (acc : List (UInt8 × List UInt8)) {t : UInt8} {r v rest : List UInt8} (h : pieceL r = some (v, rest)) (hv : v ≠ []) (ht : ¬ (t.toNat : Int) ≤ lastT acc) :
    more acc (parseG (t :: r) (lastT acc)) = more (acc ++ [(t, v)]) (parseG rest (lastT (acc ++ [(t, v)]))) := by
  rw [lastT_snoc, parseG_some h, if_neg hv, if_neg ht]
  unfold more
  by_cases h0 : (parseG rest t.toNat).2 = 0
  · rw [if_pos h0, if_pos rfl, if_pos h0]; simp
  · rw [if_neg h0, if_neg h0, if_neg h0]

theorem sameF {w wr w2 w3 : World} {F : Nat → Prop} (HF : Fact (∀ k, F k → k < w.heap.size)) (HB : Fact (Below w.heap.size w wr)) (h2 : Below wr.heap.size wr w2) (h3 : Below w2.heap.size w2 w3) : Same F wr w3 := fun k hk =>
  ((h3.block k (by have := HF.out k hk; have := HB.out.size; have := h2.size; omega)).trans (h2.block k (by have := HF.out k hk; have := HB.out.size; omega)))
end Go.Proofs.YtkmcjokoinoahaaDoor.TlvC
