/- Fields cut anywhere: the plain law. -/
import Derived.Test.YtjjcjdefenbnjaaPlainT
set_option linter.unusedVariables false
set_option linter.unusedSimpArgs false
namespace Go.Proofs.Ytjjcjdefenbnjaa.PlainC
open Go.RowKit Go.Proofs.Ytjjcjdefenbnjaa.Lib Go.Proofs.Ytjjcjdefenbnjaa.TlvA Go.Proofs.Ytjjcjdefenbnjaa.TlvB Go.Proofs.Ytjjcjdefenbnjaa.TlvC Go.Proofs.Ytjjcjdefenbnjaa.TlvD Go.Proofs.Ytjjcjdefenbnjaa.TlvE Go.Proofs.Ytjjcjdefenbnjaa.PlainT
/-- Is k where a field ends? -/
def bnd : List (UInt8 × List UInt8) → Nat → Bool
  | [], k => k == 0
  | f :: r, k => k == 0 || (decide (3 + f.2.length ≤ k) && bnd r (k - (3 + f.2.length)))
theorem puts_cons_len (f : UInt8 × List UInt8) (r : List (UInt8 × List UInt8)) : (puts (f :: r)).length = 3 + f.2.length + (puts r).length := by
  have he : puts (f :: r) = [f.1, lo (f.2.length / 256), lo f.2.length] ++ f.2 ++ puts r := by simp [puts]
  rw [he]
  simp only [List.length_append, List.length_cons, List.length_nil]
theorem bnd_zero (W : List (UInt8 × List UInt8)) : bnd W 0 = true := by cases W <;> simp [bnd]
theorem bnd_end (W : List (UInt8 × List UInt8)) : bnd W (puts W).length = true := by
  induction W with
  | nil => rfl
  | cons f r ih =>
    rw [puts_cons_len, bnd, Nat.add_sub_cancel_left, ih]
    simp
theorem bnd_snoc (W : List (UInt8 × List UInt8)) (f : UInt8 × List UInt8) (k : Nat) : bnd (W ++ [f]) k = (bnd W k || k == (puts W).length + (3 + f.2.length)) := by
  induction W generalizing k with
  | nil =>
    show (k == 0 || (decide (3 + f.2.length ≤ k) && (k - (3 + f.2.length) == 0))) = (k == 0 || k == 0 + (3 + f.2.length))
    congr 1
    rw [Bool.eq_iff_iff]
    simp
    omega
  | cons g r ih =>
    show (k == 0 || (decide (3 + g.2.length ≤ k) && bnd (r ++ [f]) (k - (3 + g.2.length)))) = ((k == 0 || (decide (3 + g.2.length ≤ k) && bnd r (k - (3 + g.2.length)))) || k == (puts (g :: r)).length + (3 + f.2.length))
    rw [ih, puts_cons_len, Bool.or_assoc]
    congr 1
    rw [Bool.eq_iff_iff]
    simp
    constructor
    · rintro ⟨h1, h2 | h2⟩
      · exact .inl ⟨h1, h2⟩
      · right; omega
    · rintro (⟨h1, h2⟩ | h2)
      · exact ⟨h1, .inl h2⟩
      · exact ⟨by omega, .inr (by omega)⟩
theorem piece_short {v rest : List UInt8} (hv : v.length ≤ 65535) {m : Nat} (hm : m < 2 + v.length) : pieceL (([lo (v.length / 256), lo v.length] ++ v ++ rest).take m) = none := by
  have h1 : (lo (v.length / 256)).toNat = v.length / 256 := by simp [lo]; omega
  have h2 : (lo v.length).toNat = v.length % 256 := by simp [lo]
  have h3 : (lo (v.length / 256)).toNat * 256 + (lo v.length).toNat = v.length := by omega
  match m, hm with
  | 0, _ => rfl
  | 1, _ => rfl
  | m + 2, hm =>
    simp only [List.cons_append, List.nil_append, List.take_succ_cons, pieceL, h3]
    rw [if_neg]
    rw [List.length_take]
    omega
/-- Fields that rise, cut at k: in order if a field ends there, and short if not. -/
theorem parse_cut (W : List (UInt8 × List UInt8)) (last : Int) (k : Nat) (h : ∀ f ∈ W, f.2 ≠ [] ∧ f.2.length ≤ 65535) (hr : W.Pairwise fun f g => f.1.toNat < g.1.toNat) (hl : ∀ f ∈ W, last < (f.1.toNat : Int)) (hk : k ≤ (puts W).length) :
    (parseG ((puts W).take k) last).2 = if bnd W k then 0 else 4 := by
  induction W generalizing last k with
  | nil =>
    have : k = 0 := by simpa [puts] using hk
    subst this
    rw [List.take_zero, parseG_nil]
    rfl
  | cons f r ih =>
    obtain ⟨t, v⟩ := f
    have hv := h (t, v) List.mem_cons_self
    have hp := List.pairwise_cons.1 hr
    have hlt := hl (t, v) List.mem_cons_self
    simp only at hv hlt
    rw [puts_cons_len] at hk
    simp only at hk
    have he : puts ((t, v) :: r) = t :: ([lo (v.length / 256), lo v.length] ++ v ++ puts r) := by simp [puts]
    match k, hk with
    | 0, _ => rw [List.take_zero, parseG_nil, bnd_zero]; rfl
    | m + 1, hk =>
      rw [he, List.take_succ_cons]
      by_cases hm : m < 2 + v.length
      · rw [parseG_none (piece_short hv.2 hm)]
        have : bnd ((t, v) :: r) (m + 1) = false := by simp [bnd]; omega
        rw [this]
        rfl
      · have htk : ([lo (v.length / 256), lo v.length] ++ v ++ puts r).take m = [lo (v.length / 256), lo v.length] ++ v ++ (puts r).take (m - (2 + v.length)) := by
          rw [List.take_append, List.take_of_length_le (by simp; omega)]
          congr 2
          simp
          omega
        have ih := ih (t.toNat : Int) (m - (2 + v.length)) (fun x hx => h x (List.mem_cons_of_mem _ hx)) hp.2 (fun x hx => by have := hp.1 x hx; simp at this; omega) (by omega)
        rw [htk, parseG_some (piece_put v _ hv.2), if_neg hv.1, if_neg (by omega)]
        have hb : bnd ((t, v) :: r) (m + 1) = bnd r (m - (2 + v.length)) := by
          simp only [bnd]
          rw [show m + 1 - (3 + v.length) = m - (2 + v.length) by omega]
          simp
          omega
        rw [hb]
        split
        · rename_i h0
          rw [ih] at h0
          split at h0
          · rename_i hh; rw [if_pos hh]
          · omega
        · exact ih
end Go.Proofs.Ytjjcjdefenbnjaa.PlainC
