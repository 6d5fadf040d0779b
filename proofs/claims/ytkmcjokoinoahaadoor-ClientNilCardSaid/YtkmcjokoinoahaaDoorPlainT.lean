/- Fields and pieces as bytes and back: the plain laws; no program in sight. -/
import Derived.Test.YtkmcjokoinoahaaDoorTlvE
set_option linter.unusedVariables false
set_option linter.unusedSimpArgs false
namespace Go.Proofs.YtkmcjokoinoahaaDoor.PlainT
open Go.RowKit Go.Proofs.YtkmcjokoinoahaaDoor.Lib Go.Proofs.YtkmcjokoinoahaaDoor.TlvA Go.Proofs.YtkmcjokoinoahaaDoor.TlvB Go.Proofs.YtkmcjokoinoahaaDoor.TlvC Go.Proofs.YtkmcjokoinoahaaDoor.TlvD Go.Proofs.YtkmcjokoinoahaaDoor.TlvE

/-- Fields' bytes. -/
def puts (fs : List (UInt8 × List UInt8)) : List UInt8 := fs.flatMap fun f => [f.1, lo (f.2.length / 256), lo f.2.length] ++ f.2

theorem lo_hi (a b : UInt8) : lo ((a.toNat * 256 + b.toNat) / 256) = a := by
  have h := b.toNat_lt
  have ha := a.toNat_lt
  rw [show (a.toNat * 256 + b.toNat) / 256 = a.toNat by omega]
  exact UInt8.ofNat_toNat
theorem lo_lo (a b : UInt8) : lo (a.toNat * 256 + b.toNat) = b := by
  have h := b.toNat_lt
  apply UInt8.toNat.inj
  simp [lo]
theorem piece_eq {l v rest : List UInt8} (h : pieceL l = some (v, rest)) : l = [lo (v.length / 256), lo v.length] ++ v ++ rest ∧ v.length ≤ 65535 := by
  match l, h with
  | [], h => cases h
  | [_], h => cases h
  | b0 :: b1 :: r, h =>
    rw [pieceL] at h
    split at h
    · rename_i hle
      injection h with h
      injection h with h1 h2
      subst h1 h2
      have hl : (r.take (b0.toNat * 256 + b1.toNat)).length = b0.toNat * 256 + b1.toNat := by rw [List.length_take]; omega
      rw [hl, lo_hi, lo_lo]
      have k0 := b0.toNat_lt
      have k1 := b1.toNat_lt
      constructor
      · simp
      · omega
    · cases h
theorem piece_put (v rest : List UInt8) (hv : v.length ≤ 65535) : pieceL ([lo (v.length / 256), lo v.length] ++ v ++ rest) = some (v, rest) := by
  have h1 : (lo (v.length / 256)).toNat = v.length / 256 := by simp [lo]; omega
  have h2 : (lo v.length).toNat = v.length % 256 := by simp [lo]
  have h3 : (lo (v.length / 256)).toNat * 256 + (lo v.length).toNat = v.length := by omega
  simp only [List.cons_append, List.nil_append, pieceL, h3, List.length_append]
  rw [if_pos (by omega)]
  simp
theorem parse_one (l : List UInt8) (last : Int) : (parseG l last).2 = 0 → puts (parseG l last).1 = l ∧ ∀ f ∈ (parseG l last).1, f.2 ≠ [] ∧ f.2.length ≤ 65535 := by
  match l with
  | [] => rw [parseG_nil]; simp [puts]
  | t :: r =>
    cases h : pieceL r with
    | none => rw [parseG_none h]; simp
    | some x =>
      obtain ⟨v, rest⟩ := x
      have hlen := (piece_len h).2
      have ih := parse_one rest t.toNat
      obtain ⟨he, hvl⟩ := piece_eq h
      rw [parseG_some h]
      split
      · simp
      · split
        · simp
        · split
          · rename_i hv _ h0
            intro _
            obtain ⟨i1, i2⟩ := ih h0
            constructor
            · rw [puts, List.flatMap_cons]
              have : (List.flatMap (fun f : UInt8 × List UInt8 => [f.1, lo (f.2.length / 256), lo f.2.length] ++ f.2) (parseG rest t.toNat).1) = rest := i1
              rw [this]
              conv => rhs; rw [he]
              simp
            · intro f hf
              rcases List.mem_cons.1 hf with rfl | hf
              · exact ⟨hv, hvl⟩
              · exact i2 f hf
          · rename_i h0
            intro h1
            exact absurd h1 h0
termination_by l.length
decreasing_by simp; omega
theorem unpack_one (l : List UInt8) : (unpackG l).2 = 0 → packL (unpackG l).1 = l ∧ ∀ v ∈ (unpackG l).1, v.length ≤ 65535 := by
  match hl : l with
  | [] => rw [unpackG_nil]; simp [packL]
  | t :: r =>
    cases h : pieceL (t :: r) with
    | none => rw [unpackG_none (by simp) h]; simp
    | some x =>
      obtain ⟨v, rest⟩ := x
      have hlen := (piece_len h).2
      have ih := unpack_one rest
      obtain ⟨he, hvl⟩ := piece_eq h
      rw [unpackG_some h]
      split
      · rename_i h0
        intro _
        obtain ⟨i1, i2⟩ := ih h0
        constructor
        · rw [packL, List.flatMap_cons]
          have : (List.flatMap (fun v : List UInt8 => [lo (v.length / 256), lo v.length] ++ v) (unpackG rest).1) = rest := i1
          rw [this]
          exact he.symm
        · intro f hf
          rcases List.mem_cons.1 hf with rfl | hf
          · exact hvl
          · exact i2 f hf
      · rename_i h0
        intro h1
        exact absurd h1 h0
termination_by l.length
decreasing_by simp at hlen ⊢; omega
theorem unpack_pack (l : List (List UInt8)) (h : ∀ v ∈ l, v.length ≤ 65535) : unpackG (packL l) = (l, 0) := by
  induction l with
  | nil => exact unpackG_nil
  | cons v r ih =>
    have ih := ih fun x hx => h x (List.mem_cons_of_mem _ hx)
    have he : packL (v :: r) = [lo (v.length / 256), lo v.length] ++ v ++ packL r := by simp [packL]
    have hp := piece_put v (packL r) (h v List.mem_cons_self)
    rw [← he] at hp
    rw [unpackG_some hp, ih]
    simp
theorem puts_take {l : List (UInt8 × List UInt8)} {k : Nat} {t : UInt8} {v : List UInt8} (h : l[k]? = some (t, v)) : puts (l.take (k + 1)) = puts (l.take k) ++ [t, lo (v.length / 256), lo v.length] ++ v := by
  obtain ⟨hl, hv⟩ := List.getElem?_eq_some_iff.1 h
  unfold puts
  rw [List.take_succ_eq_append_getElem hl, hv, List.flatMap_append]
  simp
theorem puts_le {l : List (UInt8 × List UInt8)} (k : Nat) : (puts (l.take k)).length ≤ (puts l).length := by
  conv => rhs; rw [← List.take_append_drop k l]
  unfold puts
  rw [List.flatMap_append, List.length_append]
  omega
/-- Fields that rise from one tag on are parsed as they were. -/
theorem parse_puts (l : List (UInt8 × List UInt8)) (last : Int) (h : ∀ f ∈ l, f.2 ≠ [] ∧ f.2.length ≤ 65535) (hr : l.Pairwise fun f g => f.1.toNat < g.1.toNat) (hl : ∀ f ∈ l, last < (f.1.toNat : Int)) : parseG (puts l) last = (l, 0) := by
  induction l generalizing last with
  | nil => exact parseG_nil _
  | cons f r ih =>
    obtain ⟨t, v⟩ := f
    have hv := h (t, v) List.mem_cons_self
    have hp := List.pairwise_cons.1 hr
    have ih := ih (t.toNat : Int) (fun x hx => h x (List.mem_cons_of_mem _ hx)) hp.2 (fun x hx => by have := hp.1 x hx; simp at this; omega)
    have he : puts ((t, v) :: r) = t :: ([lo (v.length / 256), lo v.length] ++ v ++ puts r) := by simp [puts]
    have hl := hl (t, v) List.mem_cons_self
    simp only at hv hl
    rw [he, parseG_some (piece_put v (puts r) hv.2), if_neg hv.1, if_neg (by omega), ih]
    simp
end Go.Proofs.YtkmcjokoinoahaaDoor.PlainT
