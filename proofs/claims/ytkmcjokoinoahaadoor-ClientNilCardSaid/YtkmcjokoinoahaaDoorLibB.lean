/- Pushes that tell what stays: over any program. -/
import Derived.Test.YtkmcjokoinoahaaDoorLib
set_option linter.unusedVariables false
set_option linter.unusedSimpArgs false
namespace Go.Proofs.YtkmcjokoinoahaaDoor.LibB
open Go.RowKit Go.Proofs.YtkmcjokoinoahaaDoor.Lib
section
variable {P : Program} {α : Type}
/-- What a push leaves: all blocks but the row's own; the row lies where it lay, or in a new block. -/
def Left (v v1 : Value) (W w1 : World) : Prop := Same (fun k => k < W.heap.size ∧ some k ≠ v.ownBlock) W w1 ∧ W.heap.size ≤ w1.heap.size ∧ ∀ k, v1.ownBlock = some k → v.ownBlock = some k ∨ W.heap.size ≤ k
theorem Left.sl {β : Type} {r : Rep β} {v v1 : Value} {W w1 : World} {A : Option Addr} {n c : Nat} {xs : List β} (h : Left v v1 W w1) (hs : Sl r W (fun k => k < W.heap.size ∧ some k ≠ v.ownBlock) A n c xs) : Sl r w1 (fun k => k < w1.heap.size ∧ some k ≠ v1.ownBlock) A n c xs := by
  refine (hs.move h.1).mono ?_
  intro k hk
  refine ⟨Nat.lt_of_lt_of_le hk.1 h.2.1, fun he => ?_⟩
  rcases h.2.2 k he.symm with h1 | h1
  · exact hk.2 h1.symm
  · omega
theorem wpList_appL {w0 W : World} {ops : Array Oper} {rest : List Oper} {o : Oper} {a : Act} {Q : Exit → Act → World → Prop} (r : Rep α) (base : Nat) (hgd : o.guard = none) (s x : Operand) (t e : TypeId) (z : Value) (bytes : Nat)
    (ho : o.op = .call { callee := .builtin .append, args := #[s, x], argTypes := #[t, t] })
    (ht : P.underlying t = some (.slice e)) (hinfo : (P.info? e).map (fun i => (i.zero, i.size, i.bytes)) = some (some z, r.sz, bytes)) (hz : z.cells.size = r.sz) (hsz : 0 < r.sz) (hb : 0 < bytes)
    (v : Value) (xs ys : List α) (A : Option Addr) (m c : Nat) (hs : a.eval s = v) (hx : a.eval x = .slice A m c) (hv : OwX r e W base v xs) (hy : Sl r W (fun k => k < W.heap.size ∧ some k ≠ v.ownBlock) A m c ys) (hB : Below base w0 W) (hbase : base ≤ W.heap.size) (hl : (xs.length + m) * bytes ≤ 140737488355328)
    (h : ∀ v1 w1, OwX r e w1 base v1 (xs ++ ys) → Below base w0 w1 → Left v v1 W w1 → wpList P ops Q rest (a.put o.dst v1) w1) : wpList P ops Q (o :: rest) a W := by
  refine wpList_app r base hgd s x t e z bytes ho ht hinfo hz hsz hb _ _ v xs ys A m c hs hx hv hy hB hbase hl (fun _ hk => hk) (fun _ _ h => h) ?_
  intro v1 w1 ho1 hb1 hg1 hat1
  refine h v1 w1 (ho1.mono fun k hk => ⟨Nat.lt_of_lt_of_le hk.1 hg1.size, ?_⟩) hb1 ⟨Same.of_grown hg1 (fun _ hk => hk), hg1.size, fun k hk => ?_⟩
  · rcases hat1 with hat | hat
    · rw [hat]; exact hk.2
    · rw [hat]
      intro he
      injection he with he
      omega
  · rcases hat1 with hat | hat
    · exact .inl (hat ▸ hk)
    · rw [hat] at hk
      injection hk with hk
      exact .inr (by omega)
/-- append(v, x): x boxed in a block of its own. -/
theorem wpList_pushL {w0 W : World} {ops : Array Oper} {rest : List Oper} {o : Oper} {a : Act} {Q : Exit → Act → World → Prop} (r : Rep α) (base : Nat) (hgd : o.guard = none) (s x : Operand) (t e : TypeId) (z : Value) (bytes : Nat)
    (ho : o.op = .call { callee := .builtin .append, args := #[s, x], argTypes := #[t, t] })
    (ht : P.underlying t = some (.slice e)) (hinfo : (P.info? e).map (fun i => (i.zero, i.size, i.bytes)) = some (some z, r.sz, bytes)) (hz : z.cells.size = r.sz) (hsz : 0 < r.sz) (hb : 0 < bytes)
    (v : Value) (xs : List α) (y : α) (cells : Array Value) (te : TypeId) (hs : a.eval s = v) (hx : a.eval x = .slice (some ⟨W.heap.size, 0, none⟩) 1 1) (hv : OwX r e W base v xs) (hy : r.K W (fun k => k < W.heap.size ∧ some k ≠ v.ownBlock) y cells.toList) (hB : Below base w0 W) (hbase : base ≤ W.heap.size) (hl : (xs.length + 1) * bytes ≤ 140737488355328)
    (h : ∀ v1 w1, OwX r e w1 base v1 (xs ++ [y]) → Below base w0 w1 → Left v v1 W w1 → wpList P ops Q rest (a.put o.dst v1) w1) : wpList P ops Q (o :: rest) a (W.alloc (.cells cells te)) := by
  refine wpList_appL r base hgd s x t e z bytes ho ht hinfo hz hsz hb v xs [y] _ 1 1 hs hx (hv.alloc _) ?_ (hB.alloc hbase _) (by simp; omega) hl ?_
  · refine (Sl.box (F := fun k => k < W.heap.size ∧ some k ≠ v.ownBlock) (xs := [y]) W te (Els.one_ (r.move ((Same.refl _ _).alloc (fun _ hk => hk.1) _) hy)) (by simp)).mono ?_
    rintro k (hk | rfl)
    · exact ⟨by simp; omega, hk.2⟩
    · refine ⟨by simp, fun he => ?_⟩
      have := (hv.lt _ he.symm).2
      omega
  · intro v1 w1 h1 h2 h3
    refine h v1 w1 h1 h2 ⟨fun k hk => (h3.1 k ⟨by simp; omega, hk.2⟩).trans (Below.heap_alloc W _ k hk.1), by have := h3.2.1; simp at this; omega, fun k hk => ?_⟩
    rcases h3.2.2 k hk with h4 | h4
    · exact .inl h4
    · exact .inr (by simp at h4; omega)
end
/-- Slices side by side in a block. -/
theorem sl_cons {β : Type} {r : Rep β} {w : World} {F : Nat → Prop} {A : Option Addr} {n c : Nat} {l : List β} {xs : List (List β)} {ds : List Value} (h : Sl r w F A n c l) (hs : Els (Rep.slice r) w F xs ds) : Els (Rep.slice r) w F (l :: xs) (.slice A n c :: ds) := by
  obtain rfl := h.len
  exact Els.append (xs := [l]) (cs := [.slice A l.length c]) (Els.one_ ⟨A, c, rfl, h⟩) hs
end Go.Proofs.YtkmcjokoinoahaaDoor.LibB
