/- Words for memory, over any program: what a value's cells say (Rep), a slice that is read (Sl), a row of the call's own (Ow), and how each lives on. No condition; plain theorems. -/
import Derived.Below
import Derived.Maps.AppendAt
import Derived.Deep.AppendLies
import Derived.Deep.Draws
import Derived.Laws.OwnMore
import Derived.Laws.Slices
import Derived.Laws.BytesArg
import Derived.Lib.SlBytesConst
import Derived.Lib.ConvBytes
import Derived.WalkKit
import Derived.Deep.LoopGhost
import Derived.Deep.QuietTactic
import Derived.BigQuiet
import Derived.KernelRfl
set_option linter.unusedVariables false
set_option linter.unusedSimpArgs false
namespace Go.Proofs.YtkmcjokoinoahaaDoor.Lib
open Go.RowKit

/-- A fact that the walk's simp doesn't look into. -/
structure Fact (p : Prop) : Prop where mk :: (out : p)

theorem block_add (a : Addr) (n : Nat) : (a.add n).block = a.block := by unfold Addr.add; split <;> rfl
theorem add_add' (a : Addr) (i j : Nat) : (a.add i).add j = a.add (i + j) := by
  unfold Addr.add
  by_cases hi : i = 0 <;> by_cases hj : j = 0 <;> simp [hi, hj, Nat.add_assoc]
theorem add_zero' (a : Addr) : a.add 0 = a := by simp [Addr.add]
theorem add_pos' (a : Addr) (n : Nat) (h : 0 < n) : a.add n = ⟨a.block, a.off + n, none⟩ := by unfold Addr.add; rw [if_neg (by omega)]
theorem add_plain' (g n : Nat) : (⟨g, 0, none⟩ : Addr).add n = ⟨g, n, none⟩ := by unfold Addr.add; split <;> simp_all
theorem cell_same {w w' : World} {a : Addr} (h : w'.heap[a.block]? = w.heap[a.block]?) : w'.cell? a = w.cell? a := World.cell?_of_block h
theorem lt_of_cell {w : World} {a : Addr} {v : Value} (h : w.cell? a = some v) : a.block < w.heap.size := World.block_lt_of_cell? w a h

/-- Of the blocks F nothing has turned. -/
def Same (F : Nat → Prop) (w w' : World) : Prop := ∀ k, F k → w'.heap[k]? = w.heap[k]?
theorem Same.refl (F : Nat → Prop) (w : World) : Same F w w := fun _ _ => rfl
theorem Same.trans {F : Nat → Prop} {a b c : World} (h : Same F a b) (k : Same F b c) : Same F a c := fun i hi => (k i hi).trans (h i hi)
theorem Same.mono {F F' : Nat → Prop} {a b : World} (h : Same F a b) (hf : ∀ k, F' k → F k) : Same F' a b := fun i hi => h i (hf i hi)
theorem Same.of_below {B : Nat} {F : Nat → Prop} {w w' : World} (h : Below B w w') (hf : ∀ k, F k → k < B) : Same F w w' := fun k hk => h.block k (hf k hk)
theorem Same.of_grown {row : Option Nat} {F : Nat → Prop} {w w' : World} (h : w.grownBy w' row) (hf : ∀ k, F k → k < w.heap.size ∧ some k ≠ row) : Same F w w' := fun k hk => h.block k (hf k hk).1 (hf k hk).2

/-- What a value's cells say, reading in the blocks F alone. -/
structure Rep (α : Type) where
  sz : Nat
  K : World → (Nat → Prop) → α → List Value → Prop
  len : ∀ {w F x cs}, K w F x cs → cs.length = sz
  one : ∀ {w F x cs}, K w F x cs → ∀ u ∈ cs, u.oneCell' = true
  move : ∀ {w w' F x cs}, Same F w w' → K w F x cs → K w' F x cs
  mono : ∀ {w} {F F' : Nat → Prop} {x cs}, (∀ k, F k → F' k) → K w F x cs → K w F' x cs

/-- One cell that says all by itself. -/
def Rep.flat {α : Type} (f : α → Value) (h : ∀ x, (f x).oneCell' = true) : Rep α where
  sz := 1
  K := fun _ _ x cs => cs = [f x]
  len := by rintro w F x cs rfl; rfl
  one := by
    rintro w F x cs rfl u hu
    rw [List.mem_singleton] at hu
    subst hu
    exact h x
  move := fun _ h => h
  mono := fun _ h => h
def vu8 (b : UInt8) : Value := .int .u8 (b.toNat : Int)
def rU8 : Rep UInt8 := Rep.flat vu8 (fun _ => rfl)
def rI64 : Rep Int64 := Rep.flat (fun n => .int .i64 n.toInt) (fun _ => rfl)
def rU64 : Rep UInt64 := Rep.flat (fun n => .int .u64 (n.toNat : Int)) (fun _ => rfl)
def rBool : Rep Bool := Rep.flat (fun b => .bool b) (fun _ => rfl)
def rStr : Rep ByteArray := Rep.flat (fun s => .string s) (fun _ => rfl)
/-- One behind the other. -/
def Rep.pair {α β : Type} (r : Rep α) (s : Rep β) : Rep (α × β) where
  sz := r.sz + s.sz
  K := fun w F x cs => ∃ c d, cs = c ++ d ∧ r.K w F x.1 c ∧ s.K w F x.2 d
  len := by
    rintro w F x cs ⟨c, d, rfl, hc, hd⟩
    rw [List.length_append, r.len hc, s.len hd]
  one := by
    rintro w F x cs ⟨c, d, rfl, hc, hd⟩ u hu
    rcases List.mem_append.1 hu with hu | hu
    · exact r.one hc u hu
    · exact s.one hd u hu
  move := by
    rintro w w' F x cs hs ⟨c, d, rfl, hc, hd⟩
    exact ⟨c, d, rfl, r.move hs hc, s.move hs hd⟩
  mono := by
    rintro w F F' x cs hf ⟨c, d, rfl, hc, hd⟩
    exact ⟨c, d, rfl, r.mono hf hc, s.mono hf hd⟩
/-- By another name. -/
def Rep.by_ {α β : Type} (r : Rep α) (f : β → α) : Rep β where
  sz := r.sz
  K := fun w F x cs => r.K w F (f x) cs
  len := r.len
  one := r.one
  move := r.move
  mono := r.mono

/-- No cell. -/
def rUnit : Rep Unit where
  sz := 0
  K := fun _ _ _ cs => cs = []
  len := by rintro w F x cs rfl; rfl
  one := by rintro w F x cs rfl u hu; cases hu
  move := fun _ h => h
  mono := fun _ h => h
/-- So many, one behind the other. -/
def Rep.array {α : Type} (r : Rep α) (n : Nat) : Rep (List α) where
  sz := n * r.sz
  K := fun w F xs cs => xs.length = n ∧ cs.length = n * r.sz ∧ ∀ i x, xs[i]? = some x → r.K w F x ((cs.drop (i * r.sz)).take r.sz)
  len := by rintro w F x cs ⟨_, h, _⟩; exact h
  one := by
    rintro w F xs cs ⟨hn, hl, h⟩ u hu
    obtain ⟨p, hp, rfl⟩ := List.getElem_of_mem hu
    by_cases hz : r.sz = 0
    · rw [hl, hz, Nat.mul_zero] at hp; omega
    have hi : p / r.sz < xs.length := by
      rw [Nat.div_lt_iff_lt_mul (by omega), hn, ← hl]
      exact hp
    have hk := h (p / r.sz) _ (List.getElem?_eq_getElem hi)
    refine r.one hk _ ?_
    have hm : p % r.sz < r.sz := Nat.mod_lt _ (by omega)
    have hd : p / r.sz * r.sz + p % r.sz = p := Nat.div_add_mod' p r.sz
    have : ((cs.drop (p / r.sz * r.sz)).take r.sz)[p % r.sz]? = some cs[p] := by
      rw [List.getElem?_take, if_pos hm, List.getElem?_drop, hd, List.getElem?_eq_getElem hp]
    exact List.mem_of_getElem? this
  move := by
    rintro w w' F x cs hs ⟨h1, h2, h⟩
    exact ⟨h1, h2, fun i x hi => r.move hs (h i x hi)⟩
  mono := by
    rintro w F F' x cs hf ⟨h1, h2, h⟩
    exact ⟨h1, h2, fun i x hi => r.mono hf (h i x hi)⟩

/-- A slice that is read. -/
def Sl {α : Type} (r : Rep α) (w : World) (F : Nat → Prop) (A : Option Addr) (n c : Nat) (xs : List α) : Prop :=
  n ≤ c ∧ c ≤ 9223372036854775807 ∧ xs.length = n ∧
    (0 < n → ∃ ad, A = some ad ∧ F ad.block ∧ ∀ i x, xs[i]? = some x → ∃ cs, r.K w F x cs ∧ ∀ j u, cs[j]? = some u → w.cell? (ad.add (i * r.sz + j)) = some u)
section
variable {α : Type} {r : Rep α} {w w' : World} {F F' : Nat → Prop} {A : Option Addr} {n c : Nat} {xs : List α}
theorem Sl.nil (r : Rep α) (w : World) (F : Nat → Prop) (A : Option Addr) (c : Nat) (hc : c ≤ 9223372036854775807) : Sl r w F A 0 c [] := ⟨Nat.zero_le _, hc, rfl, fun h => absurd h (Nat.lt_irrefl 0)⟩
theorem Sl.le (h : Sl r w F A n c xs) : n ≤ c := h.1
theorem Sl.max_ (h : Sl r w F A n c xs) : c ≤ 9223372036854775807 := h.2.1
theorem Sl.len (h : Sl r w F A n c xs) : xs.length = n := h.2.2.1
theorem Sl.move (h : Sl r w F A n c xs) (hs : Same F w w') : Sl r w' F A n c xs := by
  refine ⟨h.1, h.2.1, h.2.2.1, fun hn => ?_⟩
  obtain ⟨ad, e, hf, hc⟩ := h.2.2.2 hn
  refine ⟨ad, e, hf, fun i x hi => ?_⟩
  obtain ⟨cs, hk, hcell⟩ := hc i x hi
  refine ⟨cs, r.move hs hk, fun j u hj => ?_⟩
  exact (cell_same (by rw [block_add]; exact hs _ hf)).trans (hcell j u hj)
theorem Sl.mono (h : Sl r w F A n c xs) (hf : ∀ k, F k → F' k) : Sl r w F' A n c xs := by
  refine ⟨h.1, h.2.1, h.2.2.1, fun hn => ?_⟩
  obtain ⟨ad, e, hb, hc⟩ := h.2.2.2 hn
  refine ⟨ad, e, hf _ hb, fun i x hi => ?_⟩
  obtain ⟨cs, hk, hcell⟩ := hc i x hi
  exact ⟨cs, r.mono hf hk, hcell⟩
theorem Sl.take_ (h : Sl r w F A n c xs) {k : Nat} (hk : k ≤ n) : Sl r w F A k c (xs.take k) := by
  refine ⟨Nat.le_trans hk h.1, h.2.1, by rw [List.length_take, h.len]; omega, fun hn => ?_⟩
  obtain ⟨ad, e, hb, hc⟩ := h.2.2.2 (by omega)
  refine ⟨ad, e, hb, fun i x hi => hc i x ?_⟩
  rw [List.getElem?_take] at hi
  split at hi
  · exact hi
  · cases hi
theorem Sl.drop_ (h : Sl r w F A n c xs) {k : Nat} (hk : k ≤ n) : Sl r w F (if c = k then A else A.map (·.add (k * r.sz))) (n - k) (c - k) (xs.drop k) := by
  refine ⟨by have := h.1; omega, by have := h.2.1; omega, by rw [List.length_drop, h.len], fun hn => ?_⟩
  obtain ⟨ad, rfl, hb, hc⟩ := h.2.2.2 (by omega)
  rw [if_neg (by have := h.1; omega)]
  refine ⟨ad.add (k * r.sz), rfl, by rw [block_add]; exact hb, fun i x hi => ?_⟩
  rw [List.getElem?_drop] at hi
  obtain ⟨cs, hK, hcell⟩ := hc (k + i) x hi
  refine ⟨cs, hK, fun j u hj => ?_⟩
  rw [add_add', ← Nat.add_assoc, ← Nat.add_mul]
  exact hcell j u hj
/-- An element of a slice that is read. -/
theorem Sl.at_ (h : Sl r w F A n c xs) {i : Nat} {x : α} (hi : xs[i]? = some x) : ∃ ad cs, A = some ad ∧ F ad.block ∧ r.K w F x cs ∧ ∀ j u, cs[j]? = some u → w.cell? (ad.add (i * r.sz + j)) = some u := by
  have hl : i < xs.length := (List.getElem?_eq_some_iff.1 hi).1
  obtain ⟨ad, e, hb, hc⟩ := h.2.2.2 (by have := h.len; omega)
  obtain ⟨cs, hk, hcell⟩ := hc i x hi
  exact ⟨ad, cs, e, hb, hk, hcell⟩
theorem Sl.some_ (h : Sl r w F A n c xs) (hn : 0 < n) : ∃ ad, A = some ad ∧ F ad.block := by
  obtain ⟨ad, e, hb, _⟩ := h.2.2.2 hn
  exact ⟨ad, e, hb⟩
end
theorem Sl.byte {w : World} {F : Nat → Prop} {A : Option Addr} {n c : Nat} {l : List UInt8} (h : Sl rU8 w F A n c l) {i : Nat} {b : UInt8} (hi : l[i]? = some b) : ∃ ad, A = some ad ∧ F ad.block ∧ w.cell? (ad.add i) = some (.int .u8 (b.toNat : Int)) := by
  obtain ⟨ad, cs, e, hb, hk, hcell⟩ := h.at_ hi
  have hk' : cs = [vu8 b] := hk
  subst hk'
  refine ⟨ad, e, hb, ?_⟩
  have := hcell 0 _ rfl
  simpa [rU8, Rep.flat, vu8] using this

/-- A slice as an element of what is read. -/
def Rep.slice {α : Type} (r : Rep α) : Rep (List α) where
  sz := 1
  K := fun w F xs cs => ∃ A c, cs = [.slice A xs.length c] ∧ Sl r w F A xs.length c xs
  len := by rintro w F x cs ⟨A, c, rfl, _⟩; rfl
  one := by
    rintro w F x cs ⟨A, c, rfl, _⟩ u hu
    rw [List.mem_singleton] at hu
    subst hu
    rfl
  move := by
    rintro w w' F x cs hs ⟨A, c, rfl, h⟩
    exact ⟨A, c, rfl, h.move hs⟩
  mono := by
    rintro w F F' x cs hf ⟨A, c, rfl, h⟩
    exact ⟨A, c, rfl, h.mono hf⟩

/-- The elements, read in F, whose cells lie one behind the other. -/
def Els {α : Type} (r : Rep α) (w : World) (F : Nat → Prop) (xs : List α) (cells : List Value) : Prop :=
  cells.length = xs.length * r.sz ∧ ∀ i x, xs[i]? = some x → r.K w F x ((cells.drop (i * r.sz)).take r.sz)
section
variable {α : Type} {r : Rep α} {w w' : World} {F F' : Nat → Prop} {xs ys : List α} {cs ds : List Value}
theorem Els.nil (r : Rep α) (w : World) (F : Nat → Prop) : Els r w F [] [] := ⟨by simp, fun i x h => by simp at h⟩
theorem Els.move (h : Els r w F xs cs) (hs : Same F w w') : Els r w' F xs cs := ⟨h.1, fun i x hi => r.move hs (h.2 i x hi)⟩
theorem Els.mono (h : Els r w F xs cs) (hf : ∀ k, F k → F' k) : Els r w F' xs cs := ⟨h.1, fun i x hi => r.mono hf (h.2 i x hi)⟩
theorem Els.append (h : Els r w F xs cs) (k : Els r w F ys ds) : Els r w F (xs ++ ys) (cs ++ ds) := by
  refine ⟨by rw [List.length_append, List.length_append, h.1, k.1, Nat.add_mul], fun i x hi => ?_⟩
  rcases Nat.lt_or_ge i xs.length with hlt | hge
  · rw [List.getElem?_append_left hlt] at hi
    have hle : i * r.sz + r.sz ≤ cs.length := by rw [h.1, ← Nat.succ_mul]; exact Nat.mul_le_mul_right _ hlt
    rw [List.drop_append_of_le_length (by omega), List.take_append_of_le_length (by rw [List.length_drop]; omega)]
    exact h.2 i x hi
  · rw [List.getElem?_append_right hge] at hi
    have hle : cs.length ≤ i * r.sz := by rw [h.1]; exact Nat.mul_le_mul_right _ hge
    rw [List.drop_append, List.drop_eq_nil_of_le hle, List.nil_append, h.1, ← Nat.sub_mul]
    exact k.2 _ x hi
theorem Els.one_ {x : α} (h : r.K w F x cs) : Els r w F [x] cs := by
  refine ⟨by rw [r.len h]; simp, fun i y hi => ?_⟩
  match i, hi with
  | 0, hi =>
    simp at hi
    subst hi
    simpa [← r.len h] using h
theorem Els.oneCell (h : Els r w F xs cs) : ∀ u ∈ cs, u.oneCell' = true := by
  intro u hu
  obtain ⟨p, hp, rfl⟩ := List.getElem_of_mem hu
  by_cases hz : r.sz = 0
  · rw [h.1, hz, Nat.mul_zero] at hp; omega
  have hi : p / r.sz < xs.length := by
    rw [Nat.div_lt_iff_lt_mul (by omega)]
    rw [← h.1]; exact hp
  have hk := h.2 (p / r.sz) _ (List.getElem?_eq_getElem hi)
  refine r.one hk _ ?_
  have hm : p % r.sz < r.sz := Nat.mod_lt _ (by omega)
  have hd : p / r.sz * r.sz + p % r.sz = p := Nat.div_add_mod' p r.sz
  have : ((cs.drop (p / r.sz * r.sz)).take r.sz)[p % r.sz]? = some cs[p] := by
    rw [List.getElem?_take, if_pos hm, List.getElem?_drop, hd, List.getElem?_eq_getElem hp]
  exact List.mem_of_getElem? this
end
/-- What is read as a slice has its cells one behind the other. -/
theorem Sl.els {α : Type} {r : Rep α} {w : World} {F : Nat → Prop} {ad : Addr} {n c : Nat} {xs : List α} (h : Sl r w F (some ad) n c xs) : ∃ cells, Els r w F xs cells ∧ ∀ j u, cells[j]? = some u → w.cell? (ad.add j) = some u := by
  have key : ∀ m, m ≤ xs.length → ∃ cells, Els r w F (xs.take m) cells ∧ ∀ j u, cells[j]? = some u → w.cell? (ad.add j) = some u := by
    intro m
    induction m with
    | zero => exact fun _ => ⟨[], Els.nil _ _ _, fun j u hu => by simp at hu⟩
    | succ m ih =>
      intro hm
      obtain ⟨cells, he, hc⟩ := ih (by omega)
      have hx := List.getElem?_eq_getElem (show m < xs.length by omega)
      obtain ⟨ad', cs, e, _, hk, hcell⟩ := h.at_ hx
      injection e with e
      subst e
      refine ⟨cells ++ cs, ?_, fun j u hu => ?_⟩
      · rw [List.take_succ_eq_append_getElem (show m < xs.length by omega)]
        exact he.append (Els.one_ hk)
      · have hl : cells.length = m * r.sz := by rw [he.1, List.length_take, Nat.min_eq_left (by omega)]
        rcases Nat.lt_or_ge j cells.length with hj | hj
        · rw [List.getElem?_append_left hj] at hu
          exact hc j u hu
        · rw [List.getElem?_append_right hj] at hu
          have := hcell _ u hu
          rwa [hl, Nat.add_sub_cancel' (by omega)] at this
  obtain ⟨cells, he, hc⟩ := key xs.length (Nat.le_refl _)
  rw [List.take_length] at he
  exact ⟨cells, he, hc⟩
theorem Sl.of_els {α : Type} {r : Rep α} {w : World} {F : Nat → Prop} {ad : Addr} {c : Nat} {xs : List α} {cells : List Value} (he : Els r w F xs cells) (hc : ∀ j u, cells[j]? = some u → w.cell? (ad.add j) = some u) (hF : 0 < xs.length → F ad.block)
    (hle : xs.length ≤ c) (hm : c ≤ 9223372036854775807) : Sl r w F (some ad) xs.length c xs := by
  refine ⟨hle, hm, rfl, fun hn => ⟨ad, rfl, hF hn, fun i x hi => ⟨_, he.2 i x hi, fun j u hj => ?_⟩⟩⟩
  rw [List.getElem?_take] at hj
  split at hj
  · rw [List.getElem?_drop] at hj
    exact hc _ u hj
  · cases hj

/-- A row of the call's own (its block from 'base' on); what its elements lead to lies in F. -/
def Ow {α : Type} (r : Rep α) (e : TypeId) (w : World) (base : Nat) (F : Nat → Prop) (v : Value) (xs : List α) : Prop :=
  ∃ cells, w.ownsRow base e r.sz v xs.length cells ∧ Els r w F xs cells
section
variable {α : Type} {r : Rep α} {e : TypeId} {w w' : World} {base : Nat} {F F' : Nat → Prop} {v : Value} {xs : List α}
theorem Ow.nil (r : Rep α) (e : TypeId) (w : World) (base : Nat) (F : Nat → Prop) : Ow r e w base F (.slice none 0 0) [] := ⟨[], World.ownsRow_nil _ _ _ _, Els.nil _ _ _⟩
theorem Ow.lt (h : Ow r e w base F v xs) : ∀ k, v.ownBlock = some k → base ≤ k ∧ k < w.heap.size := by
  obtain ⟨cells, ho, _⟩ := h
  exact ho.lt
theorem Ow.mono (h : Ow r e w base F v xs) (hf : ∀ k, F k → F' k) : Ow r e w base F' v xs := by
  obtain ⟨cells, ho, he⟩ := h
  exact ⟨cells, ho, he.mono hf⟩
theorem own_same {n size : Nat} {cells : List Value} (h : w.ownsRow base e size v n cells) (hm : ∀ k, v.ownBlock = some k → w'.heap[k]? = w.heap[k]?) : w'.ownsRow base e size v n cells := by
  obtain ⟨h1, h2⟩ := h
  refine ⟨h1, ?_⟩
  rcases h2 with h2 | ⟨g, cap, cur, rfl, hg, hh, r⟩
  · exact .inl h2
  · exact .inr ⟨g, cap, cur, rfl, hg, (hm g (by simp [Value.ownBlock])).trans hh, r⟩
theorem Ow.move (h : Ow r e w base F v xs) (hs : Same F w w') (hm : ∀ k, v.ownBlock = some k → w'.heap[k]? = w.heap[k]?) : Ow r e w' base F v xs := by
  obtain ⟨cells, ho, he⟩ := h
  exact ⟨cells, own_same ho hm, he.move hs⟩
/-- What only makes memory leaves it. -/
theorem Ow.below (h : Ow r e w base F v xs) (hb : Below w.heap.size w w') (hf : ∀ k, F k → k < w.heap.size) : Ow r e w' base F v xs :=
  h.move (Same.of_below hb hf) (fun k hk => hb.block k (h.lt k hk).2)
theorem Ow.grown (h : Ow r e w base F v xs) {row : Option Nat} (hg : w.grownBy w' row) (hf : ∀ k, F k → k < w.heap.size ∧ some k ≠ row) (hv : v.ownBlock = none ∨ v.ownBlock ≠ row) : Ow r e w' base F v xs :=
  h.move (Same.of_grown hg hf) (fun k hk => hg.block k (h.lt k hk).2 (by rcases hv with hv | hv <;> rw [hk] at hv <;> simp_all))
/-- It reads as a slice. -/
theorem Ow.sl (h : Ow r e w base F v xs) : ∃ A c, v = .slice A xs.length c ∧ Sl r w (fun k => F k ∨ v.ownBlock = some k) A xs.length c xs := by
  obtain ⟨cells, ho, he⟩ := h
  rcases ho.2 with ⟨rfl, hn⟩ | ⟨g, cap, cur, rfl, hbg, hg, hnc, hcm, hcs, htake⟩
  · have hx : xs = [] := List.eq_nil_of_length_eq_zero hn
    subst hx
    exact ⟨none, 0, rfl, Sl.nil _ _ _ _ _ (by omega)⟩
  · refine ⟨_, cap, rfl, Sl.of_els (he.mono fun k hk => .inl hk) (ho.cells (g := g) rfl) (fun _ => .inr rfl) hnc (by simpa [maxLen] using hcm)⟩
end

/-! ### what the operations do -/
section
variable {P : Program}
theorem exec_append {o : Oper} {a : Act} {s x : Operand} {t u : TypeId} {v y : Value} (w : World) (ho : o.op = .call { callee := .builtin .append, args := #[s, x], argTypes := #[t, u] }) (hs : a.eval s = v) (hx : a.eval x = y)
    {v' : Value} {w' : World} (hr : (Builtin.append_ #[t, u] o.type #[v, y]).run P w = .ok v' w') : (execOp a.eval o).run P w = .ok (.value v') w' := by
  unfold execOp
  simp only [ho, resolve, invoke, builtin, Sem.run_bind, Sem.run_pure, Result.andThen_ok, List.map_toArray, List.map_cons, List.map_nil, hs, hx, hr]
theorem wpList_ok {ops : Array Oper} {rest : List Oper} {o : Oper} {a : Act} {w w' : World} {Q : Exit → Act → World → Prop} {v : Value} (hgd : o.guard = none) (hrun : (execOp a.eval o).run P w = .ok (.value v) w') (h : wpList P ops Q rest (a.put o.dst v) w') : wpList P ops Q (o :: rest) a w := by
  refine wpList_plain hgd fun K hK => ?_
  unfold Oper.wp
  rw [hrun]
  exact hK _ _ h
theorem wpList_okG {ops : Array Oper} {rest : List Oper} {o : Oper} {a : Act} {w w' : World} {Q : Exit → Act → World → Prop} {v : Value} (hw : Region.wanted o (yielded ops a.tmps) = true) (hrun : (execOp a.eval o).run P w = .ok (.value v) w') (h : wpList P ops Q rest (a.put o.dst v) w') : wpList P ops Q (o :: rest) a w := by
  unfold wpList
  rw [if_pos hw]
  refine .inl ?_
  unfold Oper.wp
  rw [hrun]
  exact h

/-- append(v, ys...): v a row of the call's own, ys read. -/
theorem run_app {α : Type} (r : Rep α) (w : World) (base : Nat) (t ty e : TypeId) (z : Value) (bytes : Nat) (ht : P.underlying t = some (.slice e)) (hinfo : (P.info? e).map (fun i => (i.zero, i.size, i.bytes)) = some (some z, r.sz, bytes)) (hz : z.cells.size = r.sz) (hsz : 0 < r.sz) (hb : 0 < bytes)
    (F G : Nat → Prop) (v : Value) (xs ys : List α) (A : Option Addr) (m c : Nat) (hv : Ow r e w base F v xs) (hy : Sl r w G A m c ys) (hbase : base ≤ w.heap.size) (hl : (xs.length + m) * bytes ≤ 140737488355328)
    (hF : ∀ k, F k → k < w.heap.size ∧ some k ≠ v.ownBlock) (hG : ∀ cs x, r.K w G x cs → r.K w F x cs) :
    ∃ v' w', (Builtin.append_ #[t, t] ty #[v, .slice A m c]).run P w = .ok v' w' ∧ Ow r e w' base F v' (xs ++ ys) ∧ w.grownBy w' v.ownBlock ∧ (v'.ownBlock = v.ownBlock ∨ v'.ownBlock = some w.heap.size) := by
  obtain ⟨i0, hi, hzz⟩ := Option.map_eq_some_iff.1 hinfo
  simp only [Prod.mk.injEq] at hzz
  obtain ⟨hz0, hz1, hz2⟩ := hzz
  obtain ⟨cells, ho, he⟩ := hv
  have hm : ys.length = m := hy.len
  have hlen : xs.length + m ≤ 140737488355328 := Nat.le_trans (Nat.le_mul_of_pos_right _ hb) hl
  rcases A with _ | ad
  · have h0 : m = 0 := by
      rcases Nat.eq_zero_or_pos m with h0 | h0
      · exact h0
      · obtain ⟨ad, h, _⟩ := hy.some_ h0
        cases h
    subst h0
    obtain rfl : ys = [] := List.eq_nil_of_length_eq_zero hm
    refine ⟨v, w, ?_, ⟨cells, by simpa using ho, by simpa using he⟩, World.grownBy.refl w _, .inl rfl⟩
    rcases ho.2 with ⟨rfl, hn⟩ | ⟨g, cap, cur, rfl, _, _, hnc, _⟩
    · simp [Builtin.append_, run_underlying ht, sizeOf, typeInfo, hi, Builtin.lenOf, Builtin.firstCells]
    · simp [Builtin.append_, run_underlying ht, sizeOf, typeInfo, hi, Builtin.lenOf, Builtin.firstCells, hnc, storeCells]
  · obtain ⟨news, hn, hcell⟩ := hy.els
    have hn' : Els r w F ys news := ⟨hn.1, fun i x hx => hG _ _ (hn.2 i x hx)⟩
    obtain ⟨v1, w1, hr, h2, h3, _, h5⟩ := run_append_own_at (P := P) w base t ty e i0 z r.sz bytes ht hi hz0 hz1 hz2 hz hsz v xs.length cells ho ad m c news (by rw [hn.1, hm]) hcell hn.oneCell (by simp only [maxLen]; omega) hl hbase
    exact ⟨v1, w1, hr, ⟨cells ++ news, by rw [List.length_append, hm]; exact h2, (he.append hn').move (Same.of_grown h3 hF)⟩, h3, h5⟩

/-- At the operation. -/
theorem wpList_app {α : Type} (r : Rep α) {w0 W : World} {ops : Array Oper} {rest : List Oper} {o : Oper} {a : Act} {Q : Exit → Act → World → Prop} (base : Nat) (hgd : o.guard = none) (s x : Operand) (t e : TypeId) (z : Value) (bytes : Nat)
    (ho : o.op = .call { callee := .builtin .append, args := #[s, x], argTypes := #[t, t] })
    (ht : P.underlying t = some (.slice e)) (hinfo : (P.info? e).map (fun i => (i.zero, i.size, i.bytes)) = some (some z, r.sz, bytes)) (hz : z.cells.size = r.sz) (hsz : 0 < r.sz) (hb : 0 < bytes)
    (F G : Nat → Prop) (v : Value) (xs ys : List α) (A : Option Addr) (m c : Nat) (hs : a.eval s = v) (hx : a.eval x = .slice A m c) (hv : Ow r e W base F v xs) (hy : Sl r W G A m c ys) (hB : Below base w0 W) (hbase : base ≤ W.heap.size) (hl : (xs.length + m) * bytes ≤ 140737488355328)
    (hF : ∀ k, F k → k < W.heap.size ∧ some k ≠ v.ownBlock) (hG : ∀ cs x, r.K W G x cs → r.K W F x cs)
    (h : ∀ v1 w1, Ow r e w1 base F v1 (xs ++ ys) → Below base w0 w1 → W.grownBy w1 v.ownBlock → (v1.ownBlock = v.ownBlock ∨ v1.ownBlock = some W.heap.size) → wpList P ops Q rest (a.put o.dst v1) w1) : wpList P ops Q (o :: rest) a W := by
  obtain ⟨v1, w1, hr, h2, h3, h4⟩ := run_app (P := P) r W base t o.type e z bytes ht hinfo hz hsz hb F G v xs ys A m c hv hy hbase hl hF hG
  refine wpList_ok hgd (exec_append W ho hs hx hr) (h v1 w1 h2 (hB.grown h3 hbase (fun k hk => (hv.lt k hk).1)) h3 h4)
end
/-- A literal of the call's own: behind 'buildSlice'. -/
theorem Ow.lit {α : Type} {r : Rep α} {F : Nat → Prop} {xs : List α} {cells : Array Value} (W : World) (base : Nat) (e : TypeId) (hb : base ≤ W.heap.size) (he : Els r (W.alloc (.cells cells e)) F xs cells.toList) (hm : xs.length ≤ 9223372036854775807) :
    Ow r e (W.alloc (.cells cells e)) base F (.slice (some ⟨W.heap.size, 0, none⟩) xs.length xs.length) xs :=
  ⟨cells.toList, World.ownsRow_lit W cells xs.length hb (by simpa [maxLen] using hm) (by rw [← Array.length_toList]; exact he.1), he⟩
theorem Sl.box {α : Type} {r : Rep α} {F : Nat → Prop} {xs : List α} {cells : Array Value} (W : World) (e : TypeId) (he : Els r (W.alloc (.cells cells e)) F xs cells.toList) (hm : xs.length ≤ 9223372036854775807) :
    Sl r (W.alloc (.cells cells e)) (fun k => F k ∨ k = W.heap.size) (some ⟨W.heap.size, 0, none⟩) xs.length xs.length xs :=
  Sl.of_els (he.mono fun _ hk => .inl hk) (World.news_of_block (heap_alloc_new W _)) (fun _ => .inr rfl) (Nat.le_refl _) hm
theorem Els.bytes (w : World) (F : Nat → Prop) (xs : List UInt8) : Els rU8 w F xs (xs.map vu8) := by
  refine ⟨by simp [rU8, Rep.flat], fun i x hi => ?_⟩
  show (((xs.map vu8).drop (i * 1)).take 1) = [vu8 x]
  have hl : i < xs.length := (List.getElem?_eq_some_iff.1 hi).1
  rw [Nat.mul_one, List.drop_eq_getElem_cons (by simpa using hl)]
  obtain ⟨_, hx⟩ := List.getElem?_eq_some_iff.1 hi
  subst hx
  simp
theorem Els.bytes' {w : World} {F : Nat → Prop} {xs : List UInt8} {cells : Array Value} (h : cells.toList = xs.map vu8) : Els rU8 w F xs cells.toList := by rw [h]; exact Els.bytes w F xs
theorem Sl.boxB {xs : List UInt8} {cells : Array Value} {n : Nat} (W : World) (e : TypeId) (h : cells.toList = xs.map vu8) (hn : xs.length = n) (hm : n ≤ 9223372036854775807) :
    Sl rU8 (W.alloc (.cells cells e)) (fun k => k = W.heap.size) (some ⟨W.heap.size, 0, none⟩) n n xs := by
  subst hn
  exact (Sl.box (F := fun _ => False) W e (Els.bytes' h) hm).mono (fun k hk => hk.resolve_left id)
theorem Ow.litB {xs : List UInt8} {cells : Array Value} {n : Nat} (W : World) (base : Nat) (e : TypeId) (hb : base ≤ W.heap.size) (h : cells.toList = xs.map vu8) (hn : xs.length = n) (hm : n ≤ 9223372036854775807) :
    Ow rU8 e (W.alloc (.cells cells e)) base (fun _ => False) (.slice (some ⟨W.heap.size, 0, none⟩) n n) xs := by
  subst hn
  exact Ow.lit W base e hb (Els.bytes' h) hm
theorem below_alloc' {B : Nat} {w W : World} (h : Below B w W) (hB : B ≤ W.heap.size) (o : Obj) : Below B w (W.alloc o) := h.alloc hB o
theorem below_drewN' {B : Nat} {w W : World} (h : Below B w W) (n : Nat) : Below B w (W.drewN n) := ⟨h.os, h.tape, h.output, h.size, h.block⟩
theorem Same.alloc {F : Nat → Prop} {w W : World} (h : Same F w W) (hF : ∀ k, F k → k < W.heap.size) (o : Obj) : Same F w (W.alloc o) := fun k hk => (Below.heap_alloc W o k (hF k hk)).trans (h k hk)
theorem size_alloc' (W : World) (o : Obj) : (W.alloc o).heap.size = W.heap.size + 1 := by simp

/-! ### cuts of a slice -/
section
variable {P : Program} {α : Type}
theorem slice_from (r : Rep α) (t e : TypeId) {i : TypeInfo} (ht : P.underlying t = some (.slice e)) (hi : P.info? e = some i) (hsz : i.size = r.sz) (A : Option Addr) (n c : Nat) (kl : IntKind) (j : Int) (h0 : 0 ≤ j) (hj : j ≤ n) :
    ∃ A' : Option Addr, (∀ W : World, (Instr.slice t (.slice A n c) (some (.int kl j)) none none).run P W = .ok (.slice A' (n - j.toNat) (c - j.toNat)) W) ∧
      ∀ {w : World} {F : Nat → Prop} {xs : List α}, Sl r w F A n c xs → Sl r w F A' (n - j.toNat) (c - j.toNat) (xs.drop j.toNat) := by
  refine ⟨if c = j.toNat then A else A.map (·.add (j.toNat * r.sz)), fun W => ?_, fun h => h.drop_ (by omega)⟩
  have hel : P.elem t = e := by simp [Program.elem, ht]
  have hu : P.underlying t = some (.slice (P.elem t)) := by rw [hel]; exact ht
  rw [run_slice_l W t A n c hu kl j h0 hj, hel]
  simp [sizeOf, typeInfo, hi, hsz, sliced, Result.andThen]
theorem slice_to (r : Rep α) (t e : TypeId) {i : TypeInfo} (ht : P.underlying t = some (.slice e)) (hi : P.info? e = some i) (A : Option Addr) (n c : Nat) (kh : IntKind) (j : Int) (h0 : 0 ≤ j) (hj : j ≤ n) (hc : n ≤ c) :
    (∀ W : World, (Instr.slice t (.slice A n c) none (some (.int kh j)) none).run P W = .ok (.slice A j.toNat c) W) ∧
      ∀ {w : World} {F : Nat → Prop} {xs : List α}, Sl r w F A n c xs → Sl r w F A j.toNat c (xs.take j.toNat) := by
  refine ⟨fun W => ?_, fun h => h.take_ (by omega)⟩
  have hel : P.elem t = e := by simp [Program.elem, ht]
  have hu : P.underlying t = some (.slice (P.elem t)) := by rw [hel]; exact ht
  have ha : (A.map fun x => x.add 0) = A := by cases A <;> simp [Addr.add]
  rw [run_slice_h W t A n c hu kh j h0 (by omega), hel]
  simp [sizeOf, typeInfo, hi, sliced, Result.andThen, ha]
theorem slice_mid (r : Rep α) (t e : TypeId) {i : TypeInfo} (ht : P.underlying t = some (.slice e)) (hi : P.info? e = some i) (hsz : i.size = r.sz) (A : Option Addr) (n c : Nat) (kl kh : IntKind) (a b : Int) (h0 : 0 ≤ a) (h1 : a ≤ b) (hb : b ≤ n) (hc : n ≤ c) :
    ∃ A' : Option Addr, (∀ W : World, (Instr.slice t (.slice A n c) (some (.int kl a)) (some (.int kh b)) none).run P W = .ok (.slice A' (b.toNat - a.toNat) (c - a.toNat)) W) ∧
      ∀ {w : World} {F : Nat → Prop} {xs : List α}, Sl r w F A n c xs → Sl r w F A' (b.toNat - a.toNat) (c - a.toNat) ((xs.take b.toNat).drop a.toNat) := by
  refine ⟨if c = a.toNat then A else A.map (·.add (a.toNat * r.sz)), fun W => ?_, fun h => (h.take_ (by omega)).drop_ (by omega)⟩
  have hel : P.elem t = e := by simp [Program.elem, ht]
  have hu : P.underlying t = some (.slice (P.elem t)) := by rw [hel]; exact ht
  rw [run_slice_lh W t A n c hu kl kh a b h0 h1 (by omega), hel]
  simp [sizeOf, typeInfo, hi, hsz, sliced, Result.andThen]
end
theorem Same.drewN {F : Nat → Prop} {w W : World} (h : Same F w W) (n : Nat) : Same F w (W.drewN n) := h
/-- Bytes as a string. -/
theorem run_str {P : Program} (src e dst : TypeId) (hs : P.underlying src = some (.slice e)) (he : P.underlying e = some (.int .u8)) (hd : P.underlying dst = some .string) {w : World} {F : Nat → Prop} {A : Option Addr} {n c : Nat} {l : List UInt8} (h : Sl rU8 w F A n c l) :
    (convert src dst (.slice A n c)).run P w = .ok (.string ⟨l.toArray⟩) w := by
  rcases A with _ | ad
  · have h0 : n = 0 := by
      rcases Nat.eq_zero_or_pos n with h0 | h0
      · exact h0
      · obtain ⟨ad, h, _⟩ := h.some_ h0
        cases h
    subst h0
    obtain rfl : l = [] := List.eq_nil_of_length_eq_zero h.len
    rw [run_convert_bytes_string w src dst e _ 0 c hs he hd]
    simp [Conv.bytesToString]
    rfl
  · have hl : (loadCells ad n).run P w = .ok ((l.map fun b => (b.toNat : Int)).map (Value.int .u8)).toArray w := by
      have := run_loadCells_list (P := P) w ad ((l.map fun b => (b.toNat : Int)).map (Value.int .u8)) (fun j v hj => by
        simp only [List.getElem?_map, Option.map_map, Option.map_eq_some_iff] at hj
        obtain ⟨b, hb, rfl⟩ := hj
        obtain ⟨ad', e, _, hc⟩ := h.byte hb
        injection e with e
        subst e
        exact hc)
      simpa [h.len] using this
    rw [run_convert_bytes_string w src dst e _ n c hs he hd, run_bytesToString w _ n c _ hl, foldl_push_bytes]
    simp [ByteArray.empty, ByteArray.emptyWithCapacity]
    have : ((fun n : Int => UInt8.ofNat n.toNat) ∘ fun b : UInt8 => (b.toNat : Int)) = id := by
      funext b
      simp
    rw [this, List.map_id]
    rfl

/-! ### a row of the call's own whose elements lead anywhere but to the row itself -/
def OwX {α : Type} (r : Rep α) (e : TypeId) (w : World) (base : Nat) (v : Value) (xs : List α) : Prop := Ow r e w base (fun k => k < w.heap.size ∧ some k ≠ v.ownBlock) v xs
section
variable {P : Program} {α : Type} {r : Rep α} {e : TypeId} {w w' : World} {base : Nat} {v : Value} {xs : List α}
theorem OwX.nil (r : Rep α) (e : TypeId) (w : World) (base : Nat) : OwX r e w base (.slice none 0 0) [] := Ow.nil _ _ _ _ _
theorem OwX.below (h : OwX r e w base v xs) (hb : Below w.heap.size w w') : OwX r e w' base v xs :=
  (Ow.below h hb (fun _ hk => hk.1)).mono (fun k hk => ⟨Nat.lt_of_lt_of_le hk.1 hb.size, hk.2⟩)
theorem OwX.lt (h : OwX r e w base v xs) : ∀ k, v.ownBlock = some k → base ≤ k ∧ k < w.heap.size := Ow.lt h
theorem OwX.alloc (h : OwX r e w base v xs) (o : Obj) : OwX r e (w.alloc o) base v xs := h.below ((Below.refl _ _).alloc (Nat.le_refl _) _)
theorem OwX.drewN (h : OwX r e w base v xs) (n : Nat) : OwX r e (w.drewN n) base v xs := h.below (below_drewN' (Below.refl _ _) n)
theorem OwX.sl (h : OwX r e w base v xs) : ∃ A c, v = .slice A xs.length c ∧ Sl r w (fun k => k < w.heap.size) A xs.length c xs := by
  obtain ⟨A, c, he, hs⟩ := Ow.sl h
  exact ⟨A, c, he, hs.mono fun k hk => hk.elim (fun h => h.1) (fun hv => (h.lt k hv).2)⟩
/-- append(v, ys...). -/
theorem wpList_appX {w0 W : World} {ops : Array Oper} {rest : List Oper} {o : Oper} {a : Act} {Q : Exit → Act → World → Prop} (r : Rep α) (base : Nat) (hgd : o.guard = none) (s x : Operand) (t e : TypeId) (z : Value) (bytes : Nat)
    (ho : o.op = .call { callee := .builtin .append, args := #[s, x], argTypes := #[t, t] })
    (ht : P.underlying t = some (.slice e)) (hinfo : (P.info? e).map (fun i => (i.zero, i.size, i.bytes)) = some (some z, r.sz, bytes)) (hz : z.cells.size = r.sz) (hsz : 0 < r.sz) (hb : 0 < bytes)
    (v : Value) (xs ys : List α) (A : Option Addr) (m c : Nat) (hs : a.eval s = v) (hx : a.eval x = .slice A m c) (hv : OwX r e W base v xs) (hy : Sl r W (fun k => k < W.heap.size ∧ some k ≠ v.ownBlock) A m c ys) (hB : Below base w0 W) (hbase : base ≤ W.heap.size) (hl : (xs.length + m) * bytes ≤ 140737488355328)
    (h : ∀ v1 w1, OwX r e w1 base v1 (xs ++ ys) → Below base w0 w1 → W.heap.size ≤ w1.heap.size → wpList P ops Q rest (a.put o.dst v1) w1) : wpList P ops Q (o :: rest) a W := by
  refine wpList_app r base hgd s x t e z bytes ho ht hinfo hz hsz hb _ _ v xs ys A m c hs hx hv hy hB hbase hl (fun _ hk => hk) (fun _ _ h => h) ?_
  intro v1 w1 ho1 hb1 hg1 hat1
  refine h v1 w1 (ho1.mono fun k hk => ⟨Nat.lt_of_lt_of_le hk.1 hg1.size, ?_⟩) hb1 hg1.size
  rcases hat1 with hat | hat
  · rw [hat]; exact hk.2
  · rw [hat]
    intro he
    injection he with he
    omega
/-- append(v, x): x boxed in a block of its own. -/
theorem wpList_pushX {w0 W : World} {ops : Array Oper} {rest : List Oper} {o : Oper} {a : Act} {Q : Exit → Act → World → Prop} (r : Rep α) (base : Nat) (hgd : o.guard = none) (s x : Operand) (t e : TypeId) (z : Value) (bytes : Nat)
    (ho : o.op = .call { callee := .builtin .append, args := #[s, x], argTypes := #[t, t] })
    (ht : P.underlying t = some (.slice e)) (hinfo : (P.info? e).map (fun i => (i.zero, i.size, i.bytes)) = some (some z, r.sz, bytes)) (hz : z.cells.size = r.sz) (hsz : 0 < r.sz) (hb : 0 < bytes)
    (v : Value) (xs : List α) (y : α) (cells : Array Value) (te : TypeId) (hs : a.eval s = v) (hx : a.eval x = .slice (some ⟨W.heap.size, 0, none⟩) 1 1) (hv : OwX r e W base v xs) (hy : r.K W (fun k => k < W.heap.size ∧ some k ≠ v.ownBlock) y cells.toList) (hB : Below base w0 W) (hbase : base ≤ W.heap.size) (hl : (xs.length + 1) * bytes ≤ 140737488355328)
    (h : ∀ v1 w1, OwX r e w1 base v1 (xs ++ [y]) → Below base w0 w1 → W.heap.size ≤ w1.heap.size → wpList P ops Q rest (a.put o.dst v1) w1) : wpList P ops Q (o :: rest) a (W.alloc (.cells cells te)) := by
  refine wpList_appX r base hgd s x t e z bytes ho ht hinfo hz hsz hb v xs [y] _ 1 1 hs hx (hv.alloc _) ?_ (hB.alloc hbase _) (by simp; omega) hl ?_
  · refine (Sl.box (F := fun k => k < W.heap.size ∧ some k ≠ v.ownBlock) (xs := [y]) W te (Els.one_ (r.move ((Same.refl _ _).alloc (fun _ hk => hk.1) _) hy)) (by simp)).mono ?_
    rintro k (hk | rfl)
    · exact ⟨by simp; omega, hk.2⟩
    · refine ⟨by simp, fun he => ?_⟩
      have := (hv.lt _ he.symm).2
      omega
  · intro v1 w1 h1 h2 h3
    exact h v1 w1 h1 h2 (by simp at h3; omega)
end
theorem quiet_below {w w' : World} {q : Nat} (h : w' = w.drewN q) : Fact (∀ B, Below B w w') := ⟨fun _ => by rw [h]; exact below_drewN' (Below.refl _ _) q⟩
/-- A block of bytes, marked or not, as a slice that is read. -/
theorem Sl.boxM {xs : List UInt8} {cells : Array Value} {n : Nat} {fr : Nat × Nat} (W : World) (e : TypeId) (h : cells.toList = xs.map vu8) (hn : xs.length = n) (hm : n ≤ 9223372036854775807) :
    Sl rU8 (W.alloc (.cells cells e fr)) (fun k => k = W.heap.size) (some ⟨W.heap.size, 0, none⟩) n n xs := by
  subst hn
  exact Sl.of_els (Els.bytes' h) (World.news_of_block (heap_alloc_new W _)) (fun _ => rfl) (Nat.le_refl _) hm
/-- make([]byte, m). -/
theorem run_make_bytes {P : Program} (t e : TypeId) (ht : P.underlying t = some (.slice e)) (hinfo : (P.info? e).map (fun i => (i.zero, i.size, i.bytes)) = some (some (.int .u8 0), 1, 1)) (k : IntKind) (m : Nat) (hm : m ≤ 281474976710656) (W : World) :
    (Instr.makeSlice t (.int k (m : Int)) (.int k (m : Int))).run P W = .ok (.slice (some ⟨W.heap.size, 0, none⟩) m m) (W.alloc (.cells (madeCells #[.int .u8 0] m) e)) := by
  obtain ⟨i, hi, hzz⟩ := Option.map_eq_some_iff.1 hinfo
  simp only [Prod.mk.injEq] at hzz
  obtain ⟨hz0, hz1, hz2⟩ := hzz
  have hr := run_make (P := P) W t e i (.int .u8 0) ht hi hz0 k k m m (by omega) (by omega) (by rw [hz2]; omega) (by omega)
  simp only [Int.toNat_natCast] at hr
  rw [hz1, Nat.mul_one] at hr
  exact hr
theorem made_bytes (m : Nat) : (madeCells #[Value.int .u8 0] m).toList = (List.replicate m (0 : UInt8)).map vu8 := by
  rw [toList_madeCells_one, List.map_replicate]
  rfl
end Go.Proofs.YtkmcjokoinoahaaDoor.Lib
