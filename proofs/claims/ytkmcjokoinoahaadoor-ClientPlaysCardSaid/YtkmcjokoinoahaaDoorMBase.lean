/- Words for memory; regions; tlv, parcels: contracts. No condition; plain theorems. -/
import Derived.Below
import Derived.Maps.AppendAt
import Derived.Deep.AppendLies
import Derived.Deep.Draws
import Derived.Laws.OwnMore
import Derived.Laws.Slices
import Derived.Laws.BytesArg
import Derived.Lib.SlBytesConst
import Derived.Lib.ConvBytes
import Derived.WalkKit
import Derived.Deep.LoopGhost
import Derived.Deep.QuietTactic
import Derived.BigQuiet
import Derived.KernelRfl
import Derived.Test.YtkmcjokoinoahaaDoorProg
import Derived.Orders
import Derived.RegionTactic
import Derived.WalkSpells
import Derived.Deep.MidRow
import Derived.DeepKeys
import Derived.Laws.BitsAllLaws
import Derived.ProofKit
set_option linter.unusedVariables false
set_option linter.unusedSimpArgs false
/- Words for memory, over any program: what a value's cells say (Rep), a slice that is read (Sl), a row of the call's own (Ow), and how each lives on. No condition; plain theorems. -/
namespace Go.Proofs.YtkmcjokoinoahaaDoor.Lib
open Go.RowKit

/-- A fact that the walk's simp doesn't look into. -/
structure Fact (p : Prop) : Prop where mk :: (out : p)

theorem block_add (a : Addr) (n : Nat) : (a.add n).block = a.block := by unfold Addr.add; split <;> rfl
theorem add_add' (a : Addr) (i j : Nat) : (a.add i).add j = a.add (i + j) := by
  unfold Addr.add
  by_cases hi : i = 0 <;> by_cases hj : j = 0 <;> simp [hi, hj, Nat.add_assoc]
theorem add_zero' (a : Addr) : a.add 0 = a := by simp [Addr.add]
theorem add_pos' (a : Addr) (n : Nat) (h : 0 < n) : a.add n = ⟨a.block, a.off + n, none⟩ := by unfold Addr.add; rw [if_neg (by omega)]
theorem add_plain' (g n : Nat) : (⟨g, 0, none⟩ : Addr).add n = ⟨g, n, none⟩ := by unfold Addr.add; split <;> simp_all
theorem cell_same {w w' : World} {a : Addr} (h : w'.heap[a.block]? = w.heap[a.block]?) : w'.cell? a = w.cell? a := World.cell?_of_block h
theorem lt_of_cell {w : World} {a : Addr} {v : Value} (h : w.cell? a = some v) : a.block < w.heap.size := World.block_lt_of_cell? w a h

/-- Of the blocks F nothing has turned. -/
def Same (F : Nat → Prop) (w w' : World) : Prop := ∀ k, F k → w'.heap[k]? = w.heap[k]?
theorem Same.refl (F : Nat → Prop) (w : World) : Same F w w := fun _ _ => rfl
theorem Same.trans {F : Nat → Prop} {a b c : World} (h : Same F a b) (k : Same F b c) : Same F a c := fun i hi => (k i hi).trans (h i hi)
theorem Same.mono {F F' : Nat → Prop} {a b : World} (h : Same F a b) (hf : ∀ k, F' k → F k) : Same F' a b := fun i hi => h i (hf i hi)
theorem Same.of_below {B : Nat} {F : Nat → Prop} {w w' : World} (h : Below B w w') (hf : ∀ k, F k → k < B) : Same F w w' := fun k hk => h.block k (hf k hk)
theorem Same.of_grown {row : Option Nat} {F : Nat → Prop} {w w' : World} (h : w.grownBy w' row) (hf : ∀ k, F k → k < w.heap.size ∧ some k ≠ row) : Same F w w' := fun k hk => h.block k (hf k hk).1 (hf k hk).2

/-- What a value's cells say, reading in the blocks F alone. -/
structure Rep (α : Type) where
  sz : Nat
  K : World → (Nat → Prop) → α → List Value → Prop
  len : ∀ {w F x cs}, K w F x cs → cs.length = sz
  one : ∀ {w F x cs}, K w F x cs → ∀ u ∈ cs, u.oneCell' = true
  move : ∀ {w w' F x cs}, Same F w w' → K w F x cs → K w' F x cs
  mono : ∀ {w} {F F' : Nat → Prop} {x cs}, (∀ k, F k → F' k) → K w F x cs → K w F' x cs

/-- One cell that says all by itself. -/
def Rep.flat {α : Type} (f : α → Value) (h : ∀ x, (f x).oneCell' = true) : Rep α where
  sz := 1
  K := fun _ _ x cs => cs = [f x]
  len := by rintro w F x cs rfl; rfl
  one := by
    rintro w F x cs rfl u hu
    rw [List.mem_singleton] at hu
    subst hu
    exact h x
  move := fun _ h => h
  mono := fun _ h => h
def vu8 (b : UInt8) : Value := .int .u8 (b.toNat : Int)
def rU8 : Rep UInt8 := Rep.flat vu8 (fun _ => rfl)
def rI64 : Rep Int64 := Rep.flat (fun n => .int .i64 n.toInt) (fun _ => rfl)
def rU64 : Rep UInt64 := Rep.flat (fun n => .int .u64 (n.toNat : Int)) (fun _ => rfl)
def rBool : Rep Bool := Rep.flat (fun b => .bool b) (fun _ => rfl)
def rStr : Rep ByteArray := Rep.flat (fun s => .string s) (fun _ => rfl)
/-- One behind the other. -/
def Rep.pair {α β : Type} (r : Rep α) (s : Rep β) : Rep (α × β) where
  sz := r.sz + s.sz
  K := fun w F x cs => ∃ c d, cs = c ++ d ∧ r.K w F x.1 c ∧ s.K w F x.2 d
  len := by
    rintro w F x cs ⟨c, d, rfl, hc, hd⟩
    rw [List.length_append, r.len hc, s.len hd]
  one := by
    rintro w F x cs ⟨c, d, rfl, hc, hd⟩ u hu
    rcases List.mem_append.1 hu with hu | hu
    · exact r.one hc u hu
    · exact s.one hd u hu
  move := by
    rintro w w' F x cs hs ⟨c, d, rfl, hc, hd⟩
    exact ⟨c, d, rfl, r.move hs hc, s.move hs hd⟩
  mono := by
    rintro w F F' x cs hf ⟨c, d, rfl, hc, hd⟩
    exact ⟨c, d, rfl, r.mono hf hc, s.mono hf hd⟩
/-- By another name. -/
def Rep.by_ {α β : Type} (r : Rep α) (f : β → α) : Rep β where
  sz := r.sz
  K := fun w F x cs => r.K w F (f x) cs
  len := r.len
  one := r.one
  move := r.move
  mono := r.mono

/-- No cell. -/
def rUnit : Rep Unit where
  sz := 0
  K := fun _ _ _ cs => cs = []
  len := by rintro w F x cs rfl; rfl
  one := by rintro w F x cs rfl u hu; cases hu
  move := fun _ h => h
  mono := fun _ h => h
/-- So many, one behind the other. -/
def Rep.array {α : Type} (r : Rep α) (n : Nat) : Rep (List α) where
  sz := n * r.sz
  K := fun w F xs cs => xs.length = n ∧ cs.length = n * r.sz ∧ ∀ i x, xs[i]? = some x → r.K w F x ((cs.drop (i * r.sz)).take r.sz)
  len := by rintro w F x cs ⟨_, h, _⟩; exact h
  one := by
    rintro w F xs cs ⟨hn, hl, h⟩ u hu
    obtain ⟨p, hp, rfl⟩ := List.getElem_of_mem hu
    by_cases hz : r.sz = 0
    · rw [hl, hz, Nat.mul_zero] at hp; omega
    have hi : p / r.sz < xs.length := by
      rw [Nat.div_lt_iff_lt_mul (by omega), hn, ← hl]
      exact hp
    have hk := h (p / r.sz) _ (List.getElem?_eq_getElem hi)
    refine r.one hk _ ?_
    have hm : p % r.sz < r.sz := Nat.mod_lt _ (by omega)
    have hd : p / r.sz * r.sz + p % r.sz = p := Nat.div_add_mod' p r.sz
    have : ((cs.drop (p / r.sz * r.sz)).take r.sz)[p % r.sz]? = some cs[p] := by
      rw [List.getElem?_take, if_pos hm, List.getElem?_drop, hd, List.getElem?_eq_getElem hp]
    exact List.mem_of_getElem? this
  move := by
    rintro w w' F x cs hs ⟨h1, h2, h⟩
    exact ⟨h1, h2, fun i x hi => r.move hs (h i x hi)⟩
  mono := by
    rintro w F F' x cs hf ⟨h1, h2, h⟩
    exact ⟨h1, h2, fun i x hi => r.mono hf (h i x hi)⟩

/-- A slice that is read. -/
def Sl {α : Type} (r : Rep α) (w : World) (F : Nat → Prop) (A : Option Addr) (n c : Nat) (xs : List α) : Prop :=
  n ≤ c ∧ c ≤ 9223372036854775807 ∧ xs.length = n ∧
    (0 < n → ∃ ad, A = some ad ∧ F ad.block ∧ ∀ i x, xs[i]? = some x → ∃ cs, r.K w F x cs ∧ ∀ j u, cs[j]? = some u → w.cell? (ad.add (i * r.sz + j)) = some u)
section
variable {α : Type} {r : Rep α} {w w' : World} {F F' : Nat → Prop} {A : Option Addr} {n c : Nat} {xs : List α}
theorem Sl.nil (r : Rep α) (w : World) (F : Nat → Prop) (A : Option Addr) (c : Nat) (hc : c ≤ 9223372036854775807) : Sl r w F A 0 c [] := ⟨Nat.zero_le _, hc, rfl, fun h => absurd h (Nat.lt_irrefl 0)⟩
theorem Sl.le (h : Sl r w F A n c xs) : n ≤ c := h.1
theorem Sl.max_ (h : Sl r w F A n c xs) : c ≤ 9223372036854775807 := h.2.1
theorem Sl.len (h : Sl r w F A n c xs) : xs.length = n := h.2.2.1
theorem Sl.move (h : Sl r w F A n c xs) (hs : Same F w w') : Sl r w' F A n c xs := by
  refine ⟨h.1, h.2.1, h.2.2.1, fun hn => ?_⟩
  obtain ⟨ad, e, hf, hc⟩ := h.2.2.2 hn
  refine ⟨ad, e, hf, fun i x hi => ?_⟩
  obtain ⟨cs, hk, hcell⟩ := hc i x hi
  refine ⟨cs, r.move hs hk, fun j u hj => ?_⟩
  exact (cell_same (by rw [block_add]; exact hs _ hf)).trans (hcell j u hj)
theorem Sl.mono (h : Sl r w F A n c xs) (hf : ∀ k, F k → F' k) : Sl r w F' A n c xs := by
  refine ⟨h.1, h.2.1, h.2.2.1, fun hn => ?_⟩
  obtain ⟨ad, e, hb, hc⟩ := h.2.2.2 hn
  refine ⟨ad, e, hf _ hb, fun i x hi => ?_⟩
  obtain ⟨cs, hk, hcell⟩ := hc i x hi
  exact ⟨cs, r.mono hf hk, hcell⟩
theorem Sl.take_ (h : Sl r w F A n c xs) {k : Nat} (hk : k ≤ n) : Sl r w F A k c (xs.take k) := by
  refine ⟨Nat.le_trans hk h.1, h.2.1, by rw [List.length_take, h.len]; omega, fun hn => ?_⟩
  obtain ⟨ad, e, hb, hc⟩ := h.2.2.2 (by omega)
  refine ⟨ad, e, hb, fun i x hi => hc i x ?_⟩
  rw [List.getElem?_take] at hi
  split at hi
  · exact hi
  · cases hi
theorem Sl.drop_ (h : Sl r w F A n c xs) {k : Nat} (hk : k ≤ n) : Sl r w F (if c = k then A else A.map (·.add (k * r.sz))) (n - k) (c - k) (xs.drop k) := by
  refine ⟨by have := h.1; omega, by have := h.2.1; omega, by rw [List.length_drop, h.len], fun hn => ?_⟩
  obtain ⟨ad, rfl, hb, hc⟩ := h.2.2.2 (by omega)
  rw [if_neg (by have := h.1; omega)]
  refine ⟨ad.add (k * r.sz), rfl, by rw [block_add]; exact hb, fun i x hi => ?_⟩
  rw [List.getElem?_drop] at hi
  obtain ⟨cs, hK, hcell⟩ := hc (k + i) x hi
  refine ⟨cs, hK, fun j u hj => ?_⟩
  rw [add_add', ← Nat.add_assoc, ← Nat.add_mul]
  exact hcell j u hj
/-- An element of a slice that is read. -/
theorem Sl.at_ (h : Sl r w F A n c xs) {i : Nat} {x : α} (hi : xs[i]? = some x) : ∃ ad cs, A = some ad ∧ F ad.block ∧ r.K w F x cs ∧ ∀ j u, cs[j]? = some u → w.cell? (ad.add (i * r.sz + j)) = some u := by
  have hl : i < xs.length := (List.getElem?_eq_some_iff.1 hi).1
  obtain ⟨ad, e, hb, hc⟩ := h.2.2.2 (by have := h.len; omega)
  obtain ⟨cs, hk, hcell⟩ := hc i x hi
  exact ⟨ad, cs, e, hb, hk, hcell⟩
theorem Sl.some_ (h : Sl r w F A n c xs) (hn : 0 < n) : ∃ ad, A = some ad ∧ F ad.block := by
  obtain ⟨ad, e, hb, _⟩ := h.2.2.2 hn
  exact ⟨ad, e, hb⟩
end
theorem Sl.byte {w : World} {F : Nat → Prop} {A : Option Addr} {n c : Nat} {l : List UInt8} (h : Sl rU8 w F A n c l) {i : Nat} {b : UInt8} (hi : l[i]? = some b) : ∃ ad, A = some ad ∧ F ad.block ∧ w.cell? (ad.add i) = some (.int .u8 (b.toNat : Int)) := by
  obtain ⟨ad, cs, e, hb, hk, hcell⟩ := h.at_ hi
  have hk' : cs = [vu8 b] := hk
  subst hk'
  refine ⟨ad, e, hb, ?_⟩
  have := hcell 0 _ rfl
  simpa [rU8, Rep.flat, vu8] using this

/-- A slice as an element of what is read. -/
def Rep.slice {α : Type} (r : Rep α) : Rep (List α) where
  sz := 1
  K := fun w F xs cs => ∃ A c, cs = [.slice A xs.length c] ∧ Sl r w F A xs.length c xs
  len := by rintro w F x cs ⟨A, c, rfl, _⟩; rfl
  one := by
    rintro w F x cs ⟨A, c, rfl, _⟩ u hu
    rw [List.mem_singleton] at hu
    subst hu
    rfl
  move := by
    rintro w w' F x cs hs ⟨A, c, rfl, h⟩
    exact ⟨A, c, rfl, h.move hs⟩
  mono := by
    rintro w F F' x cs hf ⟨A, c, rfl, h⟩
    exact ⟨A, c, rfl, h.mono hf⟩

/-- The elements, read in F, whose cells lie one behind the other. -/
def Els {α : Type} (r : Rep α) (w : World) (F : Nat → Prop) (xs : List α) (cells : List Value) : Prop :=
  cells.length = xs.length * r.sz ∧ ∀ i x, xs[i]? = some x → r.K w F x ((cells.drop (i * r.sz)).take r.sz)
section
variable {α : Type} {r : Rep α} {w w' : World} {F F' : Nat → Prop} {xs ys : List α} {cs ds : List Value}
theorem Els.nil (r : Rep α) (w : World) (F : Nat → Prop) : Els r w F [] [] := ⟨by simp, fun i x h => by simp at h⟩
theorem Els.move (h : Els r w F xs cs) (hs : Same F w w') : Els r w' F xs cs := ⟨h.1, fun i x hi => r.move hs (h.2 i x hi)⟩
theorem Els.mono (h : Els r w F xs cs) (hf : ∀ k, F k → F' k) : Els r w F' xs cs := ⟨h.1, fun i x hi => r.mono hf (h.2 i x hi)⟩
theorem Els.append (h : Els r w F xs cs) (k : Els r w F ys ds) : Els r w F (xs ++ ys) (cs ++ ds) := by
  refine ⟨by rw [List.length_append, List.length_append, h.1, k.1, Nat.add_mul], fun i x hi => ?_⟩
  rcases Nat.lt_or_ge i xs.length with hlt | hge
  · rw [List.getElem?_append_left hlt] at hi
    have hle : i * r.sz + r.sz ≤ cs.length := by rw [h.1, ← Nat.succ_mul]; exact Nat.mul_le_mul_right _ hlt
    rw [List.drop_append_of_le_length (by omega), List.take_append_of_le_length (by rw [List.length_drop]; omega)]
    exact h.2 i x hi
  · rw [List.getElem?_append_right hge] at hi
    have hle : cs.length ≤ i * r.sz := by rw [h.1]; exact Nat.mul_le_mul_right _ hge
    rw [List.drop_append, List.drop_eq_nil_of_le hle, List.nil_append, h.1, ← Nat.sub_mul]
    exact k.2 _ x hi
theorem Els.one_ {x : α} (h : r.K w F x cs) : Els r w F [x] cs := by
  refine ⟨by rw [r.len h]; simp, fun i y hi => ?_⟩
  match i, hi with
  | 0, hi =>
    simp at hi
    subst hi
    simpa [← r.len h] using h
theorem Els.oneCell (h : Els r w F xs cs) : ∀ u ∈ cs, u.oneCell' = true := by
  intro u hu
  obtain ⟨p, hp, rfl⟩ := List.getElem_of_mem hu
  by_cases hz : r.sz = 0
  · rw [h.1, hz, Nat.mul_zero] at hp; omega
  have hi : p / r.sz < xs.length := by
    rw [Nat.div_lt_iff_lt_mul (by omega)]
    rw [← h.1]; exact hp
  have hk := h.2 (p / r.sz) _ (List.getElem?_eq_getElem hi)
  refine r.one hk _ ?_
  have hm : p % r.sz < r.sz := Nat.mod_lt _ (by omega)
  have hd : p / r.sz * r.sz + p % r.sz = p := Nat.div_add_mod' p r.sz
  have : ((cs.drop (p / r.sz * r.sz)).take r.sz)[p % r.sz]? = some cs[p] := by
    rw [List.getElem?_take, if_pos hm, List.getElem?_drop, hd, List.getElem?_eq_getElem hp]
  exact List.mem_of_getElem? this
end
/-- What is read as a slice has its cells one behind the other. -/
theorem Sl.els {α : Type} {r : Rep α} {w : World} {F : Nat → Prop} {ad : Addr} {n c : Nat} {xs : List α} (h : Sl r w F (some ad) n c xs) : ∃ cells, Els r w F xs cells ∧ ∀ j u, cells[j]? = some u → w.cell? (ad.add j) = some u := by
  have key : ∀ m, m ≤ xs.length → ∃ cells, Els r w F (xs.take m) cells ∧ ∀ j u, cells[j]? = some u → w.cell? (ad.add j) = some u := by
    intro m
    induction m with
    | zero => exact fun _ => ⟨[], Els.nil _ _ _, fun j u hu => by simp at hu⟩
    | succ m ih =>
      intro hm
      obtain ⟨cells, he, hc⟩ := ih (by omega)
      have hx := List.getElem?_eq_getElem (show m < xs.length by omega)
      obtain ⟨ad', cs, e, _, hk, hcell⟩ := h.at_ hx
      injection e with e
      subst e
      refine ⟨cells ++ cs, ?_, fun j u hu => ?_⟩
      · rw [List.take_succ_eq_append_getElem (show m < xs.length by omega)]
        exact he.append (Els.one_ hk)
      · have hl : cells.length = m * r.sz := by rw [he.1, List.length_take, Nat.min_eq_left (by omega)]
        rcases Nat.lt_or_ge j cells.length with hj | hj
        · rw [List.getElem?_append_left hj] at hu
          exact hc j u hu
        · rw [List.getElem?_append_right hj] at hu
          have := hcell _ u hu
          rwa [hl, Nat.add_sub_cancel' (by omega)] at this
  obtain ⟨cells, he, hc⟩ := key xs.length (Nat.le_refl _)
  rw [List.take_length] at he
  exact ⟨cells, he, hc⟩
theorem Sl.of_els {α : Type} {r : Rep α} {w : World} {F : Nat → Prop} {ad : Addr} {c : Nat} {xs : List α} {cells : List Value} (he : Els r w F xs cells) (hc : ∀ j u, cells[j]? = some u → w.cell? (ad.add j) = some u) (hF : 0 < xs.length → F ad.block)
    (hle : xs.length ≤ c) (hm : c ≤ 9223372036854775807) : Sl r w F (some ad) xs.length c xs := by
  refine ⟨hle, hm, rfl, fun hn => ⟨ad, rfl, hF hn, fun i x hi => ⟨_, he.2 i x hi, fun j u hj => ?_⟩⟩⟩
  rw [List.getElem?_take] at hj
  split at hj
  · rw [List.getElem?_drop] at hj
    exact hc _ u hj
  · cases hj

/-- A row of the call's own (its block from 'base' on); what its elements lead to lies in F. -/
def Ow {α : Type} (r : Rep α) (e : TypeId) (w : World) (base : Nat) (F : Nat → Prop) (v : Value) (xs : List α) : Prop :=
  ∃ cells, w.ownsRow base e r.sz v xs.length cells ∧ Els r w F xs cells
section
variable {α : Type} {r : Rep α} {e : TypeId} {w w' : World} {base : Nat} {F F' : Nat → Prop} {v : Value} {xs : List α}
theorem Ow.nil (r : Rep α) (e : TypeId) (w : World) (base : Nat) (F : Nat → Prop) : Ow r e w base F (.slice none 0 0) [] := ⟨[], World.ownsRow_nil _ _ _ _, Els.nil _ _ _⟩
theorem Ow.lt (h : Ow r e w base F v xs) : ∀ k, v.ownBlock = some k → base ≤ k ∧ k < w.heap.size := by
  obtain ⟨cells, ho, _⟩ := h
  exact ho.lt
theorem Ow.mono (h : Ow r e w base F v xs) (hf : ∀ k, F k → F' k) : Ow r e w base F' v xs := by
  obtain ⟨cells, ho, he⟩ := h
  exact ⟨cells, ho, he.mono hf⟩
theorem own_same {n size : Nat} {cells : List Value} (h : w.ownsRow base e size v n cells) (hm : ∀ k, v.ownBlock = some k → w'.heap[k]? = w.heap[k]?) : w'.ownsRow base e size v n cells := by
  obtain ⟨h1, h2⟩ := h
  refine ⟨h1, ?_⟩
  rcases h2 with h2 | ⟨g, cap, cur, rfl, hg, hh, r⟩
  · exact .inl h2
  · exact .inr ⟨g, cap, cur, rfl, hg, (hm g (by simp [Value.ownBlock])).trans hh, r⟩
theorem Ow.move (h : Ow r e w base F v xs) (hs : Same F w w') (hm : ∀ k, v.ownBlock = some k → w'.heap[k]? = w.heap[k]?) : Ow r e w' base F v xs := by
  obtain ⟨cells, ho, he⟩ := h
  exact ⟨cells, own_same ho hm, he.move hs⟩
/-- What only makes memory leaves it. -/
theorem Ow.below (h : Ow r e w base F v xs) (hb : Below w.heap.size w w') (hf : ∀ k, F k → k < w.heap.size) : Ow r e w' base F v xs :=
  h.move (Same.of_below hb hf) (fun k hk => hb.block k (h.lt k hk).2)
theorem Ow.grown (h : Ow r e w base F v xs) {row : Option Nat} (hg : w.grownBy w' row) (hf : ∀ k, F k → k < w.heap.size ∧ some k ≠ row) (hv : v.ownBlock = none ∨ v.ownBlock ≠ row) : Ow r e w' base F v xs :=
  h.move (Same.of_grown hg hf) (fun k hk => hg.block k (h.lt k hk).2 (by rcases hv with hv | hv <;> rw [hk] at hv <;> simp_all))
/-- It reads as a slice. -/
theorem Ow.sl (h : Ow r e w base F v xs) : ∃ A c, v = .slice A xs.length c ∧ Sl r w (fun k => F k ∨ v.ownBlock = some k) A xs.length c xs := by
  obtain ⟨cells, ho, he⟩ := h
  rcases ho.2 with ⟨rfl, hn⟩ | ⟨g, cap, cur, rfl, hbg, hg, hnc, hcm, hcs, htake⟩
  · have hx : xs = [] := List.eq_nil_of_length_eq_zero hn
    subst hx
    exact ⟨none, 0, rfl, Sl.nil _ _ _ _ _ (by omega)⟩
  · refine ⟨_, cap, rfl, Sl.of_els (he.mono fun k hk => .inl hk) (ho.cells (g := g) rfl) (fun _ => .inr rfl) hnc (by simpa [maxLen] using hcm)⟩
end

/-! ### what the operations do -/
section
variable {P : Program}
theorem exec_append {o : Oper} {a : Act} {s x : Operand} {t u : TypeId} {v y : Value} (w : World) (ho : o.op = .call { callee := .builtin .append, args := #[s, x], argTypes := #[t, u] }) (hs : a.eval s = v) (hx : a.eval x = y)
    {v' : Value} {w' : World} (hr : (Builtin.append_ #[t, u] o.type #[v, y]).run P w = .ok v' w') : (execOp a.eval o).run P w = .ok (.value v') w' := by
  unfold execOp
  simp only [ho, resolve, invoke, builtin, Sem.run_bind, Sem.run_pure, Result.andThen_ok, List.map_toArray, List.map_cons, List.map_nil, hs, hx, hr]
theorem wpList_ok {ops : Array Oper} {rest : List Oper} {o : Oper} {a : Act} {w w' : World} {Q : Exit → Act → World → Prop} {v : Value} (hgd : o.guard = none) (hrun : (execOp a.eval o).run P w = .ok (.value v) w') (h : wpList P ops Q rest (a.put o.dst v) w') : wpList P ops Q (o :: rest) a w := by
  refine wpList_plain hgd fun K hK => ?_
  unfold Oper.wp
  rw [hrun]
  exact hK _ _ h
theorem wpList_okG {ops : Array Oper} {rest : List Oper} {o : Oper} {a : Act} {w w' : World} {Q : Exit → Act → World → Prop} {v : Value} (hw : Region.wanted o (yielded ops a.tmps) = true) (hrun : (execOp a.eval o).run P w = .ok (.value v) w') (h : wpList P ops Q rest (a.put o.dst v) w') : wpList P ops Q (o :: rest) a w := by
  unfold wpList
  rw [if_pos hw]
  refine .inl ?_
  unfold Oper.wp
  rw [hrun]
  exact h

/-- append(v, ys...): v a row of the call's own, ys read. -/
theorem run_app {α : Type} (r : Rep α) (w : World) (base : Nat) (t ty e : TypeId) (z : Value) (bytes : Nat) (ht : P.underlying t = some (.slice e)) (hinfo : (P.info? e).map (fun i => (i.zero, i.size, i.bytes)) = some (some z, r.sz, bytes)) (hz : z.cells.size = r.sz) (hsz : 0 < r.sz) (hb : 0 < bytes)
    (F G : Nat → Prop) (v : Value) (xs ys : List α) (A : Option Addr) (m c : Nat) (hv : Ow r e w base F v xs) (hy : Sl r w G A m c ys) (hbase : base ≤ w.heap.size) (hl : (xs.length + m) * bytes ≤ 140737488355328)
    (hF : ∀ k, F k → k < w.heap.size ∧ some k ≠ v.ownBlock) (hG : ∀ cs x, r.K w G x cs → r.K w F x cs) :
    ∃ v' w', (Builtin.append_ #[t, t] ty #[v, .slice A m c]).run P w = .ok v' w' ∧ Ow r e w' base F v' (xs ++ ys) ∧ w.grownBy w' v.ownBlock ∧ (v'.ownBlock = v.ownBlock ∨ v'.ownBlock = some w.heap.size) := by
  obtain ⟨i0, hi, hzz⟩ := Option.map_eq_some_iff.1 hinfo
  simp only [Prod.mk.injEq] at hzz
  obtain ⟨hz0, hz1, hz2⟩ := hzz
  obtain ⟨cells, ho, he⟩ := hv
  have hm : ys.length = m := hy.len
  have hlen : xs.length + m ≤ 140737488355328 := Nat.le_trans (Nat.le_mul_of_pos_right _ hb) hl
  rcases A with _ | ad
  · have h0 : m = 0 := by
      rcases Nat.eq_zero_or_pos m with h0 | h0
      · exact h0
      · obtain ⟨ad, h, _⟩ := hy.some_ h0
        cases h
    subst h0
    obtain rfl : ys = [] := List.eq_nil_of_length_eq_zero hm
    refine ⟨v, w, ?_, ⟨cells, by simpa using ho, by simpa using he⟩, World.grownBy.refl w _, .inl rfl⟩
    rcases ho.2 with ⟨rfl, hn⟩ | ⟨g, cap, cur, rfl, _, _, hnc, _⟩
    · simp [Builtin.append_, run_underlying ht, sizeOf, typeInfo, hi, Builtin.lenOf, Builtin.firstCells]
    · simp [Builtin.append_, run_underlying ht, sizeOf, typeInfo, hi, Builtin.lenOf, Builtin.firstCells, hnc, storeCells]
  · obtain ⟨news, hn, hcell⟩ := hy.els
    have hn' : Els r w F ys news := ⟨hn.1, fun i x hx => hG _ _ (hn.2 i x hx)⟩
    obtain ⟨v1, w1, hr, h2, h3, _, h5⟩ := run_append_own_at (P := P) w base t ty e i0 z r.sz bytes ht hi hz0 hz1 hz2 hz hsz v xs.length cells ho ad m c news (by rw [hn.1, hm]) hcell hn.oneCell (by simp only [maxLen]; omega) hl hbase
    exact ⟨v1, w1, hr, ⟨cells ++ news, by rw [List.length_append, hm]; exact h2, (he.append hn').move (Same.of_grown h3 hF)⟩, h3, h5⟩

/-- At the operation. -/
theorem wpList_app {α : Type} (r : Rep α) {w0 W : World} {ops : Array Oper} {rest : List Oper} {o : Oper} {a : Act} {Q : Exit → Act → World → Prop} (base : Nat) (hgd : o.guard = none) (s x : Operand) (t e : TypeId) (z : Value) (bytes : Nat)
    (ho : o.op = .call { callee := .builtin .append, args := #[s, x], argTypes := #[t, t] })
    (ht : P.underlying t = some (.slice e)) (hinfo : (P.info? e).map (fun i => (i.zero, i.size, i.bytes)) = some (some z, r.sz, bytes)) (hz : z.cells.size = r.sz) (hsz : 0 < r.sz) (hb : 0 < bytes)
    (F G : Nat → Prop) (v : Value) (xs ys : List α) (A : Option Addr) (m c : Nat) (hs : a.eval s = v) (hx : a.eval x = .slice A m c) (hv : Ow r e W base F v xs) (hy : Sl r W G A m c ys) (hB : Below base w0 W) (hbase : base ≤ W.heap.size) (hl : (xs.length + m) * bytes ≤ 140737488355328)
    (hF : ∀ k, F k → k < W.heap.size ∧ some k ≠ v.ownBlock) (hG : ∀ cs x, r.K W G x cs → r.K W F x cs)
    (h : ∀ v1 w1, Ow r e w1 base F v1 (xs ++ ys) → Below base w0 w1 → W.grownBy w1 v.ownBlock → (v1.ownBlock = v.ownBlock ∨ v1.ownBlock = some W.heap.size) → wpList P ops Q rest (a.put o.dst v1) w1) : wpList P ops Q (o :: rest) a W := by
  obtain ⟨v1, w1, hr, h2, h3, h4⟩ := run_app (P := P) r W base t o.type e z bytes ht hinfo hz hsz hb F G v xs ys A m c hv hy hbase hl hF hG
  refine wpList_ok hgd (exec_append W ho hs hx hr) (h v1 w1 h2 (hB.grown h3 hbase (fun k hk => (hv.lt k hk).1)) h3 h4)
end
/-- A literal of the call's own: behind 'buildSlice'. -/
theorem Ow.lit {α : Type} {r : Rep α} {F : Nat → Prop} {xs : List α} {cells : Array Value} (W : World) (base : Nat) (e : TypeId) (hb : base ≤ W.heap.size) (he : Els r (W.alloc (.cells cells e)) F xs cells.toList) (hm : xs.length ≤ 9223372036854775807) :
    Ow r e (W.alloc (.cells cells e)) base F (.slice (some ⟨W.heap.size, 0, none⟩) xs.length xs.length) xs :=
  ⟨cells.toList, World.ownsRow_lit W cells xs.length hb (by simpa [maxLen] using hm) (by rw [← Array.length_toList]; exact he.1), he⟩
theorem Sl.box {α : Type} {r : Rep α} {F : Nat → Prop} {xs : List α} {cells : Array Value} (W : World) (e : TypeId) (he : Els r (W.alloc (.cells cells e)) F xs cells.toList) (hm : xs.length ≤ 9223372036854775807) :
    Sl r (W.alloc (.cells cells e)) (fun k => F k ∨ k = W.heap.size) (some ⟨W.heap.size, 0, none⟩) xs.length xs.length xs :=
  Sl.of_els (he.mono fun _ hk => .inl hk) (World.news_of_block (heap_alloc_new W _)) (fun _ => .inr rfl) (Nat.le_refl _) hm
theorem Els.bytes (w : World) (F : Nat → Prop) (xs : List UInt8) : Els rU8 w F xs (xs.map vu8) := by
  refine ⟨by simp [rU8, Rep.flat], fun i x hi => ?_⟩
  show (((xs.map vu8).drop (i * 1)).take 1) = [vu8 x]
  have hl : i < xs.length := (List.getElem?_eq_some_iff.1 hi).1
  rw [Nat.mul_one, List.drop_eq_getElem_cons (by simpa using hl)]
  obtain ⟨_, hx⟩ := List.getElem?_eq_some_iff.1 hi
  subst hx
  simp
theorem Els.bytes' {w : World} {F : Nat → Prop} {xs : List UInt8} {cells : Array Value} (h : cells.toList = xs.map vu8) : Els rU8 w F xs cells.toList := by rw [h]; exact Els.bytes w F xs
theorem Sl.boxB {xs : List UInt8} {cells : Array Value} {n : Nat} (W : World) (e : TypeId) (h : cells.toList = xs.map vu8) (hn : xs.length = n) (hm : n ≤ 9223372036854775807) :
    Sl rU8 (W.alloc (.cells cells e)) (fun k => k = W.heap.size) (some ⟨W.heap.size, 0, none⟩) n n xs := by
  subst hn
  exact (Sl.box (F := fun _ => False) W e (Els.bytes' h) hm).mono (fun k hk => hk.resolve_left id)
theorem Ow.litB {xs : List UInt8} {cells : Array Value} {n : Nat} (W : World) (base : Nat) (e : TypeId) (hb : base ≤ W.heap.size) (h : cells.toList = xs.map vu8) (hn : xs.length = n) (hm : n ≤ 9223372036854775807) :
    Ow rU8 e (W.alloc (.cells cells e)) base (fun _ => False) (.slice (some ⟨W.heap.size, 0, none⟩) n n) xs := by
  subst hn
  exact Ow.lit W base e hb (Els.bytes' h) hm
theorem below_alloc' {B : Nat} {w W : World} (h : Below B w W) (hB : B ≤ W.heap.size) (o : Obj) : Below B w (W.alloc o) := h.alloc hB o
theorem below_drewN' {B : Nat} {w W : World} (h : Below B w W) (n : Nat) : Below B w (W.drewN n) := ⟨h.os, h.tape, h.output, h.size, h.block⟩
theorem Same.alloc {F : Nat → Prop} {w W : World} (h : Same F w W) (hF : ∀ k, F k → k < W.heap.size) (o : Obj) : Same F w (W.alloc o) := fun k hk => (Below.heap_alloc W o k (hF k hk)).trans (h k hk)
theorem size_alloc' (W : World) (o : Obj) : (W.alloc o).heap.size = W.heap.size + 1 := by simp

/-! ### cuts of a slice -/
section
variable {P : Program} {α : Type}
theorem slice_from (r : Rep α) (t e : TypeId) {i : TypeInfo} (ht : P.underlying t = some (.slice e)) (hi : P.info? e = some i) (hsz : i.size = r.sz) (A : Option Addr) (n c : Nat) (kl : IntKind) (j : Int) (h0 : 0 ≤ j) (hj : j ≤ n) :
    ∃ A' : Option Addr, (∀ W : World, (Instr.slice t (.slice A n c) (some (.int kl j)) none none).run P W = .ok (.slice A' (n - j.toNat) (c - j.toNat)) W) ∧
      ∀ {w : World} {F : Nat → Prop} {xs : List α}, Sl r w F A n c xs → Sl r w F A' (n - j.toNat) (c - j.toNat) (xs.drop j.toNat) := by
  refine ⟨if c = j.toNat then A else A.map (·.add (j.toNat * r.sz)), fun W => ?_, fun h => h.drop_ (by omega)⟩
  have hel : P.elem t = e := by simp [Program.elem, ht]
  have hu : P.underlying t = some (.slice (P.elem t)) := by rw [hel]; exact ht
  rw [run_slice_l W t A n c hu kl j h0 hj, hel]
  simp [sizeOf, typeInfo, hi, hsz, sliced, Result.andThen]
theorem slice_to (r : Rep α) (t e : TypeId) {i : TypeInfo} (ht : P.underlying t = some (.slice e)) (hi : P.info? e = some i) (A : Option Addr) (n c : Nat) (kh : IntKind) (j : Int) (h0 : 0 ≤ j) (hj : j ≤ n) (hc : n ≤ c) :
    (∀ W : World, (Instr.slice t (.slice A n c) none (some (.int kh j)) none).run P W = .ok (.slice A j.toNat c) W) ∧
      ∀ {w : World} {F : Nat → Prop} {xs : List α}, Sl r w F A n c xs → Sl r w F A j.toNat c (xs.take j.toNat) := by
  refine ⟨fun W => ?_, fun h => h.take_ (by omega)⟩
  have hel : P.elem t = e := by simp [Program.elem, ht]
  have hu : P.underlying t = some (.slice (P.elem t)) := by rw [hel]; exact ht
  have ha : (A.map fun x => x.add 0) = A := by cases A <;> simp [Addr.add]
  rw [run_slice_h W t A n c hu kh j h0 (by omega), hel]
  simp [sizeOf, typeInfo, hi, sliced, Result.andThen, ha]
theorem slice_mid (r : Rep α) (t e : TypeId) {i : TypeInfo} (ht : P.underlying t = some (.slice e)) (hi : P.info? e = some i) (hsz : i.size = r.sz) (A : Option Addr) (n c : Nat) (kl kh : IntKind) (a b : Int) (h0 : 0 ≤ a) (h1 : a ≤ b) (hb : b ≤ n) (hc : n ≤ c) :
    ∃ A' : Option Addr, (∀ W : World, (Instr.slice t (.slice A n c) (some (.int kl a)) (some (.int kh b)) none).run P W = .ok (.slice A' (b.toNat - a.toNat) (c - a.toNat)) W) ∧
      ∀ {w : World} {F : Nat → Prop} {xs : List α}, Sl r w F A n c xs → Sl r w F A' (b.toNat - a.toNat) (c - a.toNat) ((xs.take b.toNat).drop a.toNat) := by
  refine ⟨if c = a.toNat then A else A.map (·.add (a.toNat * r.sz)), fun W => ?_, fun h => (h.take_ (by omega)).drop_ (by omega)⟩
  have hel : P.elem t = e := by simp [Program.elem, ht]
  have hu : P.underlying t = some (.slice (P.elem t)) := by rw [hel]; exact ht
  rw [run_slice_lh W t A n c hu kl kh a b h0 h1 (by omega), hel]
  simp [sizeOf, typeInfo, hi, hsz, sliced, Result.andThen]
end
theorem Same.drewN {F : Nat → Prop} {w W : World} (h : Same F w W) (n : Nat) : Same F w (W.drewN n) := h
/-- Bytes as a string. -/
theorem run_str {P : Program} (src e dst : TypeId) (hs : P.underlying src = some (.slice e)) (he : P.underlying e = some (.int .u8)) (hd : P.underlying dst = some .string) {w : World} {F : Nat → Prop} {A : Option Addr} {n c : Nat} {l : List UInt8} (h : Sl rU8 w F A n c l) :
    (convert src dst (.slice A n c)).run P w = .ok (.string ⟨l.toArray⟩) w := by
  rcases A with _ | ad
  · have h0 : n = 0 := by
      rcases Nat.eq_zero_or_pos n with h0 | h0
      · exact h0
      · obtain ⟨ad, h, _⟩ := h.some_ h0
        cases h
    subst h0
    obtain rfl : l = [] := List.eq_nil_of_length_eq_zero h.len
    rw [run_convert_bytes_string w src dst e _ 0 c hs he hd]
    simp [Conv.bytesToString]
    rfl
  · have hl : (loadCells ad n).run P w = .ok ((l.map fun b => (b.toNat : Int)).map (Value.int .u8)).toArray w := by
      have := run_loadCells_list (P := P) w ad ((l.map fun b => (b.toNat : Int)).map (Value.int .u8)) (fun j v hj => by
        simp only [List.getElem?_map, Option.map_map, Option.map_eq_some_iff] at hj
        obtain ⟨b, hb, rfl⟩ := hj
        obtain ⟨ad', e, _, hc⟩ := h.byte hb
        injection e with e
        subst e
        exact hc)
      simpa [h.len] using this
    rw [run_convert_bytes_string w src dst e _ n c hs he hd, run_bytesToString w _ n c _ hl, foldl_push_bytes]
    simp [ByteArray.empty, ByteArray.emptyWithCapacity]
    have : ((fun n : Int => UInt8.ofNat n.toNat) ∘ fun b : UInt8 => (b.toNat : Int)) = id := by
      funext b
      simp
    rw [this, List.map_id]
    rfl

/-! ### a row of the call's own whose elements lead anywhere but to the row itself -/
def OwX {α : Type} (r : Rep α) (e : TypeId) (w : World) (base : Nat) (v : Value) (xs : List α) : Prop := Ow r e w base (fun k => k < w.heap.size ∧ some k ≠ v.ownBlock) v xs
section
variable {P : Program} {α : Type} {r : Rep α} {e : TypeId} {w w' : World} {base : Nat} {v : Value} {xs : List α}
theorem OwX.nil (r : Rep α) (e : TypeId) (w : World) (base : Nat) : OwX r e w base (.slice none 0 0) [] := Ow.nil _ _ _ _ _
theorem OwX.below (h : OwX r e w base v xs) (hb : Below w.heap.size w w') : OwX r e w' base v xs :=
  (Ow.below h hb (fun _ hk => hk.1)).mono (fun k hk => ⟨Nat.lt_of_lt_of_le hk.1 hb.size, hk.2⟩)
theorem OwX.lt (h : OwX r e w base v xs) : ∀ k, v.ownBlock = some k → base ≤ k ∧ k < w.heap.size := Ow.lt h
theorem OwX.alloc (h : OwX r e w base v xs) (o : Obj) : OwX r e (w.alloc o) base v xs := h.below ((Below.refl _ _).alloc (Nat.le_refl _) _)
theorem OwX.drewN (h : OwX r e w base v xs) (n : Nat) : OwX r e (w.drewN n) base v xs := h.below (below_drewN' (Below.refl _ _) n)
theorem OwX.sl (h : OwX r e w base v xs) : ∃ A c, v = .slice A xs.length c ∧ Sl r w (fun k => k < w.heap.size) A xs.length c xs := by
  obtain ⟨A, c, he, hs⟩ := Ow.sl h
  exact ⟨A, c, he, hs.mono fun k hk => hk.elim (fun h => h.1) (fun hv => (h.lt k hv).2)⟩
/-- append(v, ys...). -/
theorem wpList_appX {w0 W : World} {ops : Array Oper} {rest : List Oper} {o : Oper} {a : Act} {Q : Exit → Act → World → Prop} (r : Rep α) (base : Nat) (hgd : o.guard = none) (s x : Operand) (t e : TypeId) (z : Value) (bytes : Nat)
    (ho : o.op = .call { callee := .builtin .append, args := #[s, x], argTypes := #[t, t] })
    (ht : P.underlying t = some (.slice e)) (hinfo : (P.info? e).map (fun i => (i.zero, i.size, i.bytes)) = some (some z, r.sz, bytes)) (hz : z.cells.size = r.sz) (hsz : 0 < r.sz) (hb : 0 < bytes)
    (v : Value) (xs ys : List α) (A : Option Addr) (m c : Nat) (hs : a.eval s = v) (hx : a.eval x = .slice A m c) (hv : OwX r e W base v xs) (hy : Sl r W (fun k => k < W.heap.size ∧ some k ≠ v.ownBlock) A m c ys) (hB : Below base w0 W) (hbase : base ≤ W.heap.size) (hl : (xs.length + m) * bytes ≤ 140737488355328)
    (h : ∀ v1 w1, OwX r e w1 base v1 (xs ++ ys) → Below base w0 w1 → W.heap.size ≤ w1.heap.size → wpList P ops Q rest (a.put o.dst v1) w1) : wpList P ops Q (o :: rest) a W := by
  refine wpList_app r base hgd s x t e z bytes ho ht hinfo hz hsz hb _ _ v xs ys A m c hs hx hv hy hB hbase hl (fun _ hk => hk) (fun _ _ h => h) ?_
  intro v1 w1 ho1 hb1 hg1 hat1
  refine h v1 w1 (ho1.mono fun k hk => ⟨Nat.lt_of_lt_of_le hk.1 hg1.size, ?_⟩) hb1 hg1.size
  rcases hat1 with hat | hat
  · rw [hat]; exact hk.2
  · rw [hat]
    intro he
    injection he with he
    omega
/-- append(v, x): x boxed in a block of its own. -/
theorem wpList_pushX {w0 W : World} {ops : Array Oper} {rest : List Oper} {o : Oper} {a : Act} {Q : Exit → Act → World → Prop} (r : Rep α) (base : Nat) (hgd : o.guard = none) (s x : Operand) (t e : TypeId) (z : Value) (bytes : Nat)
    (ho : o.op = .call { callee := .builtin .append, args := #[s, x], argTypes := #[t, t] })
    (ht : P.underlying t = some (.slice e)) (hinfo : (P.info? e).map (fun i => (i.zero, i.size, i.bytes)) = some (some z, r.sz, bytes)) (hz : z.cells.size = r.sz) (hsz : 0 < r.sz) (hb : 0 < bytes)
    (v : Value) (xs : List α) (y : α) (cells : Array Value) (te : TypeId) (hs : a.eval s = v) (hx : a.eval x = .slice (some ⟨W.heap.size, 0, none⟩) 1 1) (hv : OwX r e W base v xs) (hy : r.K W (fun k => k < W.heap.size ∧ some k ≠ v.ownBlock) y cells.toList) (hB : Below base w0 W) (hbase : base ≤ W.heap.size) (hl : (xs.length + 1) * bytes ≤ 140737488355328)
    (h : ∀ v1 w1, OwX r e w1 base v1 (xs ++ [y]) → Below base w0 w1 → W.heap.size ≤ w1.heap.size → wpList P ops Q rest (a.put o.dst v1) w1) : wpList P ops Q (o :: rest) a (W.alloc (.cells cells te)) := by
  refine wpList_appX r base hgd s x t e z bytes ho ht hinfo hz hsz hb v xs [y] _ 1 1 hs hx (hv.alloc _) ?_ (hB.alloc hbase _) (by simp; omega) hl ?_
  · refine (Sl.box (F := fun k => k < W.heap.size ∧ some k ≠ v.ownBlock) (xs := [y]) W te (Els.one_ (r.move ((Same.refl _ _).alloc (fun _ hk => hk.1) _) hy)) (by simp)).mono ?_
    rintro k (hk | rfl)
    · exact ⟨by simp; omega, hk.2⟩
    · refine ⟨by simp, fun he => ?_⟩
      have := (hv.lt _ he.symm).2
      omega
  · intro v1 w1 h1 h2 h3
    exact h v1 w1 h1 h2 (by simp at h3; omega)
end
theorem quiet_below {w w' : World} {q : Nat} (h : w' = w.drewN q) : Fact (∀ B, Below B w w') := ⟨fun _ => by rw [h]; exact below_drewN' (Below.refl _ _) q⟩
/-- A block of bytes, marked or not, as a slice that is read. -/
theorem Sl.boxM {xs : List UInt8} {cells : Array Value} {n : Nat} {fr : Nat × Nat} (W : World) (e : TypeId) (h : cells.toList = xs.map vu8) (hn : xs.length = n) (hm : n ≤ 9223372036854775807) :
    Sl rU8 (W.alloc (.cells cells e fr)) (fun k => k = W.heap.size) (some ⟨W.heap.size, 0, none⟩) n n xs := by
  subst hn
  exact Sl.of_els (Els.bytes' h) (World.news_of_block (heap_alloc_new W _)) (fun _ => rfl) (Nat.le_refl _) hm
/-- make([]byte, m). -/
theorem run_make_bytes {P : Program} (t e : TypeId) (ht : P.underlying t = some (.slice e)) (hinfo : (P.info? e).map (fun i => (i.zero, i.size, i.bytes)) = some (some (.int .u8 0), 1, 1)) (k : IntKind) (m : Nat) (hm : m ≤ 281474976710656) (W : World) :
    (Instr.makeSlice t (.int k (m : Int)) (.int k (m : Int))).run P W = .ok (.slice (some ⟨W.heap.size, 0, none⟩) m m) (W.alloc (.cells (madeCells #[.int .u8 0] m) e)) := by
  obtain ⟨i, hi, hzz⟩ := Option.map_eq_some_iff.1 hinfo
  simp only [Prod.mk.injEq] at hzz
  obtain ⟨hz0, hz1, hz2⟩ := hzz
  have hr := run_make (P := P) W t e i (.int .u8 0) ht hi hz0 k k m m (by omega) (by omega) (by rw [hz2]; omega) (by omega)
  simp only [Int.toNat_natCast] at hr
  rw [hz1, Nat.mul_one] at hr
  exact hr
theorem made_bytes (m : Nat) : (madeCells #[Value.int .u8 0] m).toList = (List.replicate m (0 : UInt8)).map vu8 := by
  rw [toList_madeCells_one, List.map_replicate]
  rfl
end Go.Proofs.YtkmcjokoinoahaaDoor.Lib
/- tlv.Put, ferrymanref01.Put, and what a number's low byte is: contracts over any world. -/
namespace Go.Proofs.YtkmcjokoinoahaaDoor.TlvA
open Go.RowKit Go.Proofs.YtkmcjokoinoahaaDoor.Lib

theorem info_u8 : (Tryd.prog.info? 5).map (fun i => (i.zero, i.size, i.bytes)) = some (some (.int .u8 0), 1, 1) := by kernel_rfl

/-- Low byte. -/
def lo (n : Nat) : UInt8 := UInt8.ofNat n
theorem lo_int (n : Nat) : ((lo n).toNat : Int) = (n : Int) % 256 := by simp [lo]
/-- A field behind others. -/
def putL (l : List UInt8) (t : UInt8) (v : List UInt8) : List UInt8 := if v.length > 65535 then [] else if v = [] then l else l ++ [t, lo (v.length / 256), lo v.length] ++ v
theorem putL_long {l v : List UInt8} {t : UInt8} (h : v.length > 65535) : putL l t v = [] := by unfold putL; rw [if_pos h]
theorem putL_nil {l : List UInt8} {t : UInt8} : putL l t [] = l := by simp [putL]
theorem putL_some {l v : List UInt8} {t : UInt8} (h : ¬ v.length > 65535) (h0 : v ≠ []) : putL l t v = l ++ [t, lo (v.length / 256), lo v.length] ++ v := by unfold putL; rw [if_neg h, if_neg h0]

set_option maxHeartbeats 1000000 in
set_option maxRecDepth 100000 in
theorem Put_calls (w : World) (F : Nat → Prop) (A : Option Addr) (c : Nat) (l : List UInt8) (ti : Int) (t : UInt8) (A2 : Option Addr) (c2 : Nat) (l2 : List UInt8) (ht : ti = (t.toNat : Int)) (h1 : Sl rU8 w F A l.length c l) (h2 : Sl rU8 w F A2 l2.length c2 l2) (hF : ∀ k, F k → k < w.heap.size)
    (hs : l.length + l2.length + 3 ≤ 140737488355328) :
    Calls Tryd.prog 111 #[.slice A l.length c, .int .u8 ti, .slice A2 l2.length c2] w fun e w' => ∃ v, e = .returned (.tuple #[v, .int .i64 (if l2.length > 65535 then 3 else 0)]) ∧ Fact (Ow rU8 5 w' w.heap.size (fun _ => False) v (putL l t l2)) ∧ Below w.heap.size w w' := by
  have H1 := Fact.mk h1
  have H2 := Fact.mk h2
  have HT := Fact.mk ht
  have HF := Fact.mk hF
  clear h1 h2 ht hF
  go_enter Tryd.func111, Tryd.ntmps111
  by_cases hbig : l2.length > 65535
  · have hb1 : decide (65535 < (l2.length : Int)) = true := by simp; omega
    go_wp2_with (first
      | (at_builtin
         refine wpList_app rU8 (w0 := w) w.heap.size rfl (.tmp 9) (.tmp 10) 129 5 (.int .u8 0) 1 rfl Tryd.underlying129 info_u8 rfl (by decide) (by decide) (fun _ => False) F (.slice (some ⟨w.heap.size, 0, none⟩) 0 0) [] l A l.length c rfl rfl
           (Ow.litB (xs := []) w w.heap.size _ (Nat.le_refl _) rfl rfl (by omega)) (H1.out.move ((Same.refl _ _).alloc HF.out _)) ((Below.refl _ _).alloc (Nat.le_refl _) _) (by simp) (by simp; omega) (fun _ h => h.elim) (fun _ _ h => h) ?_
         intro v1 w1 ho1 hb hg1 hat1
         have HO1 := Fact.mk ho1
         have HB := Fact.mk hb
         clear ho1 hb hg1 hat1))
    go_ret2
    exact ⟨_, rfl, ⟨by rw [putL_long hbig]; exact Ow.nil _ _ _ _ _⟩, HB.out⟩
  · have hb1 : decide (65535 < (l2.length : Int)) = false := by simp; omega
    by_cases hz : l2 = []
    · subst hz
      go_wp2_with (first
        | (at_builtin
           refine wpList_app rU8 (w0 := w) w.heap.size rfl (.tmp 9) (.tmp 10) 129 5 (.int .u8 0) 1 rfl Tryd.underlying129 info_u8 rfl (by decide) (by decide) (fun _ => False) F (.slice (some ⟨w.heap.size, 0, none⟩) 0 0) [] l A l.length c rfl rfl
             (Ow.litB (xs := []) w w.heap.size _ (Nat.le_refl _) rfl rfl (by omega)) (H1.out.move ((Same.refl _ _).alloc HF.out _)) ((Below.refl _ _).alloc (Nat.le_refl _) _) (by simp) (by simp; omega) (fun _ h => h.elim) (fun _ _ h => h) ?_
           intro v1 w1 ho1 hb hg1 hat1
           have HO1 := Fact.mk ho1
           have HB := Fact.mk hb
           clear ho1 hb hg1 hat1))
      go_ret2
      exact ⟨_, rfl, ⟨by rw [putL_nil]; exact HO1.out⟩, HB.out⟩
    · have hp : 0 < l2.length := List.length_pos_iff.2 hz
      have hb2 : ((l2.length : Int) == 0) = false := by simp; exact hz
      go_wp2_with (first
        | (at_builtin
           refine wpList_app rU8 (w0 := w) w.heap.size rfl (.tmp 9) (.tmp 10) 129 5 (.int .u8 0) 1 rfl Tryd.underlying129 info_u8 rfl (by decide) (by decide) (fun _ => False) F (.slice (some ⟨w.heap.size, 0, none⟩) 0 0) [] l A l.length c rfl rfl
             (Ow.litB (xs := []) w w.heap.size _ (Nat.le_refl _) rfl rfl (by omega)) (H1.out.move ((Same.refl _ _).alloc HF.out _)) ((Below.refl _ _).alloc (Nat.le_refl _) _) (by simp) (by simp; omega) (fun _ h => h.elim) (fun _ _ h => h) ?_
           intro v1 w1 ho1 hb hg1 hat1
           have HO1 := Fact.mk ho1
           have HB := Fact.mk hb
           clear ho1 hb hg1 hat1)
        | (at_builtin
           refine wpList_app rU8 (w0 := w) w.heap.size rfl (.tmp 21) (.tmp 30) 129 5 (.int .u8 0) 1 rfl Tryd.underlying129 info_u8 rfl (by decide) (by decide) (fun _ => False) (fun k => k = w1.heap.size) v1 ([] ++ l) [t, lo (l2.length / 256), lo l2.length] _ 3 3 rfl rfl
             (HO1.out.below ((Below.refl _ _).alloc (Nat.le_refl _) _) (fun _ h => h.elim)) (Sl.boxB w1 _ (by simp [vu8, lo_int, HT.out]; omega) rfl (by omega)) (HB.out.alloc HB.out.size _) (by have := HB.out.size; simp; omega) (by simp; omega) (fun _ h => h.elim) (fun _ _ h => h) ?_
           intro v2 w2 ho2 hb2_ hg2 hat2
           have HO2 := Fact.mk ho2
           have HB2 := Fact.mk hb2_
           clear ho2 hb2_ hg2 hat2)
        | (at_builtin
           refine wpList_app rU8 (w0 := w) w.heap.size rfl (.tmp 32) (.tmp 33) 129 5 (.int .u8 0) 1 rfl Tryd.underlying129 info_u8 rfl (by decide) (by decide) (fun _ => False) F v2 ([] ++ l ++ [t, lo (l2.length / 256), lo l2.length]) l2 _ l2.length c2 rfl rfl
             HO2.out (H2.out.move (Same.of_below HB2.out HF.out)) HB2.out HB2.out.size (by simp; omega) (fun _ h => h.elim) (fun _ _ h => h) ?_
           intro v3 w3 ho3 hb3_ hg3 hat3
           have HO3 := Fact.mk ho3
           have HB3 := Fact.mk hb3_
           clear ho3 hb3_ hg3 hat3))
      go_ret2
      exact ⟨_, rfl, ⟨by rw [putL_some hbig hz]; exact HO3.out⟩, HB3.out⟩
end Go.Proofs.YtkmcjokoinoahaaDoor.TlvA
/- tlv.piece, ferrymanref01.piece: contracts over any world. -/
namespace Go.Proofs.YtkmcjokoinoahaaDoor.TlvB
open Go.RowKit Go.Proofs.YtkmcjokoinoahaaDoor.Lib Go.Proofs.YtkmcjokoinoahaaDoor.TlvA

/-- Bytes with their length ahead; what is left. -/
def pieceL : List UInt8 → Option (List UInt8 × List UInt8)
  | b0 :: b1 :: r => if b0.toNat * 256 + b1.toNat ≤ r.length then some (r.take (b0.toNat * 256 + b1.toNat), r.drop (b0.toNat * 256 + b1.toNat)) else none
  | _ => none

theorem u8_lt (b : UInt8) : (b.toNat : Int) ≤ 255 := by have := b.toNat_lt; omega
theorem or_i64 (b0 b1 : UInt8) : bits .or .i64 ((b0.toNat : Int) * 256) (b1.toNat : Int) = ((b0.toNat * 256 + b1.toNat : Nat) : Int) := by
  have h0 := u8_lt b0
  have h1 := u8_lt b1
  rw [bits_join .i64 63 (by decide) (fun n h h' => by rw [IntKind.wrap_i64]; omega) 8 _ _ (by omega) (by omega) (by omega) (by omega) (by omega) (by omega)]
  omega
theorem cell1 {w : World} {ad : Addr} {v : Value} (h : w.cell? (ad.add 1) = some v) : w.cell? ⟨ad.block, ad.off + 1, none⟩ = some v := by rw [← add_pos' ad 1 (by omega)]; exact h
theorem cell0 {w : World} {ad : Addr} {v : Value} (h : w.cell? (ad.add 0) = some v) : w.cell? ad = some v := by rw [add_zero'] at h; exact h
theorem u8_i : ∃ i, Tryd.prog.info? 5 = some i ∧ i.size = 1 := by
  obtain ⟨i, hi, hz⟩ := Option.map_eq_some_iff.1 info_u8
  simp only [Prod.mk.injEq] at hz
  exact ⟨i, hi, hz.2.1⟩

theorem piece_len {l v rest : List UInt8} (h : pieceL l = some (v, rest)) : v.length ≤ 65535 ∧ v.length + rest.length + 2 = l.length := by
  unfold pieceL at h
  split at h
  · rename_i b0 b1 r
    split at h
    · rename_i hle
      simp only [Option.some.injEq, Prod.mk.injEq] at h
      obtain ⟨rfl, rfl⟩ := h
      have := b0.toNat_lt
      have := b1.toNat_lt
      simp
      omega
    · cases h
  · cases h

end Go.Proofs.YtkmcjokoinoahaaDoor.TlvB
/- tlv.Parse, ferrymanref01.Parse, tlv.Unpack, ferrymanref01.Unpack: contracts over any world. -/
namespace Go.Proofs.YtkmcjokoinoahaaDoor.TlvC
open Go.RowKit Go.Proofs.YtkmcjokoinoahaaDoor.Lib Go.Proofs.YtkmcjokoinoahaaDoor.TlvA Go.Proofs.YtkmcjokoinoahaaDoor.TlvB

def fld : Rep (UInt8 × List UInt8) := Rep.pair rU8 (Rep.slice rU8)
theorem info_sl : (Tryd.prog.info? 129).map (fun i => (i.zero, i.size, i.bytes)) = some (some (.slice none 0 0), 1, 24) := by kernel_rfl

/-- Fields whose tags rise, from one tag on; an error's number. -/
def parseG (l : List UInt8) (last : Int) : List (UInt8 × List UInt8) × Int :=
  match l with
  | [] => ([], 0)
  | t :: r =>
    match h : pieceL r with
    | none => ([], 4)
    | some (v, rest) =>
      if v = [] then ([], 6) else if (t.toNat : Int) ≤ last then ([], 5) else
        have : rest.length < (t :: r).length := by have := (piece_len h).2; simp; omega
        let x := parseG rest t.toNat
        if x.2 = 0 then ((t, v) :: x.1, 0) else ([], x.2)
termination_by l.length
theorem parseG_nil (last : Int) : parseG [] last = ([], 0) := by rw [parseG]
theorem parseG_none {t : UInt8} {r : List UInt8} {last : Int} (h : pieceL r = none) : parseG (t :: r) last = ([], 4) := by
  rw [parseG]; split
  · rfl
  · rename_i h'; rw [h] at h'; cases h'
theorem parseG_some {t : UInt8} {r v rest : List UInt8} {last : Int} (h : pieceL r = some (v, rest)) :
    parseG (t :: r) last = if v = [] then ([], 6) else if (t.toNat : Int) ≤ last then ([], 5) else if (parseG rest t.toNat).2 = 0 then ((t, v) :: (parseG rest t.toNat).1, 0) else ([], (parseG rest t.toNat).2) := by
  rw [parseG]; split
  · rename_i h'; rw [h] at h'; cases h'
  · rename_i v' rest' h'
    rw [h] at h'
    injection h' with h'
    injection h' with h1 h2
    subst h1 h2
    rfl
/-- What is still to come, behind what has been read. -/
def more (acc : List (UInt8 × List UInt8)) (x : List (UInt8 × List UInt8) × Int) : List (UInt8 × List UInt8) × Int := if x.2 = 0 then (acc ++ x.1, 0) else ([], x.2)
/-- The last tag; -1 of none. -/
def lastT (acc : List (UInt8 × List UInt8)) : Int := match acc.getLast? with | some (t, _) => (t.toNat : Int) | none => -1
theorem lastT_snoc (acc : List (UInt8 × List UInt8)) (t : UInt8) (v : List UInt8) : lastT (acc ++ [(t, v)]) = t.toNat := by simp [lastT]
theorem more_nil (x : List (UInt8 × List UInt8) × Int) (h : x.2 ≠ 0 → x.1 = []) : more [] x = x := by
  unfold more
  split
  · rename_i h0; rw [List.nil_append]; cases x; simp at h0; subst h0; rfl
  · rename_i h0; cases x; simp at h0 h; simp [h h0]
theorem parseG_err (l : List UInt8) (last : Int) : (parseG l last).2 ≠ 0 → (parseG l last).1 = [] := by
  match l with
  | [] => rw [parseG_nil]; simp
  | t :: r =>
    cases h : pieceL r with
    | none => rw [parseG_none h]; simp
    | some x =>
      obtain ⟨v, rest⟩ := x
      rw [parseG_some h]
      repeat' split
      all_goals simp
theorem more_step (acc : List (UInt8 × List UInt8)) {t : UInt8} {r v rest : List UInt8} (h : pieceL r = some (v, rest)) (hv : v ≠ []) (ht : ¬ (t.toNat : Int) ≤ lastT acc) :
    more acc (parseG (t :: r) (lastT acc)) = more (acc ++ [(t, v)]) (parseG rest (lastT (acc ++ [(t, v)]))) := by
  rw [lastT_snoc, parseG_some h, if_neg hv, if_neg ht]
  unfold more
  by_cases h0 : (parseG rest t.toNat).2 = 0
  · rw [if_pos h0, if_pos rfl, if_pos h0]; simp
  · rw [if_neg h0, if_neg h0, if_neg h0]

theorem sameF {w wr w2 w3 : World} {F : Nat → Prop} (HF : Fact (∀ k, F k → k < w.heap.size)) (HB : Fact (Below w.heap.size w wr)) (h2 : Below wr.heap.size wr w2) (h3 : Below w2.heap.size w2 w3) : Same F wr w3 := fun k hk =>
  ((h3.block k (by have := HF.out k hk; have := HB.out.size; have := h2.size; omega)).trans (h2.block k (by have := HF.out k hk; have := HB.out.size; omega)))
end Go.Proofs.YtkmcjokoinoahaaDoor.TlvC
/- ferrymanref01.Parse, tlv.Unpack, ferrymanref01.Unpack: contracts over any world. -/
namespace Go.Proofs.YtkmcjokoinoahaaDoor.TlvD
open Go.RowKit Go.Proofs.YtkmcjokoinoahaaDoor.Lib Go.Proofs.YtkmcjokoinoahaaDoor.TlvA Go.Proofs.YtkmcjokoinoahaaDoor.TlvB Go.Proofs.YtkmcjokoinoahaaDoor.TlvC

theorem lastT_lt (acc : List (UInt8 × List UInt8)) : -1 ≤ lastT acc ∧ lastT acc ≤ 255 := by
  unfold lastT
  split
  · rename_i t _ _
    have := u8_lt t
    omega
  · omega

/-- Pieces; an error's number. -/
def unpackG (l : List UInt8) : List (List UInt8) × Int :=
  match l with
  | [] => ([], 0)
  | t :: r =>
    match h : pieceL (t :: r) with
    | none => ([], 4)
    | some (v, rest) =>
        have : rest.length < (t :: r).length := by have := (piece_len h).2; omega
        let x := unpackG rest
        if x.2 = 0 then (v :: x.1, 0) else ([], x.2)
termination_by l.length
theorem unpackG_nil : unpackG [] = ([], 0) := by rw [unpackG]
theorem unpackG_none {l : List UInt8} (hl : l ≠ []) (h : pieceL l = none) : unpackG l = ([], 4) := by
  match l, hl with
  | t :: r, _ =>
    rw [unpackG]; split
    · rfl
    · rename_i h'; rw [h] at h'; cases h'
theorem unpackG_some {l v rest : List UInt8} (h : pieceL l = some (v, rest)) : unpackG l = if (unpackG rest).2 = 0 then (v :: (unpackG rest).1, 0) else ([], (unpackG rest).2) := by
  match l with
  | [] => cases h
  | t :: r =>
    rw [unpackG]; split
    · rename_i h'; rw [h] at h'; cases h'
    · rename_i v' rest' h'
      rw [h] at h'
      injection h' with h'
      injection h' with h1 h2
      subst h1 h2
      rfl
def moreP (acc : List (List UInt8)) (x : List (List UInt8) × Int) : List (List UInt8) × Int := if x.2 = 0 then (acc ++ x.1, 0) else ([], x.2)
theorem moreP_nil (l : List UInt8) : moreP [] (unpackG l) = unpackG l := by
  unfold moreP
  split
  · rename_i h0; rw [List.nil_append]; revert h0; generalize unpackG l = x; cases x; rintro ⟨⟩; rfl
  · rename_i h0
    match l with
    | [] => rw [unpackG_nil] at h0; simp at h0
    | t :: r =>
      cases h : pieceL (t :: r) with
      | none => rw [unpackG_none (by simp) h]
      | some x =>
        obtain ⟨v, rest⟩ := x
        rw [unpackG_some h] at h0 ⊢
        split
        · rename_i h1; rw [if_pos h1] at h0; simp at h0
        · rfl
theorem moreP_step (acc : List (List UInt8)) {l v rest : List UInt8} (h : pieceL l = some (v, rest)) : moreP acc (unpackG l) = moreP (acc ++ [v]) (unpackG rest) := by
  rw [unpackG_some h]
  unfold moreP
  by_cases h0 : (unpackG rest).2 = 0
  · rw [if_pos h0, if_pos rfl, if_pos h0]; simp
  · rw [if_neg h0, if_neg h0, if_neg h0]


end Go.Proofs.YtkmcjokoinoahaaDoor.TlvD
/- A region that draws its order, walked in one order: operations that tell the same in every world of S may be taken first; what turns the world stays in its own order. Over any program. -/
namespace Go.Proofs.YtkmcjokoinoahaaDoor.Reg
open Go.RowKit Go.Proofs.YtkmcjokoinoahaaDoor.Lib

section
variable {P : Program} {ops : Array Oper} {Q : Exit → Act → World → Prop} {md : Region.Mode} {S : World → Prop}

/-- In each world of S the operation tells v, and turns nothing. -/
def YieldsS (P : Program) (ops : Array Oper) (S : World → Prop) (o : Oper) (v : Value) (a : Act) : Prop :=
  (Region.wanted o (yielded ops a.tmps) = true ∧ ∀ w, S w → (execOp a.eval o).run P w = .ok (.value v) w) ∨
  (Region.wanted o (yielded ops a.tmps) = false ∧ v = undef)
theorem YieldsS.wpOp {i : Nat} {o : Oper} {v : Value} {a : Act} (hi : ops[i]? = some o) (hy : YieldsS P ops S o v a) {K : Act → World → Prop} {w : World} (hw : S w) (h : K (a.put o.dst v) w) : wpOp P ops Q i K a w := by
  unfold Go.wpOp
  simp only [hi]
  rcases hy with ⟨hw', hv⟩ | ⟨hw', rfl⟩
  · simp only [hw', if_true, Oper.wp, hv w hw, Oper.upon]; exact .inl h
  · simp only [hw', Bool.false_eq_true, if_false]; exact h
theorem YieldsS.of_same {o : Oper} {v : Value} {a a' : Act} (hy : YieldsS P ops S o v a) (he : execOp a'.eval o = execOp a.eval o) (hw : Region.wanted o (yielded ops a'.tmps) = Region.wanted o (yielded ops a.tmps)) : YieldsS P ops S o v a' := by
  unfold YieldsS at *
  rw [he, hw]
  exact hy
theorem wpOp_putS {j : Nat} {oi oj : Oper} {v : Value} (hj : ops[j]? = some oj) (hap : oi.apart ops oj = true) (hsi : ∀ cs b, oi.op ≠ .select cs b) (hsj : ∀ cs b, oj.op ≠ .select cs b)
    (hQ : ∀ c a w, Q (.panic c) (a.put oi.dst v) w → Q (.panic c) a w) {K : Act → World → Prop} {a : Act} {w : World} (hy : YieldsS P ops S oi v a) (h : wpOp P ops Q j K (a.put oi.dst v) w) :
    wpOp P ops Q j (fun a' w' => YieldsS P ops S oi v a' ∧ K (a'.put oi.dst v) w') a w := by
  obtain ⟨h1, h2, h3⟩ := Oper.apart_spec hap
  have keep : ∀ (a : Act), YieldsS P ops S oi v a → ∀ u, YieldsS P ops S oi v (a.put oj.dst u) := fun a hy u => hy.of_same (execOp_put oi hsi a oj.dst u h3) (wanted_put oi a oj.dst u h3)
  have keepD : ∀ d, YieldsS P ops S oi v { a with defers := d :: a.defers } := fun d => hy.of_same rfl rfl
  unfold wpOp at *
  simp only [hj] at *
  rw [wanted_put oj a oi.dst v h1] at h
  split
  · rename_i hw
    simp only [hw, if_true] at h
    rcases h with h | ⟨hasks, hlets⟩
    case inr => exact .inr ⟨by unfold Oper.asks at *; rw [execOp_put oj hsj a oi.dst v h1] at hasks; exact hasks, hlets⟩
    refine .inl ?_
    unfold Oper.wp at *
    rw [execOp_put oj hsj a oi.dst v h1] at h
    generalize (execOp a.eval oj).run P w = r at *
    cases r with
    | ok n w' =>
      cases n <;> simp only [Oper.upon] at h ⊢
      case value u => exact ⟨keep a hy u, by rw [← Act.put_comm a v u h2]; exact h⟩
      case skip => exact ⟨keep a hy _, by rw [← Act.put_comm a v undef h2]; exact h⟩
      case defer d =>
        refine ⟨keep _ (keepD d) _, ?_⟩
        rw [← Act.put_comm _ v undef h2, ← Act.put_defers]
        exact h
      case enter f args =>
        refine Calls.mono h fun e w'' he => ?_
        cases e with
        | returned u => exact ⟨keep a hy u, by rw [← Act.put_comm a v u h2]; exact he⟩
        | panicked c => exact hQ _ _ _ he
        | outgrown => exact he
      case row row args => exact Rows.mono h fun u w'' he => ⟨keep a hy u, by rw [← Act.put_comm a v u h2]; exact he⟩
    | halt x w' =>
      cases x <;> simp only [Oper.upon] at h ⊢
      case panic u => exact hQ _ _ _ h
  · rename_i hw
    simp only [hw] at h
    exact ⟨keep a hy _, by rw [← Act.put_comm a v undef h2]; exact h⟩

/-- Whatever the order; each world on the way is one of S. -/
def wpAnyS (P : Program) (md : Region.Mode) (ops : Array Oper) (S : World → Prop) (Q : Exit → Act → World → Prop) : Nat → Array Bool → Act → World → Prop
  | 0, listed, a, w => S w ∧ Region.ready md ops listed = [] ∧ Q .normal a w
  | fuel + 1, listed, a, w => S w ∧ (Region.ready md ops listed = [] → Q .normal a w) ∧ ∀ i ∈ Region.ready md ops listed, wpOp P ops Q i (wpAnyS P md ops S Q fuel (listed.setIfInBounds i true)) a w
theorem wpAnyS.any : ∀ (fuel : Nat) (listed : Array Bool) (a : Act) (w : World), wpAnyS P md ops S Q fuel listed a w → wpAny P md ops Q fuel listed a w
  | 0, _, _, _, h => h.2
  | fuel + 1, listed, _, _, h => ⟨h.2.1, fun i hi => wpOp_mono (fun a w => wpAnyS.any fuel (listed.setIfInBounds i true) a w) (h.2.2 i hi)⟩
theorem wpAnyS.here {fuel : Nat} {listed : Array Bool} {a : Act} {w : World} (h : wpAnyS P md ops S Q fuel listed a w) : S w := by
  cases fuel <;> exact h.1
theorem wpAnyS_first {i : Nat} {oi : Oper} {v : Value} (hi : ops[i]? = some oi) (hsel : ∀ (j : Nat) (o : Oper) cs b, ops[j]? = some o → o.op ≠ .select cs b) (hQ : ∀ c a w, Q (.panic c) (a.put oi.dst v) w → Q (.panic c) a w) :
    ∀ (fuel : Nat) (listed : Array Bool) (a : Act) (w : World),
      (∀ j oj, ops[j]? = some oj → j ≠ i → listed.getD j true = false → (∀ e ∈ oj.after, Region.binds md e = true → e.on ≠ i) → oi.apart ops oj = true) →
      i ∈ Region.ready md ops listed → YieldsS P ops S oi v a →
      wpAnyS P md ops S Q fuel (listed.setIfInBounds i true) (a.put oi.dst v) w → wpAnyS P md ops S Q (fuel + 1) listed a w := by
  intro fuel
  induction fuel with
  | zero =>
    intro listed a w _ hr hy H
    refine ⟨H.1, fun h => (by rw [h] at hr; cases hr), fun j hj => ?_⟩
    by_cases hji : j = i
    · subst hji; exact hy.wpOp hi H.1 H
    · have := ready_mono hj hji
      rw [H.2.1] at this
      cases this
  | succ fuel ih =>
    intro listed a w hfree hr hy H
    refine ⟨H.1, fun h => (by rw [h] at hr; cases hr), fun j hj => ?_⟩
    by_cases hji : j = i
    · subst hji; exact hy.wpOp hi H.1 H
    · have h1 := H.2.2 j (ready_mono hj hji)
      obtain ⟨hjun, oj, hoj, hall⟩ := mem_ready.1 hj
      have hnot : ∀ e ∈ oj.after, Region.binds md e = true → e.on ≠ i := fun e he hb heq => by
        have h1 := hall e he hb
        have h0 := (mem_ready.1 hr).1
        rw [heq] at h1
        rcases Nat.lt_or_ge i listed.size with h' | h'
        · simp [h'] at h0 h1; rw [h0] at h1; cases h1
        · simp [Array.getElem?_eq_none h'] at h1
      have h2 := wpOp_putS hoj (hfree j oj hoj hji hjun hnot) (fun cs b => hsel i oi cs b hi) (fun cs b => hsel j oj cs b hoj) hQ hy h1
      have hfree' : ∀ k ok, ops[k]? = some ok → k ≠ i → (listed.setIfInBounds j true).getD k true = false →
          (∀ e ∈ ok.after, Region.binds md e = true → e.on ≠ i) → oi.apart ops ok = true := fun k ok hk hki hun hno => by
        refine hfree k ok hk hki ?_ hno
        by_cases hjk : j = k
        · subst hjk; exact hjun
        · rw [getD_set_ne true hjk] at hun; exact hun
      refine wpOp_mono (fun a' w' h3 => ih (listed.setIfInBounds j true) a' w' hfree' (ready_mono hr (Ne.symm hji)) h3.1 ?_) h2
      rw [Array.setIfInBounds_comm _ _ hji]
      exact h3.2

/-- In a given order: of each operation its number, and whether it is one that only tells. -/
def wpSeqS (P : Program) (ops : Array Oper) (S : World → Prop) (Q : Exit → Act → World → Prop) : List (Oper × Bool) → Act → World → Prop
  | [], a, w => Q .normal a w
  | (o, true) :: rest, a, w => ∃ v, YieldsS P ops S o v a ∧ wpSeqS P ops S Q rest (a.put o.dst v) w
  | (o, false) :: rest, a, w => if Region.wanted o (yielded ops a.tmps) then o.wp P a w (fun a' w' => S w' ∧ wpSeqS P ops S Q rest a' w') Q else wpSeqS P ops S Q rest (a.put o.dst undef) w
/-- May the operations be taken so? -/
def okSeq (md : Region.Mode) (ops : Array Oper) : List (Nat × Bool) → Array Bool → Bool
  | [], listed => (Region.ready md ops listed).isEmpty
  | (i, true) :: rest, listed => (Region.ready md ops listed).contains i && Region.free md ops listed i && okSeq md ops rest (listed.setIfInBounds i true)
  | (i, false) :: rest, listed => (Region.ready md ops listed) == [i] && okSeq md ops rest (listed.setIfInBounds i true)
def pick (ops : Array Oper) (l : List (Nat × Bool)) : List (Oper × Bool) := l.filterMap fun x => (ops[x.1]?).map fun o => (o, x.2)
theorem wpAnyS_of_seq (hs : Region.noSelect ops = true) (hQ : ∀ c (a : Act) (d : Option Tmp) v w, Q (.panic c) (a.put d v) w → Q (.panic c) a w) : ∀ (l : List (Nat × Bool)) (listed : Array Bool) (a : Act) (w : World), okSeq md ops l listed = true → (∀ x ∈ l, x.1 < ops.size) → S w →
    wpSeqS P ops S Q (pick ops l) a w → wpAnyS P md ops S Q l.length listed a w
  | [], listed, a, w, hok, _, hw, h => ⟨hw, by simpa [okSeq] using hok, h⟩
  | (i, true) :: rest, listed, a, w, hok, hlt, hw, h => by
    simp only [okSeq, Bool.and_eq_true] at hok
    obtain ⟨⟨hr, hf⟩, hrest⟩ := hok
    have hi : ops[i]? = some (ops[i]'(hlt _ List.mem_cons_self)) := Array.getElem?_eq_getElem _
    have hp : pick ops ((i, true) :: rest) = (ops[i]'(hlt _ List.mem_cons_self), true) :: pick ops rest := by simp [pick, hi]
    rw [hp] at h
    obtain ⟨v, hy, h⟩ := h
    exact wpAnyS_first hi (Region.noSelect_spec hs) (fun c a w => hQ c a _ v w) rest.length listed a w (Region.free_spec hi hf) (by simpa using hr) hy (wpAnyS_of_seq hs hQ rest _ _ _ hrest (fun x hx => hlt x (List.mem_cons_of_mem _ hx)) hw h)
  | (i, false) :: rest, listed, a, w, hok, hlt, hw, h => by
    simp only [okSeq, Bool.and_eq_true, beq_iff_eq] at hok
    obtain ⟨hr, hrest⟩ := hok
    have hi : ops[i]? = some (ops[i]'(hlt _ List.mem_cons_self)) := Array.getElem?_eq_getElem _
    have hp : pick ops ((i, false) :: rest) = (ops[i]'(hlt _ List.mem_cons_self), false) :: pick ops rest := by simp [pick, hi]
    rw [hp] at h
    refine ⟨hw, fun h0 => (by rw [h0] at hr; cases hr), fun j hj => ?_⟩
    rw [hr, List.mem_singleton] at hj
    subst hj
    unfold wpOp
    simp only [hi]
    unfold wpSeqS at h
    split
    · rename_i hwt
      rw [if_pos hwt] at h
      exact .inl (Oper.wp_mono (fun a' w' hh => wpAnyS_of_seq hs hQ rest _ a' w' hrest (fun x hx => hlt x (List.mem_cons_of_mem _ hx)) hh.1 hh.2) h)
    · rename_i hwt
      rw [if_neg hwt] at h
      exact wpAnyS_of_seq hs hQ rest _ _ w hrest (fun x hx => hlt x (List.mem_cons_of_mem _ hx)) hw h
/-- A region that draws its order, walked in the order l. -/
theorem wp_region_S {id : Nat} {a : Act} {w : World} (S : World → Prop) (l : List (Nat × Bool)) (hm : P.follows .mixedOrders = true) (hs : Region.noSelect ops = true) (hok : okSeq .any ops l (Array.replicate ops.size false) = true) (hl : l.length = ops.size) (hlt : l.all (fun x => decide (x.1 < ops.size)) = true)
    (hQ : ∀ c (a : Act) (d : Option Tmp) v w, Q (.panic c) (a.put d v) w → Q (.panic c) a w) (hw : S w.drew) (h : wpSeqS P ops S Q (pick ops l) a w.drew) : (Code.region id ops true).wp P Q a w := by
  refine wp_region_any hm ?_
  have := wpAnyS_of_seq (md := .any) hs hQ l (Array.replicate ops.size false) a w.drew hok (fun x hx => of_decide_eq_true (List.all_eq_true.1 hlt x hx)) hw h
  rw [hl] at this
  exact this.any
/-- One that only tells. -/
theorem seq_tell {o : Oper} {rest : List (Oper × Bool)} {a : Act} {w : World} {v : Value} (hg : o.guard = none) (hv : ∀ w, S w → (execOp a.eval o).run P w = .ok (.value v) w) (h : wpSeqS P ops S Q rest (a.put o.dst v) w) : wpSeqS P ops S Q ((o, true) :: rest) a w :=
  ⟨v, .inl ⟨by simp [Region.wanted, hg], hv⟩, h⟩
theorem seq_tellG {o : Oper} {rest : List (Oper × Bool)} {a : Act} {w : World} {v : Value} (hg : Region.wanted o (yielded ops a.tmps) = true) (hv : ∀ w, S w → (execOp a.eval o).run P w = .ok (.value v) w) (h : wpSeqS P ops S Q rest (a.put o.dst v) w) : wpSeqS P ops S Q ((o, true) :: rest) a w :=
  ⟨v, .inl ⟨hg, hv⟩, h⟩
theorem seq_skip {o : Oper} {rest : List (Oper × Bool)} {a : Act} {w : World} (hg : Region.wanted o (yielded ops a.tmps) = false) (h : wpSeqS P ops S Q rest (a.put o.dst undef) w) : wpSeqS P ops S Q ((o, true) :: rest) a w :=
  ⟨undef, .inr ⟨hg, rfl⟩, h⟩
/-- One that turns the world. -/
theorem seq_do {o : Oper} {rest : List (Oper × Bool)} {a : Act} {w w' : World} {v : Value} (hg : o.guard = none) (hv : (execOp a.eval o).run P w = .ok (.value v) w') (hS : S w') (h : wpSeqS P ops S Q rest (a.put o.dst v) w') : wpSeqS P ops S Q ((o, false) :: rest) a w := by
  have hw : Region.wanted o (yielded ops a.tmps) = true := by simp [Region.wanted, hg]
  unfold wpSeqS
  rw [if_pos hw]
  unfold Oper.wp
  rw [hv]
  exact ⟨hS, h⟩
/-- A call of a function of the program. -/
theorem seq_call {o : Oper} {rest : List (Oper × Bool)} {a : Act} {w : World} {f : FuncId} {fn : Func} {ars : Array Operand} {ts : Array TypeId} (hg : o.guard = none) (hop : o.op = .call { callee := .value (.func f), args := ars, argTypes := ts })
    (hf : P.funcs[f]? = some fn) (hname : (fn.name == "runtime.NumGoroutine") = false) (hb : fn.body.isSome = true) {args : Array Value} (hargs : ars.map a.eval = args)
    (h : Calls P f args w fun e w' => ∃ v, e = .returned v ∧ S w' ∧ wpSeqS P ops S Q rest (a.put o.dst v) w') : wpSeqS P ops S Q ((o, false) :: rest) a w := by
  have hw : Region.wanted o (yielded ops a.tmps) = true := by simp [Region.wanted, hg]
  unfold wpSeqS
  rw [if_pos hw]
  have hrun : (execOp a.eval o).run P w = .ok (.enter f args) w := by
    have h1 : fn.name ≠ "runtime.NumGoroutine" := by simpa using hname
    obtain ⟨c, hc⟩ := Option.isSome_iff_exists.1 hb
    have henter : (callFunc f args).run P w = .ok (.enter f args) w := by simp [callFunc, hf, h1, hc]
    unfold execOp
    simp [hop, resolve, Deferred.ofValue, invoke, Act.eval, hargs, henter]
  unfold Oper.wp
  rw [hrun, Oper.upon_enter]
  refine h.mono ?_
  rintro e w' ⟨v, rfl, hS, hh⟩
  exact ⟨hS, hh⟩
/-- append(v, ys...). -/
theorem seq_app {α : Type} (r : Rep α) {w0 W : World} {rest : List (Oper × Bool)} {o : Oper} {a : Act} (base : Nat) (hgd : o.guard = none) (s x : Operand) (t e : TypeId) (z : Value) (bytes : Nat)
    (ho : o.op = .call { callee := .builtin .append, args := #[s, x], argTypes := #[t, t] })
    (ht : P.underlying t = some (.slice e)) (hinfo : (P.info? e).map (fun i => (i.zero, i.size, i.bytes)) = some (some z, r.sz, bytes)) (hz : z.cells.size = r.sz) (hsz : 0 < r.sz) (hb : 0 < bytes)
    (F G : Nat → Prop) (v : Value) (xs ys : List α) (A : Option Addr) (m c : Nat) (hs : a.eval s = v) (hx : a.eval x = .slice A m c) (hv : Ow r e W base F v xs) (hy : Sl r W G A m c ys) (hB : Below base w0 W) (hbase : base ≤ W.heap.size) (hl : (xs.length + m) * bytes ≤ 140737488355328)
    (hF : ∀ k, F k → k < W.heap.size ∧ some k ≠ v.ownBlock) (hG : ∀ cs x, r.K W G x cs → r.K W F x cs)
    (h : ∀ v1 w1, Ow r e w1 base F v1 (xs ++ ys) → Below base w0 w1 → W.grownBy w1 v.ownBlock → (v1.ownBlock = v.ownBlock ∨ v1.ownBlock = some W.heap.size) → S w1 ∧ wpSeqS P ops S Q rest (a.put o.dst v1) w1) : wpSeqS P ops S Q ((o, false) :: rest) a W := by
  obtain ⟨v1, w1, hr, h2, h3, h4⟩ := run_app (P := P) r W base t o.type e z bytes ht hinfo hz hsz hb F G v xs ys A m c hv hy hbase hl hF hG
  obtain ⟨k1, k2⟩ := h v1 w1 h2 (hB.grown h3 hbase (fun k hk => (hv.lt k hk).1)) h3 h4
  exact seq_do hgd (exec_append W ho hs hx hr) k1 k2
theorem seq_doG {o : Oper} {rest : List (Oper × Bool)} {a : Act} {w w' : World} {v : Value} (hw : Region.wanted o (yielded ops a.tmps) = true) (hv : (execOp a.eval o).run P w = .ok (.value v) w') (hS : S w') (h : wpSeqS P ops S Q rest (a.put o.dst v) w') : wpSeqS P ops S Q ((o, false) :: rest) a w := by
  unfold wpSeqS
  rw [if_pos hw]
  unfold Oper.wp
  rw [hv]
  exact ⟨hS, h⟩
theorem seq_callG {o : Oper} {rest : List (Oper × Bool)} {a : Act} {w : World} {f : FuncId} {fn : Func} {ars : Array Operand} {ts : Array TypeId} (hw : Region.wanted o (yielded ops a.tmps) = true) (hop : o.op = .call { callee := .value (.func f), args := ars, argTypes := ts })
    (hf : P.funcs[f]? = some fn) (hname : (fn.name == "runtime.NumGoroutine") = false) (hb : fn.body.isSome = true) {args : Array Value} (hargs : ars.map a.eval = args)
    (h : Calls P f args w fun e w' => ∃ v, e = .returned v ∧ S w' ∧ wpSeqS P ops S Q rest (a.put o.dst v) w') : wpSeqS P ops S Q ((o, false) :: rest) a w := by
  unfold wpSeqS
  rw [if_pos hw]
  have hrun : (execOp a.eval o).run P w = .ok (.enter f args) w := by
    have h1 : fn.name ≠ "runtime.NumGoroutine" := by simpa using hname
    obtain ⟨c, hc⟩ := Option.isSome_iff_exists.1 hb
    have henter : (callFunc f args).run P w = .ok (.enter f args) w := by simp [callFunc, hf, h1, hc]
    unfold execOp
    simp [hop, resolve, Deferred.ofValue, invoke, Act.eval, hargs, henter]
  unfold Oper.wp
  rw [hrun, Oper.upon_enter]
  refine h.mono ?_
  rintro e w' ⟨v, rfl, hS, hh⟩
  exact ⟨hS, hh⟩
theorem seq_skipF {o : Oper} {rest : List (Oper × Bool)} {a : Act} {w : World} (hg : Region.wanted o (yielded ops a.tmps) = false) (h : wpSeqS P ops S Q rest (a.put o.dst undef) w) : wpSeqS P ops S Q ((o, false) :: rest) a w := by
  unfold wpSeqS
  rw [hg]
  exact h
end
end Go.Proofs.YtkmcjokoinoahaaDoor.Reg
/- ferrymanref01.SameFields, SameLists at equal lists; tlv.Pack, ferrymanref01.Pack: contracts over any world. -/
namespace Go.Proofs.YtkmcjokoinoahaaDoor.TlvE
open Go.RowKit Go.Proofs.YtkmcjokoinoahaaDoor.Lib Go.Proofs.YtkmcjokoinoahaaDoor.Reg Go.Proofs.YtkmcjokoinoahaaDoor.TlvA Go.Proofs.YtkmcjokoinoahaaDoor.TlvB Go.Proofs.YtkmcjokoinoahaaDoor.TlvC Go.Proofs.YtkmcjokoinoahaaDoor.TlvD

theorem fld_at {w : World} {F : Nat → Prop} {A : Option Addr} {n c : Nat} {xs : List (UInt8 × List UInt8)} (h : Sl fld w F A n c xs) {i : Nat} {t : UInt8} {v : List UInt8} (hi : xs[i]? = some (t, v)) :
    ∃ ad A' c', A = some ad ∧ F ad.block ∧ w.cell? (ad.add (i * 2)) = some (.int .u8 (t.toNat : Int)) ∧ w.cell? ⟨(ad.add (i * 2)).block, (ad.add (i * 2)).off + 1, none⟩ = some (.slice A' v.length c') ∧ Sl rU8 w F A' v.length c' v := by
  obtain ⟨ad, cs, e, hb, ⟨c0, d0, rfl, hk0, A', c', hd, hs⟩, hcell⟩ := h.at_ hi
  have hk0' : c0 = [vu8 t] := hk0
  subst hk0'
  have hd' : d0 = [.slice A' v.length c'] := hd
  subst hd'
  exact ⟨ad, A', c', e, hb, hcell 0 _ rfl, by rw [← add_pos' (ad.add (i * 2)) 1 (by omega), add_add']; exact hcell 1 _ rfl, hs⟩

theorem sl_at {w : World} {F : Nat → Prop} {A : Option Addr} {n c : Nat} {xs : List (List UInt8)} (h : Sl (Rep.slice rU8) w F A n c xs) {i : Nat} {v : List UInt8} (hi : xs[i]? = some v) :
    ∃ ad A' c', A = some ad ∧ F ad.block ∧ w.cell? (ad.add i) = some (.slice A' v.length c') ∧ Sl rU8 w F A' v.length c' v := by
  obtain ⟨ad, cs, e, hb, ⟨A', c', hd, hs⟩, hcell⟩ := h.at_ hi
  subst hd
  refine ⟨ad, A', c', e, hb, ?_, hs⟩
  have := hcell 0 _ rfl
  simpa [Rep.slice] using this

/-- Lists as bytes. -/
def packL (l : List (List UInt8)) : List UInt8 := l.flatMap fun v => [lo (v.length / 256), lo v.length] ++ v
theorem packL_take {l : List (List UInt8)} {k : Nat} {v : List UInt8} (h : l[k]? = some v) : packL (l.take (k + 1)) = packL (l.take k) ++ [lo (v.length / 256), lo v.length] ++ v := by
  obtain ⟨hl, hv⟩ := List.getElem?_eq_some_iff.1 h
  subst hv
  unfold packL
  rw [List.take_succ_eq_append_getElem hl, List.flatMap_append]
  simp
theorem packL_le {l : List (List UInt8)} (k : Nat) : (packL (l.take k)).length ≤ (packL l).length := by
  unfold packL
  conv => rhs; rw [← List.take_append_drop k l, List.flatMap_append, List.length_append]
  omega

end Go.Proofs.YtkmcjokoinoahaaDoor.TlvE
/- ferrymanref01.Eight, Num; tlv.Num; tlv.Value, ferrymanref01.Value: contracts over any world. -/
namespace Go.Proofs.YtkmcjokoinoahaaDoor.TlvF
open Go.RowKit Go.Proofs.YtkmcjokoinoahaaDoor.Lib Go.Proofs.YtkmcjokoinoahaaDoor.Reg Go.Proofs.YtkmcjokoinoahaaDoor.TlvA Go.Proofs.YtkmcjokoinoahaaDoor.TlvB

/-- The digit of weight 256^k. -/
def dig (n k : Nat) : UInt8 := lo (n / 256 ^ k)
/-- A number's eight bytes. -/
def eightL (n : Nat) : List UInt8 := [dig n 7, dig n 6, dig n 5, dig n 4, dig n 3, dig n 2, dig n 1, dig n 0]
theorem eight_len (n : Nat) : (eightL n).length = 8 := rfl
theorem eight_get (n k : Nat) (h : k < 8) : (eightL n)[k]? = some (dig n (7 - k)) := by
  match k, h with
  | 0, _ | 1, _ | 2, _ | 3, _ | 4, _ | 5, _ | 6, _ | 7, _ => rfl
theorem eight_take (n k : Nat) (h : k < 8) : (eightL n).take (k + 1) = (eightL n).take k ++ [dig n (7 - k)] := by
  rw [List.take_add_one, eight_get n k h]; rfl
/-- As few bytes as may be. -/
def numL (n : Nat) : List UInt8 := (eightL n).dropWhile (· == 0)
theorem pow256 (k : Nat) : (2 : Nat) ^ (8 * k) = 256 ^ k := by rw [Nat.pow_mul]

theorem dig_int (n k : Nat) : (n : Int) / 2 ^ (8 * k) % 256 = ((dig n k).toNat : Int) := by
  unfold dig
  rw [lo_int, Int.pow_mul, Int.natCast_ediv, Int.natCast_pow]
  rfl
theorem dig_int' (n k : Nat) (h : k < 8) : (n : Int) / 2 ^ (56 - 8 * k) % 256 = ((dig n (7 - k)).toNat : Int) := by
  rw [show 56 - 8 * k = 8 * (7 - k) by omega]
  exact dig_int n (7 - k)
theorem drop_snoc (xs : List UInt8) (c : UInt8) : (xs ++ [c]).dropWhile (· == 0) = if xs.dropWhile (· == 0) = [] then (if c = 0 then [] else [c]) else xs.dropWhile (· == 0) ++ [c] := by
  induction xs with
  | nil => simp [List.dropWhile]; split <;> simp_all
  | cons x xs ih =>
    by_cases h : x = 0
    · subst h; simpa [List.dropWhile] using ih
    · have hx : (x == 0) = false := by simpa using h
      simp [List.dropWhile, hx]
theorem num_len (n : Nat) : (numL n).length ≤ 8 := by
  unfold numL
  exact Nat.le_trans (List.dropWhile_sublist _).length_le (Nat.le_of_eq (eight_len n))

set_option maxHeartbeats 1000000 in
set_option maxRecDepth 100000 in
theorem Eight_calls (w : World) (ni : Int) (n : Nat) (hn : ni = (n : Int)) (hlt : n < 18446744073709551616) :
    Calls Tryd.prog 90 #[.int .u64 ni] w fun e w' => ∃ v, e = .returned v ∧ Fact (Ow rU8 5 w' w.heap.size (fun _ => False) v (eightL n)) ∧ Below w.heap.size w w' := by
  have HBr := Fact.mk (Below.refl w.heap.size w)
  subst hn
  go_enter Tryd.func90, Tryd.ntmps90
  go_wp2_with fail
  go_loopg [3, 4] 8 (fun kq out i wr => ∃ (k : Nat), i = .int .i64 (k : Int) ∧ Fact (k + kq = 8) ∧ Fact (Ow rU8 5 wr w.heap.size (fun _ => False) out ((eightL n).take k)) ∧ Fact (Below w.heap.size w wr))
  case atStart => exact ⟨0, rfl, ⟨by omega⟩, ⟨Ow.nil _ _ _ _ _⟩, HBr⟩
  case round =>
    obtain ⟨k, rfl, HK, HO, HB⟩ := hrel
    by_cases hlt : k < 8
    · have HLT := Fact.mk hlt
      go_wp2_with (at_builtin
                   refine wpList_app rU8 (w0 := w) w.heap.size rfl (.tmp 9) (.tmp 16) 129 5 (.int .u8 0) 1 rfl Tryd.underlying129 info_u8 rfl (by decide) (by decide) (fun _ => False) (fun k => k = wr.heap.size) u3 ((eightL n).take k) [dig n (7 - k)] _ 1 1 rfl rfl
                     (HO.out.below ((Below.refl _ _).alloc (Nat.le_refl _) _) (fun _ h => h.elim)) (Sl.boxB wr _ (by rw [dig_int' n k HLT.out]; rfl) rfl (by omega)) (HB.out.alloc HB.out.size _) (by have := HB.out.size; simp; omega) (by rw [List.length_take, eight_len]; omega) (fun _ h => h.elim) (fun _ _ h => h) ?_
                   intro v2 w2 ho2 hb2 hg2 hat2
                   have HO2 := Fact.mk ho2
                   have HB2 := Fact.mk hb2
                   clear ho2 hb2 hg2 hat2)
      go_roundg (8 - (k + 1))
      case measure => have := HK.out; omega
      case rel => exact ⟨k + 1, by go_num, ⟨by omega⟩, ⟨by rw [eight_take n k hlt]; exact HO2.out⟩, HB2⟩
    · go_wp2_with fail
      go_ret
      have : (eightL n).take k = eightL n := List.take_of_length_le (by rw [eight_len]; omega)
      exact ⟨_, rfl, ⟨by have h := HO.out; rw [this] at h; exact h⟩, HB.out⟩

set_option maxHeartbeats 1000000 in
set_option maxRecDepth 100000 in
theorem RNum_calls (w : World) (ni : Int) (n : Nat) (hn : ni = (n : Int)) (hlt : n < 18446744073709551616) :
    Calls Tryd.prog 81 #[.int .u64 ni] w fun e w' => ∃ A c, e = .returned (.slice A (numL n).length c) ∧ Fact (Sl rU8 w' (fun k => w.heap.size ≤ k ∧ k < w'.heap.size) A (numL n).length c (numL n)) ∧ Below w.heap.size w w' := by
  go_enter Tryd.func81, Tryd.ntmps81
  have HN := Fact.mk hn
  clear hn
  go_wp2_with (go_at_call 90; refine (Eight_calls _ _ n HN.out hlt).mono ?_; rintro e w1 ⟨v1, rfl, HO, hb⟩; have HB := Fact.mk hb; clear hb; obtain ⟨A1, c1, hv, hs⟩ := HO.out.sl; subst hv; have HS : Fact (Sl rU8 w1 (fun k => w.heap.size ≤ k ∧ k < w1.heap.size) A1 (eightL n).length c1 (eightL n)) := ⟨hs.mono (fun k hk => hk.elim False.elim (fun h => HO.out.lt k h))⟩; clear hs)
  simp only [eight_len] at HS
  go_loopg [3] 8 (fun kq b wr => ∃ (A' : Option Addr) (n' c' : Nat) (l' : List UInt8), b = .slice A' n' c' ∧ n' ≤ kq ∧ kq ≤ 8 ∧ wr = w1 ∧ Fact (Sl rU8 w1 (fun k => w.heap.size ≤ k ∧ k < w1.heap.size) A' n' c' l') ∧ Fact (l'.dropWhile (· == 0) = numL n))
  case atStart => exact ⟨A1, 8, c1, eightL n, rfl, by omega, by omega, rfl, HS, ⟨rfl⟩⟩
  case round =>
    obtain ⟨A', n', c', l', rfl, hk, hk8, rfl, HS', HD⟩ := hrel
    match l', HS', HD with
    | [], HS', HD =>
      obtain rfl : n' = 0 := HS'.out.len.symm
      go_wp2_with fail
      go_ret
      have hd : numL n = [] := HD.out.symm
      exact ⟨A', c', by rw [hd]; rfl, ⟨by rw [hd]; exact HS'.out⟩, HB.out⟩
    | t :: r, HS', HD =>
      have hlen : r.length + 1 = n' := HS'.out.len
      have hp : 0 < n' := by omega
      have hp' : (0 : Int) < n' := by omega
      obtain ⟨ad, rfl, hfa, hcell⟩ := HS'.out.byte (i := 0) (b := t) rfl
      have hcell := cell0 hcell
      obtain ⟨i, hi, hsz⟩ := u8_i
      obtain ⟨A2, hs1, hs2⟩ := slice_from (P := Tryd.prog) rU8 129 5 Tryd.underlying129 hi hsz (some ad) n' c' .i64 1 (by omega) (by omega)
      have HS2 := Fact.mk (hs2 HS'.out)
      simp only [Int.reduceToNat] at hs1 HS2
      clear hs2 hi hsz
      have HL := Fact.mk hlen
      clear hlen
      by_cases ht : t = 0
      · have hz : ((t.toNat : Int) == 0) = true := by rw [ht]; rfl
        have HT := Fact.mk ht
        clear ht
        go_wp2_with fail
        go_roundg (n' - 1)
        case measure => omega
        case rel => exact ⟨A2, n' - 1, c' - 1, r, rfl, by omega, by omega, rfl, HS2, ⟨by rw [← HD.out, HT.out]; rfl⟩⟩
      · have hz : ((t.toNat : Int) == 0) = false := by
          rw [beq_eq_false_iff_ne]
          intro h
          exact ht (UInt8.toNat_inj.1 (by simpa using h))
        have HT := Fact.mk ht
        clear ht
        go_wp2_with fail
        go_ret
        have hd : t :: r = numL n := by rw [← HD.out, List.dropWhile_cons_of_neg (by simpa using HT.out)]
        have hl : (numL n).length = n' := by rw [← hd]; exact HL.out
        exact ⟨some ad, c', by rw [hl]; rfl, ⟨by rw [hl, ← hd]; exact HS'.out⟩, HB.out⟩

set_option maxHeartbeats 1000000 in
set_option maxRecDepth 100000 in
theorem Num_calls (w : World) (ni : Int) (n : Nat) (hn : ni = (n : Int)) (hlt : n < 18446744073709551616) :
    Calls Tryd.prog 99 #[.int .u64 ni] w fun e w' => ∃ v, e = .returned v ∧ Fact (Ow rU8 5 w' w.heap.size (fun _ => False) v (numL n)) ∧ Below w.heap.size w w' := by
  have HBr := Fact.mk (Below.refl w.heap.size w)
  subst hn
  go_enter Tryd.func99, Tryd.ntmps99
  go_wp2_with fail
  go_loopg [3, 4] 8 (fun kq out i wr => ∃ (k : Nat) (acc : List UInt8), i = .int .i64 ((kq : Int) - 1) ∧ kq ≤ 8 ∧ acc.length ≤ 8 ∧ Fact (k + kq = 8) ∧ Fact (acc = ((eightL n).take k).dropWhile (· == 0)) ∧ Fact (Ow rU8 5 wr w.heap.size (fun _ => False) out acc) ∧ Fact (Below w.heap.size w wr))
  case atStart => exact ⟨0, [], rfl, by omega, by simp, ⟨by omega⟩, ⟨rfl⟩, ⟨Ow.nil _ _ _ _ _⟩, HBr⟩
  case round =>
    obtain ⟨k, acc, rfl, hk8, hal, HK, HA, HO, HB⟩ := hrel
    obtain ⟨A1, c1, hv, hs⟩ := HO.out.sl
    subst hv
    clear hs
    match gk, hk8, HK with
    | 0, _, HK =>
      go_wp2_with fail
      go_ret
      have e : acc = numL n := by rw [HA.out, List.take_of_length_le (by rw [eight_len]; have := HK.out; omega)]; rfl
      exact ⟨_, rfl, ⟨by rw [← e]; exact HO.out⟩, HB.out⟩
    | j + 1, hk8, HK =>
      have hd := dig_int n j
      have HE : Fact ((eightL n).take (k + 1) = (eightL n).take k ++ [dig n j]) := ⟨by rw [eight_take n k (by have := HK.out; omega), show 7 - k = j by have := HK.out; omega]⟩
      have HD : Fact (((eightL n).take (k + 1)).dropWhile (· == 0) = if acc = [] then (if dig n j = 0 then [] else [dig n j]) else acc ++ [dig n j]) := ⟨by rw [HE.out, drop_snoc, ← HA.out]⟩
      have hlen : (((eightL n).take (k + 1)).dropWhile (· == 0)).length ≤ 8 := Nat.le_trans (List.dropWhile_sublist _).length_le (by rw [List.length_take, eight_len]; omega)
      have HLEN := Fact.mk hlen
      clear HE hlen
      by_cases h0 : dig n j = 0
      · have hd0 : (n : Int) / 2 ^ (8 * j) % 256 = 0 := by rw [hd, h0]; rfl
        have H0 := Fact.mk h0
        clear hd h0
        by_cases ha : acc = []
        · subst ha
          go_wp2_with fail
          go_roundg j
          case measure => omega
          case rel => exact ⟨k + 1, [], by go_num, by omega, by simp, ⟨by have := HK.out; omega⟩, ⟨by rw [HD.out]; simp [H0.out]⟩, HO, HB⟩
        · have hp : decide (0 < acc.length) = true := by simpa using List.length_pos_iff.2 ha
          have hp' : decide ((0 : Int) < acc.length) = true := by simpa using List.length_pos_iff.2 ha
          have HNE := Fact.mk ha
          clear ha
          go_wp2_with (at_builtin; refine wpList_app rU8 (w0 := w) w.heap.size rfl (.tmp 22) (.tmp 24) 129 5 (.int .u8 0) 1 rfl Tryd.underlying129 info_u8 rfl (by decide) (by decide) (fun _ => False) (fun k => k = wr.heap.size) (.slice A1 acc.length c1) acc [dig n j] _ 1 1 rfl rfl (HO.out.below ((Below.refl _ _).alloc (Nat.le_refl _) _) (fun _ h => h.elim)) (Sl.boxB wr _ (by rw [H0.out]; rfl) rfl (by omega)) (HB.out.alloc HB.out.size _) (by have := HB.out.size; simp; omega) (by omega) (fun _ h => h.elim) (fun _ _ h => h) ?_; intro v2 w2 ho2 hb2 hg2 hat2; have HO2 := Fact.mk ho2; have HB2 := Fact.mk hb2; clear ho2 hb2 hg2 hat2)
          go_roundg j
          case measure => omega
          case rel => exact ⟨k + 1, acc ++ [dig n j], by go_num, by omega, by have h := HLEN.out; rw [HD.out, if_neg HNE.out] at h; exact h, ⟨by have := HK.out; omega⟩, ⟨by rw [HD.out, if_neg HNE.out]⟩, HO2, HB2⟩
      · have hz : (((dig n j).toNat : Int) == 0) = false := by
          rw [beq_eq_false_iff_ne]
          intro h
          exact h0 (UInt8.toNat_inj.1 (by simpa using h))
        have hz' : (((dig n j).toNat : Int) != 0) = true := by simpa using hz
        have H0 := Fact.mk h0
        clear h0
        go_wp2_with (at_builtin; refine wpList_app rU8 (w0 := w) w.heap.size rfl (.tmp 22) (.tmp 24) 129 5 (.int .u8 0) 1 rfl Tryd.underlying129 info_u8 rfl (by decide) (by decide) (fun _ => False) (fun k => k = wr.heap.size) (.slice A1 acc.length c1) acc [dig n j] _ 1 1 rfl rfl (HO.out.below ((Below.refl _ _).alloc (Nat.le_refl _) _) (fun _ h => h.elim)) (Sl.boxB wr _ (rfl) rfl (by omega)) (HB.out.alloc HB.out.size _) (by have := HB.out.size; simp; omega) (by omega) (fun _ h => h.elim) (fun _ _ h => h) ?_; intro v2 w2 ho2 hb2 hg2 hat2; have HO2 := Fact.mk ho2; have HB2 := Fact.mk hb2; clear ho2 hb2 hg2 hat2)
        go_roundg j
        case measure => omega
        case rel => exact ⟨k + 1, acc ++ [dig n j], by go_num, by omega, by have h := HLEN.out; rw [HD.out, if_neg H0.out] at h; split at h <;> simp_all, ⟨by have := HK.out; omega⟩, ⟨by rw [HD.out, if_neg H0.out]; split <;> simp_all⟩, HO2, HB2⟩
end Go.Proofs.YtkmcjokoinoahaaDoor.TlvF
/- tlv.Value, ferrymanref01.Value, ferrymanref01.Put, the awake call of chapter 2: contracts over any world. -/
namespace Go.Proofs.YtkmcjokoinoahaaDoor.TlvG
open Go.RowKit Go.Proofs.YtkmcjokoinoahaaDoor.Lib Go.Proofs.YtkmcjokoinoahaaDoor.Reg Go.Proofs.YtkmcjokoinoahaaDoor.TlvA Go.Proofs.YtkmcjokoinoahaaDoor.TlvB Go.Proofs.YtkmcjokoinoahaaDoor.TlvF

/-- What bytes are worth. -/
def valL (l : List UInt8) : Nat := l.foldl (fun a b => a * 256 + b.toNat) 0
theorem valL_snoc (l : List UInt8) (b : UInt8) : valL (l ++ [b]) = valL l * 256 + b.toNat := by simp [valL]
theorem fold_lt (l : List UInt8) : ∀ a : Nat, l.foldl (fun a b => a * 256 + b.toNat) a + 1 ≤ (a + 1) * 256 ^ l.length := by
  induction l with
  | nil => intro a; simp
  | cons b l ih =>
    intro a
    have h1 := ih (a * 256 + b.toNat)
    have h2 := b.toNat_lt
    have h3 : (a * 256 + b.toNat + 1) * 256 ^ l.length ≤ ((a + 1) * 256) * 256 ^ l.length := Nat.mul_le_mul_right _ (by omega)
    simp only [List.foldl_cons, List.length_cons, Nat.pow_succ]
    rw [Nat.mul_comm (256 ^ l.length) 256, ← Nat.mul_assoc]
    omega
theorem valL_lt (l : List UInt8) : valL l < 256 ^ l.length := by
  have := fold_lt l 0
  simp only [Nat.zero_add, Nat.one_mul] at this
  exact this
theorem valL_lt7 (l : List UInt8) (h : l.length ≤ 7) : valL l < 72057594037927936 :=
  Nat.lt_of_lt_of_le (valL_lt l) (Nat.le_trans (Nat.pow_le_pow_right (by omega) h) (by decide))
theorem valL_take {l : List UInt8} {k : Nat} {b : UInt8} (h : l[k]? = some b) : valL (l.take (k + 1)) = valL (l.take k) * 256 + b.toNat := by
  obtain ⟨hl, hv⟩ := List.getElem?_eq_some_iff.1 h
  subst hv
  rw [List.take_succ_eq_append_getElem hl, valL_snoc]
theorem or_u64 (m : Nat) (hm : m < 72057594037927936) (c : UInt8) : bits .or .u64 ((m : Int) * 256) (c.toNat : Int) = ((m * 256 + c.toNat : Nat) : Int) := by
  have h1 := u8_lt c
  rw [bits_join .u64 64 (by decide) (fun n h h' => by rw [IntKind.wrap_u64]; omega) 8 _ _ (by omega) (by omega) (by omega) (by omega) (by omega) (by omega)]
  omega
/-- Bytes of a number: no more than eight, none of nought ahead. -/
def isNum (l : List UInt8) : Bool := decide (l.length ≤ 8) && l.head? != some 0

end Go.Proofs.YtkmcjokoinoahaaDoor.TlvG
/- ferrymanref01.Put; the awake call of chapter 2: contracts over any world. -/
namespace Go.Proofs.YtkmcjokoinoahaaDoor.TlvH
open Go.RowKit Go.Proofs.YtkmcjokoinoahaaDoor.Lib Go.Proofs.YtkmcjokoinoahaaDoor.Reg Go.Proofs.YtkmcjokoinoahaaDoor.TlvA Go.Proofs.YtkmcjokoinoahaaDoor.TlvB Go.Proofs.YtkmcjokoinoahaaDoor.TlvF Go.Proofs.YtkmcjokoinoahaaDoor.TlvG

theorem putL_awake : putL [] 5 [97, 98] = [5, 0, 2, 97, 98] := rfl
theorem numL_awake : numL 258 = [1, 2] := by decide

end Go.Proofs.YtkmcjokoinoahaaDoor.TlvH
/- ferrymanref01.Put; TlvPuts: for every input the law answers true; what was in memory before is as it was. -/
namespace Go.Proofs.YtkmcjokoinoahaaDoor.TlvI
open Go.RowKit Go.Proofs.YtkmcjokoinoahaaDoor.Lib Go.Proofs.YtkmcjokoinoahaaDoor.Reg Go.Proofs.YtkmcjokoinoahaaDoor.TlvA Go.Proofs.YtkmcjokoinoahaaDoor.TlvB Go.Proofs.YtkmcjokoinoahaaDoor.TlvF Go.Proofs.YtkmcjokoinoahaaDoor.TlvG Go.Proofs.YtkmcjokoinoahaaDoor.TlvH

def rputL (l : List UInt8) (t : UInt8) (v : List UInt8) : List UInt8 := if v = [] then l else l ++ [t, lo (v.length / 256), lo v.length] ++ v
theorem rputL_nil {l : List UInt8} {t : UInt8} : rputL l t [] = l := by simp [rputL]
theorem rputL_some {l v : List UInt8} {t : UInt8} (h0 : v ≠ []) : rputL l t v = l ++ [t, lo (v.length / 256), lo v.length] ++ v := by unfold rputL; rw [if_neg h0]
theorem putL_eq {l v : List UInt8} {t : UInt8} (h : v.length ≤ 65535) : putL l t v = rputL l t v := by
  unfold putL rputL
  rw [if_neg (by omega)]

set_option maxHeartbeats 1000000 in
set_option maxRecDepth 100000 in
theorem RPut_calls (w : World) (F : Nat → Prop) (A : Option Addr) (n c : Nat) (l : List UInt8) (ti : Int) (t : UInt8) (A2 : Option Addr) (n2 c2 : Nat) (l2 : List UInt8) (ht : ti = (t.toNat : Int)) (h1 : Sl rU8 w F A n c l) (h2 : Sl rU8 w F A2 n2 c2 l2) (hF : ∀ k, F k → k < w.heap.size)
    (hs : n + n2 + 3 ≤ 140737488355328) :
    Calls Tryd.prog 80 #[.slice A n c, .int .u8 ti, .slice A2 n2 c2] w fun e w' => ∃ A' c', e = .returned (.slice A' (rputL l t l2).length c') ∧ Fact (Sl rU8 w' (fun k => k < w'.heap.size) A' (rputL l t l2).length c' (rputL l t l2)) ∧ Below w.heap.size w w' := by
  have hl1 : l.length = n := h1.len
  have hl2 : l2.length = n2 := h2.len
  have hm2 : n2 ≤ 9223372036854775807 := by omega
  have H1 := Fact.mk h1
  have H2 := Fact.mk h2
  have HT := Fact.mk ht
  have HF := Fact.mk hF
  have HL1 := Fact.mk hl1
  have HL2 := Fact.mk hl2
  clear h1 h2 ht hF
  by_cases hz : l2 = []
  · subst hz
    obtain rfl : n2 = 0 := hl2.symm
    clear hl1 hl2
    go_enter Tryd.func80, Tryd.ntmps80
    go_wp2_with fail
    go_ret
    rw [rputL_nil]
    exact ⟨A, c, by rw [HL1.out]; rfl, ⟨by rw [HL1.out]; exact H1.out.mono HF.out⟩, Below.refl _ _⟩
  · have hp : 0 < n2 := by rw [← hl2]; exact List.length_pos_iff.2 hz
    have hb2 : ((n2 : Int) == 0) = false := by simp; omega
    have HZ := Fact.mk hz
    clear hl1 hl2 hz
    go_enter Tryd.func80, Tryd.ntmps80
    go_wp2_with (first
      | (at_builtin
         refine wpList_app rU8 (w0 := w) w.heap.size rfl (.tmp 11) (.tmp 12) 129 5 (.int .u8 0) 1 rfl Tryd.underlying129 info_u8 rfl (by decide) (by decide) (fun _ => False) F (.slice (some ⟨w.heap.size, 0, none⟩) 0 0) [] l A n c rfl rfl
           (Ow.litB (xs := []) w w.heap.size _ (Nat.le_refl _) rfl rfl (by omega)) (H1.out.move ((Same.refl _ _).alloc HF.out _)) ((Below.refl _ _).alloc (Nat.le_refl _) _) (by simp) (by simp; omega) (fun _ h => h.elim) (fun _ _ h => h) ?_
         intro v1 w1 ho1 hb hg1 hat1
         have HO1 := Fact.mk ho1
         have HB := Fact.mk hb
         clear ho1 hb hg1 hat1)
      | (at_builtin
         refine wpList_app rU8 (w0 := w) w.heap.size rfl (.tmp 13) (.tmp 23) 129 5 (.int .u8 0) 1 rfl Tryd.underlying129 info_u8 rfl (by decide) (by decide) (fun _ => False) (fun k => k = w1.heap.size) v1 ([] ++ l) [t, lo (l2.length / 256), lo l2.length] _ 3 3 rfl rfl
           (HO1.out.below ((Below.refl _ _).alloc (Nat.le_refl _) _) (fun _ h => h.elim)) (Sl.boxB w1 _ (by simp [vu8, lo_int, HT.out, HL2.out]) rfl (by omega)) (HB.out.alloc HB.out.size _) (by have := HB.out.size; simp; omega) (by have := HL1.out; simp only [List.nil_append]; omega) (fun _ h => h.elim) (fun _ _ h => h) ?_
         intro v2 w2 ho2 hb2_ hg2 hat2
         have HO2 := Fact.mk ho2
         have HB2 := Fact.mk hb2_
         clear ho2 hb2_ hg2 hat2)
      | (at_builtin
         refine wpList_app rU8 (w0 := w) w.heap.size rfl (.tmp 24) (.tmp 25) 129 5 (.int .u8 0) 1 rfl Tryd.underlying129 info_u8 rfl (by decide) (by decide) (fun _ => False) F v2 ([] ++ l ++ [t, lo (l2.length / 256), lo l2.length]) l2 _ n2 c2 rfl rfl
           HO2.out (H2.out.move (Same.of_below HB2.out HF.out)) HB2.out HB2.out.size (by have := HL1.out; simp only [List.nil_append, List.length_append, List.length_cons, List.length_nil]; omega) (fun _ h => h.elim) (fun _ _ h => h) ?_
         intro v3 w3 ho3 hb3_ hg3 hat3
         have HO3 := Fact.mk ho3
         have HB3 := Fact.mk hb3_
         clear ho3 hb3_ hg3 hat3))
    go_ret
    rw [rputL_some HZ.out]
    obtain ⟨A3, c3, hv, hs3⟩ := HO3.out.sl
    exact ⟨A3, c3, by rw [← List.nil_append l, ← hv]; rfl, ⟨hs3.mono (fun k hk => hk.elim False.elim (fun h => (HO3.out.lt k h).2))⟩, HB3.out⟩

def putE (n : Nat) : Int := if n > 65535 then 3 else 0
theorem Put_calls' (w : World) (F : Nat → Prop) (A : Option Addr) (n c : Nat) (l : List UInt8) (ti : Int) (t : UInt8) (A2 : Option Addr) (n2 c2 : Nat) (l2 : List UInt8) (ht : ti = (t.toNat : Int)) (h1 : Sl rU8 w F A n c l) (h2 : Sl rU8 w F A2 n2 c2 l2) (hF : ∀ k, F k → k < w.heap.size)
    (hs : n + n2 + 3 ≤ 140737488355328) :
    Calls Tryd.prog 111 #[.slice A n c, .int .u8 ti, .slice A2 n2 c2] w fun e w' => ∃ A' c', e = .returned (.tuple #[.slice A' (putL l t l2).length c', .int .i64 (putE n2)]) ∧ Fact (Ow rU8 5 w' w.heap.size (fun _ => False) (.slice A' (putL l t l2).length c') (putL l t l2)) ∧ Below w.heap.size w w' := by
  obtain rfl := h1.len
  obtain rfl := h2.len
  refine (Put_calls w F A c l ti t A2 c2 l2 ht h1 h2 hF hs).mono ?_
  rintro e w' ⟨v, rfl, ho, hb⟩
  obtain ⟨A', c', hv, _⟩ := ho.out.sl
  subst hv
  exact ⟨A', c', rfl, ho, hb⟩
theorem _root_.Go.Proofs.YtkmcjokoinoahaaDoor.Lib.Ow.slF {α : Type} {r : Rep α} {e : TypeId} {w : World} {base : Nat} {A : Option Addr} {n c : Nat} {xs : List α} (h : Ow r e w base (fun _ => False) (.slice A n c) xs) : Sl r w (fun k => base ≤ k ∧ k < w.heap.size) A n c xs := by
  obtain ⟨A', c', he, hs⟩ := h.sl
  injection he with h1 h2 h3
  subst h1 h2 h3
  exact hs.mono (fun k hk => hk.elim False.elim (fun hv => h.lt k hv))

end Go.Proofs.YtkmcjokoinoahaaDoor.TlvI
/- Plain lemmas on numbers as few bytes, the greatest first: what they are worth, that they are the only ones, how they are ordered. -/
namespace Go.Proofs.YtkmcjokoinoahaaDoor.NumLaw
open Go.RowKit Go.Proofs.YtkmcjokoinoahaaDoor.Lib Go.Proofs.YtkmcjokoinoahaaDoor.TlvA Go.Proofs.YtkmcjokoinoahaaDoor.TlvF Go.Proofs.YtkmcjokoinoahaaDoor.TlvG

theorem fold_from (xs : List UInt8) : ∀ a : Nat, xs.foldl (fun a b => a * 256 + b.toNat) a = a * 256 ^ xs.length + xs.foldl (fun a b => a * 256 + b.toNat) 0 := by
  induction xs with
  | nil => intro a; simp
  | cons x xs ih =>
    intro a
    rw [List.foldl_cons, List.foldl_cons, ih (a * 256 + x.toNat), ih (0 * 256 + x.toNat), List.length_cons, Nat.pow_succ, Nat.add_mul, Nat.add_mul, Nat.mul_assoc a 256, Nat.mul_comm 256 (256 ^ xs.length)]
    simp only [Nat.zero_mul, Nat.zero_add, Nat.add_assoc]
theorem valL_cons (x : UInt8) (xs : List UInt8) : valL (x :: xs) = x.toNat * 256 ^ xs.length + valL xs := by
  unfold valL
  rw [List.foldl_cons, fold_from]
  simp
theorem pos256 (n : Nat) : 0 < 256 ^ n := Nat.pow_pos (by omega)
theorem valL_drop (l : List UInt8) : valL (l.dropWhile (· == 0)) = valL l := by
  induction l with
  | nil => rfl
  | cons x xs ih =>
    by_cases h : x = 0
    · subst h
      rw [List.dropWhile_cons_of_pos (by simp), ih, valL_cons]
      simp
    · rw [List.dropWhile_cons_of_neg (by simpa using h)]
theorem drop_head (l : List UInt8) : (l.dropWhile (· == 0)).head? ≠ some 0 := by
  induction l with
  | nil => simp
  | cons x xs ih =>
    by_cases h : x = 0
    · subst h
      rw [List.dropWhile_cons_of_pos (by simp)]
      exact ih
    · rw [List.dropWhile_cons_of_neg (by simpa using h)]
      simpa using h
theorem lo_nat (n : Nat) : (lo n).toNat = n % 256 := by simp [lo]
theorem val_eight (n : Nat) (h : n < 18446744073709551616) : valL (eightL n) = n := by
  simp only [eightL, valL, List.foldl_cons, List.foldl_nil, dig, lo_nat, Nat.reducePow]
  omega
theorem val_num (n : Nat) (h : n < 18446744073709551616) : valL (numL n) = n := by
  unfold numL
  rw [valL_drop, val_eight n h]
theorem num_head (n : Nat) : (numL n).head? ≠ some 0 := drop_head _
theorem valL_ge {xs : List UInt8} (h : xs.head? ≠ some 0) (hn : xs ≠ []) : 256 ^ (xs.length - 1) ≤ valL xs := by
  cases xs with
  | nil => exact absurd rfl hn
  | cons x xs =>
    have hx : 1 ≤ x.toNat := by
      rcases Nat.eq_zero_or_pos x.toNat with h0 | h0
      · exact absurd (UInt8.toNat_inj.1 (show x.toNat = (0 : UInt8).toNat by simpa using h0)) (by simpa using h)
      · exact h0
    rw [valL_cons, List.length_cons, Nat.add_sub_cancel]
    have := Nat.mul_le_mul_right (256 ^ xs.length) hx
    omega
theorem length_mono {xs ys : List UInt8} (hx : xs.head? ≠ some 0) (h : valL xs ≤ valL ys) : xs.length ≤ ys.length := by
  by_cases e : xs = []
  · subst e; simp
  · apply Decidable.byContradiction
    intro hl
    have h1 := valL_ge hx e
    have h2 := valL_lt ys
    have h3 : 256 ^ ys.length ≤ 256 ^ (xs.length - 1) := Nat.pow_le_pow_right (by omega) (by omega)
    omega
theorem valL_inj : ∀ {xs ys : List UInt8}, xs.length = ys.length → valL xs = valL ys → xs = ys
  | [], [], _, _ => rfl
  | [], y :: ys, h, _ => by simp at h
  | x :: xs, [], h, _ => by simp at h
  | x :: xs, y :: ys, hl, hw => by
    have hl' : xs.length = ys.length := by simpa using hl
    rw [valL_cons, valL_cons, hl'] at hw
    have a := valL_lt xs
    have b := valL_lt ys
    rw [hl'] at a
    have e : x.toNat = y.toNat := by
      rcases Nat.lt_trichotomy x.toNat y.toNat with h | h | h
      · have := Nat.mul_le_mul_right (256 ^ ys.length) h
        rw [Nat.succ_mul] at this
        omega
      · exact h
      · have := Nat.mul_le_mul_right (256 ^ ys.length) h
        rw [Nat.succ_mul] at this
        omega
    have e' := UInt8.toNat_inj.1 e
    subst e'
    rw [valL_inj hl' (by omega)]
theorem num_unique {l : List UInt8} (h : l.head? ≠ some 0) (hl : l.length ≤ 8) : numL (valL l) = l := by
  have hlt : valL l < 18446744073709551616 := Nat.lt_of_lt_of_le (valL_lt l) (Nat.le_trans (Nat.pow_le_pow_right (by omega) hl) (by decide))
  have hv := val_num _ hlt
  refine valL_inj ?_ hv
  have a := length_mono (num_head (valL l)) (Nat.le_of_eq hv)
  have b := length_mono h (Nat.le_of_eq hv.symm)
  omega
theorem num_nil (n : Nat) (h : n < 18446744073709551616) : (numL n).length = 0 ↔ n = 0 := by
  constructor
  · intro h0
    have := val_num n h
    rw [List.eq_nil_of_length_eq_zero h0] at this
    exact this.symm
  · rintro rfl
    rfl
theorem num_mono {a b : Nat} (h : a ≤ b) (hb : b < 18446744073709551616) : (numL a).length ≤ (numL b).length :=
  length_mono (num_head a) (by rw [val_num a (by omega), val_num b hb]; exact h)
theorem bytesLess_iff : ∀ {xs ys : List UInt8}, xs.length = ys.length → (Op.bytesLess xs ys = true ↔ valL xs < valL ys)
  | [], [], _ => by simp [Op.bytesLess, valL]
  | [], y :: ys, h => by simp at h
  | x :: xs, [], h => by simp at h
  | x :: xs, y :: ys, hl => by
    have hl' : xs.length = ys.length := by simpa using hl
    have ih := bytesLess_iff hl'
    rw [valL_cons, valL_cons, hl']
    have a := valL_lt xs
    have b := valL_lt ys
    rw [hl'] at a
    simp only [Op.bytesLess, Bool.or_eq_true, Bool.and_eq_true, decide_eq_true_eq, beq_iff_eq]
    rw [UInt8.lt_iff_toNat_lt, ← UInt8.toNat_inj, ih]
    rcases Nat.lt_trichotomy x.toNat y.toNat with h | h | h
    · have := Nat.mul_le_mul_right (256 ^ ys.length) h
      rw [Nat.succ_mul] at this
      constructor
      · intro _; omega
      · intro _; exact .inl h
    · rw [h]
      constructor
      · rintro (h | ⟨_, h⟩) <;> omega
      · intro h; exact .inr ⟨rfl, by omega⟩
    · have := Nat.mul_le_mul_right (256 ^ ys.length) h
      rw [Nat.succ_mul] at this
      constructor
      · rintro (h | ⟨h, _⟩) <;> omega
      · intro _; omega
end Go.Proofs.YtkmcjokoinoahaaDoor.NumLaw
/- TlvNums: for every input the law answers true; what was in memory before is as it was. -/
namespace Go.Proofs.YtkmcjokoinoahaaDoor.LawNums
open Go.RowKit Go.Proofs.YtkmcjokoinoahaaDoor.Lib Go.Proofs.YtkmcjokoinoahaaDoor.Reg Go.Proofs.YtkmcjokoinoahaaDoor.TlvA Go.Proofs.YtkmcjokoinoahaaDoor.TlvB Go.Proofs.YtkmcjokoinoahaaDoor.TlvF Go.Proofs.YtkmcjokoinoahaaDoor.TlvG Go.Proofs.YtkmcjokoinoahaaDoor.TlvH Go.Proofs.YtkmcjokoinoahaaDoor.TlvI Go.Proofs.YtkmcjokoinoahaaDoor.NumLaw

/-- Are bytes a number's? -/
def okN (l : List UInt8) : Bool := decide (l.length ≤ 8 ∧ l.head? ≠ some 0)
def valN (l : List UInt8) : Nat := if okN l then valL l else 0
def errN (l : List UInt8) : Int := if okN l then 0 else 7
theorem valN_lt (l : List UInt8) : valN l < 18446744073709551616 := by
  unfold valN okN
  split
  · rename_i h
    rw [decide_eq_true_eq] at h
    exact Nat.lt_of_lt_of_le (valL_lt l) (Nat.le_trans (Nat.pow_le_pow_right (by omega) h.1) (by decide))
  · omega
theorem okN_num (n : Nat) : okN (numL n) = true := by unfold okN; rw [decide_eq_true_eq]; exact ⟨num_len n, num_head n⟩
theorem valN_num (n : Nat) (h : n < 18446744073709551616) : valN (numL n) = n := by unfold valN; rw [if_pos (okN_num n), val_num n h]
theorem errN_num (n : Nat) : errN (numL n) = 0 := by unfold errN; rw [if_pos (okN_num n)]
theorem num_valN {l : List UInt8} (h : okN l = true) : numL (valN l) = l := by
  unfold valN
  rw [if_pos h]
  unfold okN at h
  rw [decide_eq_true_eq] at h
  exact num_unique h.2 h.1

end Go.Proofs.YtkmcjokoinoahaaDoor.LawNums
/- Fields and pieces as bytes and back: the plain laws; no program in sight. -/
namespace Go.Proofs.YtkmcjokoinoahaaDoor.PlainT
open Go.RowKit Go.Proofs.YtkmcjokoinoahaaDoor.Lib Go.Proofs.YtkmcjokoinoahaaDoor.TlvA Go.Proofs.YtkmcjokoinoahaaDoor.TlvB Go.Proofs.YtkmcjokoinoahaaDoor.TlvC Go.Proofs.YtkmcjokoinoahaaDoor.TlvD Go.Proofs.YtkmcjokoinoahaaDoor.TlvE

/-- Fields' bytes. -/
def puts (fs : List (UInt8 × List UInt8)) : List UInt8 := fs.flatMap fun f => [f.1, lo (f.2.length / 256), lo f.2.length] ++ f.2

theorem lo_hi (a b : UInt8) : lo ((a.toNat * 256 + b.toNat) / 256) = a := by
  have h := b.toNat_lt
  have ha := a.toNat_lt
  rw [show (a.toNat * 256 + b.toNat) / 256 = a.toNat by omega]
  exact UInt8.ofNat_toNat
theorem lo_lo (a b : UInt8) : lo (a.toNat * 256 + b.toNat) = b := by
  have h := b.toNat_lt
  apply UInt8.toNat.inj
  simp [lo]
theorem piece_eq {l v rest : List UInt8} (h : pieceL l = some (v, rest)) : l = [lo (v.length / 256), lo v.length] ++ v ++ rest ∧ v.length ≤ 65535 := by
  match l, h with
  | [], h => cases h
  | [_], h => cases h
  | b0 :: b1 :: r, h =>
    rw [pieceL] at h
    split at h
    · rename_i hle
      injection h with h
      injection h with h1 h2
      subst h1 h2
      have hl : (r.take (b0.toNat * 256 + b1.toNat)).length = b0.toNat * 256 + b1.toNat := by rw [List.length_take]; omega
      rw [hl, lo_hi, lo_lo]
      have k0 := b0.toNat_lt
      have k1 := b1.toNat_lt
      constructor
      · simp
      · omega
    · cases h
theorem piece_put (v rest : List UInt8) (hv : v.length ≤ 65535) : pieceL ([lo (v.length / 256), lo v.length] ++ v ++ rest) = some (v, rest) := by
  have h1 : (lo (v.length / 256)).toNat = v.length / 256 := by simp [lo]; omega
  have h2 : (lo v.length).toNat = v.length % 256 := by simp [lo]
  have h3 : (lo (v.length / 256)).toNat * 256 + (lo v.length).toNat = v.length := by omega
  simp only [List.cons_append, List.nil_append, pieceL, h3, List.length_append]
  rw [if_pos (by omega)]
  simp
theorem parse_one (l : List UInt8) (last : Int) : (parseG l last).2 = 0 → puts (parseG l last).1 = l ∧ ∀ f ∈ (parseG l last).1, f.2 ≠ [] ∧ f.2.length ≤ 65535 := by
  match l with
  | [] => rw [parseG_nil]; simp [puts]
  | t :: r =>
    cases h : pieceL r with
    | none => rw [parseG_none h]; simp
    | some x =>
      obtain ⟨v, rest⟩ := x
      have hlen := (piece_len h).2
      have ih := parse_one rest t.toNat
      obtain ⟨he, hvl⟩ := piece_eq h
      rw [parseG_some h]
      split
      · simp
      · split
        · simp
        · split
          · rename_i hv _ h0
            intro _
            obtain ⟨i1, i2⟩ := ih h0
            constructor
            · rw [puts, List.flatMap_cons]
              have : (List.flatMap (fun f : UInt8 × List UInt8 => [f.1, lo (f.2.length / 256), lo f.2.length] ++ f.2) (parseG rest t.toNat).1) = rest := i1
              rw [this]
              conv => rhs; rw [he]
              simp
            · intro f hf
              rcases List.mem_cons.1 hf with rfl | hf
              · exact ⟨hv, hvl⟩
              · exact i2 f hf
          · rename_i h0
            intro h1
            exact absurd h1 h0
termination_by l.length
decreasing_by simp; omega
theorem unpack_one (l : List UInt8) : (unpackG l).2 = 0 → packL (unpackG l).1 = l ∧ ∀ v ∈ (unpackG l).1, v.length ≤ 65535 := by
  match hl : l with
  | [] => rw [unpackG_nil]; simp [packL]
  | t :: r =>
    cases h : pieceL (t :: r) with
    | none => rw [unpackG_none (by simp) h]; simp
    | some x =>
      obtain ⟨v, rest⟩ := x
      have hlen := (piece_len h).2
      have ih := unpack_one rest
      obtain ⟨he, hvl⟩ := piece_eq h
      rw [unpackG_some h]
      split
      · rename_i h0
        intro _
        obtain ⟨i1, i2⟩ := ih h0
        constructor
        · rw [packL, List.flatMap_cons]
          have : (List.flatMap (fun v : List UInt8 => [lo (v.length / 256), lo v.length] ++ v) (unpackG rest).1) = rest := i1
          rw [this]
          exact he.symm
        · intro f hf
          rcases List.mem_cons.1 hf with rfl | hf
          · exact hvl
          · exact i2 f hf
      · rename_i h0
        intro h1
        exact absurd h1 h0
termination_by l.length
decreasing_by simp at hlen ⊢; omega
theorem unpack_pack (l : List (List UInt8)) (h : ∀ v ∈ l, v.length ≤ 65535) : unpackG (packL l) = (l, 0) := by
  induction l with
  | nil => exact unpackG_nil
  | cons v r ih =>
    have ih := ih fun x hx => h x (List.mem_cons_of_mem _ hx)
    have he : packL (v :: r) = [lo (v.length / 256), lo v.length] ++ v ++ packL r := by simp [packL]
    have hp := piece_put v (packL r) (h v List.mem_cons_self)
    rw [← he] at hp
    rw [unpackG_some hp, ih]
    simp
theorem puts_take {l : List (UInt8 × List UInt8)} {k : Nat} {t : UInt8} {v : List UInt8} (h : l[k]? = some (t, v)) : puts (l.take (k + 1)) = puts (l.take k) ++ [t, lo (v.length / 256), lo v.length] ++ v := by
  obtain ⟨hl, hv⟩ := List.getElem?_eq_some_iff.1 h
  unfold puts
  rw [List.take_succ_eq_append_getElem hl, hv, List.flatMap_append]
  simp
theorem puts_le {l : List (UInt8 × List UInt8)} (k : Nat) : (puts (l.take k)).length ≤ (puts l).length := by
  conv => rhs; rw [← List.take_append_drop k l]
  unfold puts
  rw [List.flatMap_append, List.length_append]
  omega
/-- Fields that rise from one tag on are parsed as they were. -/
theorem parse_puts (l : List (UInt8 × List UInt8)) (last : Int) (h : ∀ f ∈ l, f.2 ≠ [] ∧ f.2.length ≤ 65535) (hr : l.Pairwise fun f g => f.1.toNat < g.1.toNat) (hl : ∀ f ∈ l, last < (f.1.toNat : Int)) : parseG (puts l) last = (l, 0) := by
  induction l generalizing last with
  | nil => exact parseG_nil _
  | cons f r ih =>
    obtain ⟨t, v⟩ := f
    have hv := h (t, v) List.mem_cons_self
    have hp := List.pairwise_cons.1 hr
    have ih := ih (t.toNat : Int) (fun x hx => h x (List.mem_cons_of_mem _ hx)) hp.2 (fun x hx => by have := hp.1 x hx; simp at this; omega)
    have he : puts ((t, v) :: r) = t :: ([lo (v.length / 256), lo v.length] ++ v ++ puts r) := by simp [puts]
    have hl := hl (t, v) List.mem_cons_self
    simp only at hv hl
    rw [he, parseG_some (piece_put v (puts r) hv.2), if_neg hv.1, if_neg (by omega), ih]
    simp
end Go.Proofs.YtkmcjokoinoahaaDoor.PlainT
/- TlvOne: for every input the law answers true; what was in memory before is as it was. -/
namespace Go.Proofs.YtkmcjokoinoahaaDoor.LawOne
open Go.RowKit Go.Proofs.YtkmcjokoinoahaaDoor.Lib Go.Proofs.YtkmcjokoinoahaaDoor.TlvA Go.Proofs.YtkmcjokoinoahaaDoor.TlvB Go.Proofs.YtkmcjokoinoahaaDoor.TlvC Go.Proofs.YtkmcjokoinoahaaDoor.TlvD Go.Proofs.YtkmcjokoinoahaaDoor.TlvE Go.Proofs.YtkmcjokoinoahaaDoor.TlvH Go.Proofs.YtkmcjokoinoahaaDoor.TlvI Go.Proofs.YtkmcjokoinoahaaDoor.PlainT

theorem puts_put {l : List (UInt8 × List UInt8)} {k : Nat} {t : UInt8} {v : List UInt8} (h : l[k]? = some (t, v)) (hv : v ≠ []) (hl : v.length ≤ 65535) : puts (l.take (k + 1)) = putL (puts (l.take k)) t v := by
  rw [puts_take h, putL_some (by omega) hv]
theorem packL_len (l : List (List UInt8)) : l.length ≤ (packL l).length := by
  induction l with
  | nil => exact Nat.le_refl _
  | cons v r ih =>
    have he : packL (v :: r) = [lo (v.length / 256), lo v.length] ++ v ++ packL r := by simp [packL]
    rw [he]
    simp only [List.length_append, List.length_cons, List.length_nil]
    omega
theorem puts_len (l : List (UInt8 × List UInt8)) : l.length ≤ (puts l).length := by
  induction l with
  | nil => exact Nat.le_refl _
  | cons f r ih =>
    have he : puts (f :: r) = [f.1, lo (f.2.length / 256), lo f.2.length] ++ f.2 ++ puts r := by simp [puts]
    rw [he]
    simp only [List.length_append, List.length_cons, List.length_nil]
    omega
theorem putE_zero {n : Nat} (h : n ≤ 65535) : putE n = 0 := by unfold putE; rw [if_neg (by omega)]

end Go.Proofs.YtkmcjokoinoahaaDoor.LawOne
/- Packets, answers, headers as bytes and back: the plain laws; no program in sight. -/
namespace Go.Proofs.YtkmcjokoinoahaaDoor.PlainP
open Go.Proofs.YtkmcjokoinoahaaDoor.Lib Go.Proofs.YtkmcjokoinoahaaDoor.TlvA Go.Proofs.YtkmcjokoinoahaaDoor.TlvB Go.Proofs.YtkmcjokoinoahaaDoor.TlvC Go.Proofs.YtkmcjokoinoahaaDoor.TlvF Go.Proofs.YtkmcjokoinoahaaDoor.TlvG Go.Proofs.YtkmcjokoinoahaaDoor.TlvI Go.Proofs.YtkmcjokoinoahaaDoor.PlainT Go.Proofs.YtkmcjokoinoahaaDoor.LawNums Go.Proofs.YtkmcjokoinoahaaDoor.LawOne

abbrev Fs := List (UInt8 × List UInt8)
/-- A field, if it has bytes. -/
def opt (t : UInt8) (v : List UInt8) (rest : Fs) : Fs := if v = [] then rest else (t, v) :: rest
theorem opt_nil (t : UInt8) (rest : Fs) : opt t [] rest = rest := by unfold opt; rw [if_pos rfl]
theorem puts_app (a b : Fs) : puts (a ++ b) = puts a ++ puts b := by unfold puts; rw [List.flatMap_append]
theorem put_opt (fs : Fs) (t : UInt8) (v : List UInt8) (hv : v.length ≤ 65535) : putL (puts fs) t v = puts (fs ++ opt t v []) := by
  unfold opt
  by_cases h : v = []
  · rw [if_pos h, h, putL_nil, List.append_nil]
  · rw [if_neg h, putL_some (by omega) h, puts_app]; simp [puts]
theorem opt_app (t : UInt8) (v : List UInt8) (a b : Fs) : opt t v a ++ b = opt t v (a ++ b) := by unfold opt; split <;> simp

abbrev St := Fs × Int
def rB (s : St) (t : UInt8) : List UInt8 × St :=
  if s.2 = 0 then (match s.1 with | (u, v) :: r => if u = t then (v, (r, s.2)) else ([], s) | [] => ([], s)) else ([], s)
theorem rB_err {s : St} (h : s.2 ≠ 0) (t : UInt8) : rB s t = ([], s) := by unfold rB; rw [if_neg h]
theorem rB_nil {s : St} (h : s.1 = []) (t : UInt8) : rB s t = ([], s) := by unfold rB; rw [h]; split <;> rfl
theorem rB_no {s : St} {u t : UInt8} {v : List UInt8} {r : Fs} (h : s.1 = (u, v) :: r) (hu : u ≠ t) : rB s t = ([], s) := by unfold rB; rw [h]; split <;> simp [hu]
theorem rB_yes {s : St} {t : UInt8} {v : List UInt8} {r : Fs} (h0 : s.2 = 0) (h : s.1 = (t, v) :: r) : rB s t = (v, (r, s.2)) := by unfold rB; rw [if_pos h0, h]; simp
theorem rB_e (s : St) (t : UInt8) : (rB s t).2.2 = s.2 := by
  unfold rB
  split
  · split
    · split <;> rfl
    · rfl
  · rfl
theorem rB_len (s : St) (t : UInt8) : (rB s t).2.1.length ≤ s.1.length := by
  unfold rB
  split
  · split
    · rename_i h; split
      · rw [h]; simp
      · exact Nat.le_refl _
    · exact Nat.le_refl _
  · exact Nat.le_refl _
theorem rB_mem {s : St} {t : UInt8} {f : UInt8 × List UInt8} (h : f ∈ (rB s t).2.1) : f ∈ s.1 := by
  unfold rB at h
  split at h
  · split at h
    · rename_i hs; split at h
      · rw [hs]; exact List.mem_cons_of_mem _ h
      · exact h
    · exact h
  · exact h
def rFail (s : St) (k : Int) : St := (s.1, if s.2 = 0 then k else s.2)
def rN (s : St) (t : UInt8) : Nat × St := (valN (rB s t).1, ((rB s t).2.1, if (rB s t).2.2 = 0 then errN (rB s t).1 else (rB s t).2.2))
def Z32 : List UInt8 := List.replicate 32 0
def rH (s : St) (t : UInt8) : List UInt8 × St :=
  if (rB s t).1 = [] then (Z32, (rB s t).2) else if (rB s t).1.length ≠ 32 ∨ (rB s t).1 = Z32 then (Z32, rFail (rB s t).2 7) else ((rB s t).1, (rB s t).2)
def rEnd (s : St) : Int := if s.1 = [] then s.2 else (rFail s 8).2
/-- What a sum's field holds. -/
def hashF (h : List UInt8) : List UInt8 := if h = Z32 then [] else h

/-- Fields behind a tag. -/
def Up (t : Nat) (fs : Fs) : Prop := (∀ f ∈ fs, t < f.1.toNat) ∧ (∀ f ∈ fs, f.2 ≠ [] ∧ f.2.length ≤ 65535) ∧ fs.Pairwise fun f g => f.1.toNat < g.1.toNat
theorem Up.nil (t : Nat) : Up t [] := ⟨by simp, by simp, List.Pairwise.nil⟩
theorem Up.opt {t : UInt8} {fs : Fs} {v : List UInt8} (h : Up t.toNat fs) (hv : v.length ≤ 65535) {k : Nat} (hk : k < t.toNat) : Up k (opt t v fs) := by
  unfold PlainP.opt
  split
  · exact ⟨fun f hf => Nat.lt_trans hk (h.1 f hf), h.2.1, h.2.2⟩
  · rename_i h0
    refine ⟨fun f hf => ?_, fun f hf => ?_, ?_⟩
    · rcases List.mem_cons.1 hf with rfl | hf
      · exact hk
      · exact Nat.lt_trans hk (h.1 f hf)
    · rcases List.mem_cons.1 hf with rfl | hf
      · exact ⟨h0, hv⟩
      · exact h.2.1 f hf
    · exact List.pairwise_cons.2 ⟨fun g hg => h.1 g hg, h.2.2⟩
theorem Up.parse {fs : Fs} (h : Up 0 fs) : parseG (puts fs) (-1) = (fs, 0) := parse_puts fs (-1) h.2.1 h.2.2 (fun f _ => by omega)

theorem rB_opt {t : UInt8} {v : List UInt8} {fs : Fs} (h : Up t.toNat fs) : rB (opt t v fs, 0) t = (v, (fs, 0)) := by
  unfold opt
  by_cases hv : v = []
  · rw [if_pos hv, hv]
    match fs, h with
    | [], h => exact rB_nil rfl t
    | (u, x) :: r, h =>
      refine rB_no rfl (fun e => ?_)
      have := h.1 (u, x) List.mem_cons_self
      rw [e] at this
      exact Nat.lt_irrefl _ this
  · rw [if_neg hv]; exact rB_yes rfl rfl
theorem rN_opt {t : UInt8} {n : Nat} {fs : Fs} (h : Up t.toNat fs) (hn : n < 18446744073709551616) : rN (opt t (numL n) fs, 0) t = (n, (fs, 0)) := by
  unfold rN
  rw [rB_opt h]
  simp only
  rw [valN_num n hn, errN_num, if_pos trivial]
theorem rH_opt {t : UInt8} {x : List UInt8} {fs : Fs} (h : Up t.toNat fs) (hx : x.length = 32) : rH (opt t (hashF x) fs, 0) t = (x, (fs, 0)) := by
  unfold rH
  rw [rB_opt h]
  simp only
  unfold hashF
  by_cases hz : x = Z32
  · rw [if_pos hz, if_pos rfl, hz]
  · rw [if_neg hz, if_neg (by intro e; rw [e] at hx; cases hx), if_neg (by simp [hx, hz])]
/-- Fields with bytes. -/
def Full (fs : Fs) : Prop := ∀ f ∈ fs, f.2 ≠ [] ∧ f.2.length ≤ 65535
theorem rB_inv {s : St} {t : UInt8} (hf : Full s.1) (h0 : s.2 = 0) : s.1 = opt t (rB s t).1 (rB s t).2.1 ∧ (rB s t).2.2 = 0 ∧ Full (rB s t).2.1 ∧ (rB s t).1.length ≤ 65535 := by
  obtain ⟨fs, e⟩ := s
  simp only at h0 hf ⊢
  match fs, hf with
  | [], hf => rw [rB_nil rfl]; exact ⟨(opt_nil _ _).symm, h0, hf, by simp⟩
  | (u, v) :: r, hf =>
    by_cases hu : u = t
    · subst hu
      rw [rB_yes h0 rfl]
      have := hf (u, v) List.mem_cons_self
      exact ⟨by unfold opt; rw [if_neg this.1], h0, fun f hm => hf f (List.mem_cons_of_mem _ hm), this.2⟩
    · rw [rB_no rfl hu]
      exact ⟨(opt_nil _ _).symm, h0, hf, by simp⟩
theorem errN_ok {v : List UInt8} (h : errN v = 0) : okN v = true := by
  unfold errN at h
  by_cases hk : okN v = true
  · exact hk
  · rw [if_neg hk] at h; cases h
theorem rN_inv {s : St} {t : UInt8} (hf : Full s.1) (h : (rN s t).2.2 = 0) : s.2 = 0 ∧ s.1 = opt t (numL (rN s t).1) (rN s t).2.1 ∧ Full (rN s t).2.1 ∧ (rN s t).1 < 18446744073709551616 := by
  unfold rN at h ⊢
  simp only at h ⊢
  rw [rB_e] at h
  by_cases h0 : s.2 = 0
  · rw [if_pos h0] at h
    obtain ⟨i1, i2, i3, i4⟩ := rB_inv (t := t) hf h0
    refine ⟨h0, ?_, i3, valN_lt _⟩
    rw [num_valN (errN_ok h)]
    exact i1
  · rw [if_neg h0] at h; exact absurd h h0
theorem Z32_len : Z32.length = 32 := by simp [Z32]
theorem rFail_ne {s : St} {k : Int} (hk : k ≠ 0) : (rFail s k).2 ≠ 0 := by
  unfold rFail
  simp only
  split
  · exact hk
  · assumption
theorem rH_inv {s : St} {t : UInt8} (hf : Full s.1) (h : (rH s t).2.2 = 0) : s.2 = 0 ∧ s.1 = opt t (hashF (rH s t).1) (rH s t).2.1 ∧ Full (rH s t).2.1 ∧ (rH s t).1.length = 32 := by
  unfold rH at h ⊢
  by_cases hv : (rB s t).1 = []
  · rw [if_pos hv] at h ⊢
    simp only at h ⊢
    rw [rB_e] at h
    obtain ⟨i1, i2, i3, i4⟩ := rB_inv (t := t) hf h
    refine ⟨h, ?_, i3, Z32_len⟩
    unfold hashF
    rw [if_pos rfl, ← hv]
    exact i1
  · rw [if_neg hv] at h ⊢
    by_cases hb : (rB s t).1.length ≠ 32 ∨ (rB s t).1 = Z32
    · rw [if_pos hb] at h; exact absurd h (rFail_ne (by decide))
    · rw [if_neg hb] at h ⊢
      simp only at h ⊢
      rw [rB_e] at h
      obtain ⟨i1, i2, i3, i4⟩ := rB_inv (t := t) hf h
      rw [not_or] at hb
      refine ⟨h, ?_, i3, by omega⟩
      unfold hashF
      rw [if_neg hb.2]
      exact i1
theorem rEnd_zero {s : St} (h : rEnd s = 0) : s.1 = [] ∧ s.2 = 0 := by
  unfold rEnd at h
  by_cases h1 : s.1 = []
  · rw [if_pos h1] at h; exact ⟨h1, h⟩
  · rw [if_neg h1] at h; exact absurd h (rFail_ne (by decide))
theorem rEnd_nil : rEnd (([] : Fs), 0) = 0 := rfl
theorem rEnd_more (f : UInt8 × List UInt8) (r : Fs) : rEnd (f :: r, 0) = 8 := rfl

/-- A packet. -/
structure Pk where
  ch : Nat
  seq : Nat
  tmo : Nat
  den : List UInt8
  amt : Nat
  frm : List UInt8
  to : List UInt8
def Pk.zero : Pk := ⟨0, 0, 0, [], 0, [], []⟩
structure Pk.ok (p : Pk) : Prop where
  ch : p.ch < 4
  seq : p.seq < 18446744073709551616
  tmo : p.tmo < 18446744073709551616
  amt : p.amt < 18446744073709551616
  den : p.den.length ≤ 65535
  frm : p.frm.length ≤ 65535
  to : p.to.length ≤ 65535
def pkL (p : Pk) : List UInt8 := putL (putL (putL (putL (putL (putL (putL [] 1 (numL p.ch)) 2 (numL p.seq)) 3 (numL p.tmo)) 4 p.den) 5 (numL p.amt)) 6 p.frm) 7 p.to
def pkFs (p : Pk) (r : Fs) : Fs := opt 1 (numL p.ch) (opt 2 (numL p.seq) (opt 3 (numL p.tmo) (opt 4 p.den (opt 5 (numL p.amt) (opt 6 p.frm (opt 7 p.to r))))))
theorem num_short (n : Nat) : (numL n).length ≤ 65535 := Nat.le_trans (num_len n) (by decide)
theorem puts_nil : puts [] = [] := rfl
theorem pkL_eq {p : Pk} (h : p.ok) : pkL p = puts (pkFs p []) := by
  unfold pkL pkFs
  rw [← puts_nil, put_opt _ _ _ (num_short _), put_opt _ _ _ (num_short _), put_opt _ _ _ (num_short _), put_opt _ _ _ h.den, put_opt _ _ _ (num_short _), put_opt _ _ _ h.frm, put_opt _ _ _ h.to]
  simp only [opt_app, List.nil_append, List.append_assoc]
theorem pkFs_app (p : Pk) (r : Fs) : pkFs p [] ++ r = pkFs p r := by unfold pkFs; simp only [opt_app, List.nil_append]
theorem pkFs_up {p : Pk} (h : p.ok) {r : Fs} (hr : Up 7 r) : Up 0 (pkFs p r) := by
  unfold pkFs
  exact Up.opt (t := 1) (Up.opt (t := 2) (Up.opt (t := 3) (Up.opt (t := 4) (Up.opt (t := 5) (Up.opt (t := 6) (Up.opt (t := 7) hr h.to (k := 6) (by decide)) h.frm (k := 5) (by decide)) (num_short _) (k := 4) (by decide)) h.den (k := 3) (by decide)) (num_short _) (k := 2) (by decide)) (num_short _) (k := 1) (by decide)) (num_short _) (k := 0) (by decide)
def rdPk (s : St) : Pk × St :=
  let a := rN s 1
  let s1 := if 4 ≤ a.1 then rFail a.2 2 else a.2
  let b := rN s1 2
  let c := rN b.2 3
  let d := rB c.2 4
  let e := rN d.2 5
  let f := rB e.2 6
  let g := rB f.2 7
  (⟨a.1 % 4, b.1, c.1, d.1, e.1, f.1, g.1⟩, g.2)
def readPk (l : List UInt8) : Pk × Int := if rEnd (rdPk (parseG l (-1))).2 = 0 then ((rdPk (parseG l (-1))).1, 0) else (Pk.zero, rEnd (rdPk (parseG l (-1))).2)
theorem rdPk_fs {p : Pk} (h : p.ok) {r : Fs} (hr : Up 7 r) : rdPk (pkFs p r, 0) = (p, (r, 0)) := by
  have u6 : Up 6 (opt 7 p.to r) := Up.opt (t := 7) hr h.to (by decide)
  have u5 : Up 5 (opt 6 p.frm (opt 7 p.to r)) := Up.opt (t := 6) u6 h.frm (by decide)
  have u4 : Up 4 (opt 5 (numL p.amt) (opt 6 p.frm (opt 7 p.to r))) := Up.opt (t := 5) u5 (num_short _) (by decide)
  have u3 : Up 3 (opt 4 p.den (opt 5 (numL p.amt) (opt 6 p.frm (opt 7 p.to r)))) := Up.opt (t := 4) u4 h.den (by decide)
  have u2 : Up 2 (opt 3 (numL p.tmo) (opt 4 p.den (opt 5 (numL p.amt) (opt 6 p.frm (opt 7 p.to r))))) := Up.opt (t := 3) u3 (num_short _) (by decide)
  have u1 : Up 1 (opt 2 (numL p.seq) (opt 3 (numL p.tmo) (opt 4 p.den (opt 5 (numL p.amt) (opt 6 p.frm (opt 7 p.to r)))))) := Up.opt (t := 2) u2 (num_short _) (by decide)
  unfold rdPk pkFs
  have hch := h.ch
  simp only [rN_opt (t := 1) u1 (show p.ch < 18446744073709551616 by omega), rN_opt (t := 2) u2 h.seq, rN_opt (t := 3) u3 h.tmo, rB_opt (t := 4) u4, rN_opt (t := 5) u5 h.amt, rB_opt (t := 6) u6, rB_opt (t := 7) hr, if_neg (show ¬ 4 ≤ p.ch by omega)]
  rw [Nat.mod_eq_of_lt hch]
theorem back_pk {p : Pk} (h : p.ok) : readPk (pkL p) = (p, 0) := by
  unfold readPk
  rw [pkL_eq h, (pkFs_up h (Up.nil 7)).parse, rdPk_fs h (Up.nil 7), if_pos rEnd_nil]
theorem nine_up (k : Nat) (hk : k < 9) : Up k [(9, [1])] := ⟨by simp; exact hk, by simp, by simp⟩
theorem more_pk {p : Pk} (h : p.ok) : (readPk (putL (pkL p) 9 [1])).2 = 8 := by
  unfold readPk
  rw [pkL_eq h, put_opt _ _ _ (by decide), show opt 9 [1] [] = [((9 : UInt8), [(1 : UInt8)])] from rfl, pkFs_app, (pkFs_up h (nine_up 7 (by decide))).parse, rdPk_fs h (nine_up 7 (by decide)), rEnd_more, if_neg (by decide)]
theorem parse_full {l : List UInt8} : Full (parseG l (-1)).1 := by
  by_cases h : (parseG l (-1)).2 = 0
  · exact (parse_one l (-1) h).2
  · rw [parseG_err _ _ h]; intro f hf; cases hf
theorem one_pk {l : List UInt8} (h : (readPk l).2 = 0) : (readPk l).1.ok ∧ pkL (readPk l).1 = l := by
  unfold readPk at h ⊢
  by_cases hz : rEnd (rdPk (parseG l (-1))).2 = 0
  · rw [if_pos hz]
    clear h
    have hz := rEnd_zero hz
    have hfull := parse_full (l := l)
    have hone := fun h => (parse_one l (-1) h).1
    generalize parseG l (-1) = s at *
    unfold rdPk at hz ⊢
    simp only at hz ⊢
    generalize ha : rN s 1 = a at *
    generalize hs1 : (if 4 ≤ a.1 then rFail a.2 2 else a.2) = s1 at *
    generalize hb : rN s1 2 = b at *
    generalize hc : rN b.2 3 = c at *
    generalize hd : rB c.2 4 = d at *
    generalize he : rN d.2 5 = e at *
    generalize hf : rB e.2 6 = f at *
    generalize hg : rB f.2 7 = g at *
    have e7 : f.2.2 = 0 := by rw [← hg, rB_e] at hz; exact hz.2
    have e6 : e.2.2 = 0 := by rw [← hf, rB_e] at e7; exact e7
    have s1f : Full s1.1 → True := fun _ => trivial
    -- the state behind the first number
    have hs1e : s1.2 = 0 → a.1 < 4 ∧ s1 = a.2 := by
      intro h
      by_cases h4 : 4 ≤ a.1
      · rw [if_pos h4] at hs1; rw [← hs1] at h; exact absurd h (rFail_ne (by decide))
      · rw [if_neg h4] at hs1; exact ⟨by omega, hs1.symm⟩
    have hs1f : s1.1 = a.2.1 := by rw [← hs1]; split <;> rfl
    have fa : Full a.2.1 := by rw [← ha]; unfold rN; exact fun x hx => hfull x (rB_mem hx)
    have fb : Full b.2.1 := by rw [← hb]; unfold rN; exact fun x hx => fa x (by rw [← hs1f]; exact rB_mem hx)
    have fc : Full c.2.1 := by rw [← hc]; unfold rN; exact fun x hx => fb x (rB_mem hx)
    have fd : Full d.2.1 := by rw [← hd]; exact fun x hx => fc x (rB_mem hx)
    have k5 := rN_inv (s := d.2) (t := 5) fd (by rw [he]; exact e6)
    rw [he] at k5
    have e3 : c.2.2 = 0 := by have := k5.1; rw [← hd, rB_e] at this; exact this
    have k3 := rN_inv (s := b.2) (t := 3) fb (by rw [hc]; exact e3)
    rw [hc] at k3
    have k2 := rN_inv (s := s1) (t := 2) (by rw [hs1f]; exact fa) (by rw [hb]; exact k3.1)
    rw [hb] at k2
    obtain ⟨h4, hsa⟩ := hs1e k2.1
    have k1 := rN_inv (s := s) (t := 1) hfull (by rw [ha, ← hsa]; exact k2.1)
    rw [ha] at k1
    have k4 := rB_inv (s := c.2) (t := 4) fc e3
    rw [hd] at k4
    have k6 := rB_inv (s := e.2) (t := 6) k5.2.2.1 e6
    rw [hf] at k6
    have k7 := rB_inv (s := f.2) (t := 7) k6.2.2.1 e7
    rw [hg] at k7
    have hok : Pk.ok ⟨a.1 % 4, b.1, c.1, d.1, e.1, f.1, g.1⟩ := ⟨by simp only; omega, k2.2.2.2, k3.2.2.2, k5.2.2.2, k4.2.2.2, k6.2.2.2, k7.2.2.2⟩
    refine ⟨hok, ?_⟩
    rw [pkL_eq hok, ← hone k1.1]
    congr 1
    unfold pkFs
    simp only
    rw [Nat.mod_eq_of_lt h4, k1.2.1, ← hsa, k2.2.1, k3.2.1, k4.1, k5.2.1, k6.1, k7.1, hz.1]
  · rw [if_neg hz] at h; exact absurd h hz

/-- An answer. -/
def ackL (y : Bool) (c : Nat) : List UInt8 := putL (if y then putL [] 1 (numL 1) else []) 2 (numL c)
def ackFs (a c : Nat) (r : Fs) : Fs := opt 1 (numL a) (opt 2 (numL c) r)
def yesN (y : Bool) : Nat := if y then 1 else 0
theorem num0 : numL 0 = [] := by decide
theorem ackL_eq (y : Bool) (c : Nat) : ackL y c = puts (ackFs (yesN y) c []) := by
  unfold ackL ackFs
  cases y
  · show putL [] 2 (numL c) = puts (opt 1 (numL 0) _)
    rw [num0, opt_nil, ← puts_nil, put_opt _ _ _ (num_short _), List.nil_append]
  · show putL (putL [] 1 (numL 1)) 2 (numL c) = puts (opt 1 (numL 1) _)
    rw [← puts_nil, put_opt _ _ _ (num_short _), put_opt _ _ _ (num_short _)]
    simp only [opt_app, List.nil_append]
def rdAck (s : St) : Nat × Nat × St :=
  let a := rN s 1
  let b := rN a.2 2
  (a.1, b.1, if 1 < a.1 ∨ 2147483648 < b.1 ∨ (a.1 = 1 ↔ b.1 ≠ 0) then rFail b.2 2 else b.2)
def readAck (l : List UInt8) : Bool × Nat × Int :=
  let x := rdAck (parseG l (-1))
  if rEnd x.2.2 = 0 then (x.1 == 1, x.2.1, 0) else (false, 0, rEnd x.2.2)
theorem back_ack {y : Bool} {c : Nat} (hc : c ≤ 2147483648) (hy : y = true ↔ c = 0) : readAck (ackL y c) = (y, c, 0) := by
  have u1 : Up 1 (opt 2 (numL c) []) := Up.opt (t := 2) (Up.nil 2) (num_short _) (by decide)
  have u0 : Up 0 (ackFs (yesN y) c []) := Up.opt (t := 1) u1 (num_short _) (by decide)
  have hy1 : yesN y < 18446744073709551616 := by cases y <;> simp [yesN]
  unfold readAck
  rw [ackL_eq, u0.parse]
  have : rdAck (ackFs (yesN y) c [], 0) = (yesN y, c, ([], 0)) := by
    unfold rdAck ackFs
    simp only [rN_opt (t := 1) u1 hy1, rN_opt (t := 2) (Up.nil 2) (show c < 18446744073709551616 by omega)]
    rw [if_neg]
    cases y
    · have h0 : c ≠ 0 := fun h => by have := hy.2 h; cases this
      simp [yesN]; omega
    · have h0 : c = 0 := hy.1 rfl
      simp [yesN, h0]
  rw [this]
  simp only [rEnd_nil, if_true]
  cases y <;> rfl
theorem one_ack {l : List UInt8} (h : (readAck l).2.2 = 0) : (readAck l).2.1 ≤ 2147483648 ∧ ((readAck l).1 = true ↔ (readAck l).2.1 = 0) ∧ ackL (readAck l).1 (readAck l).2.1 = l := by
  unfold readAck at h ⊢
  simp only at h ⊢
  by_cases hz : rEnd (rdAck (parseG l (-1))).2.2 = 0
  · rw [if_pos hz]
    clear h
    have hz := rEnd_zero hz
    have hfull := parse_full (l := l)
    have hone := fun h => (parse_one l (-1) h).1
    generalize parseG l (-1) = s at *
    unfold rdAck at hz ⊢
    simp only at hz ⊢
    generalize ha : rN s 1 = a at *
    generalize hb : rN a.2 2 = b at *
    by_cases hbad : 1 < a.1 ∨ 2147483648 < b.1 ∨ (a.1 = 1 ↔ b.1 ≠ 0)
    · rw [if_pos hbad] at hz; exact absurd hz.2 (rFail_ne (by decide))
    rw [if_neg hbad] at hz
    have fa : Full a.2.1 := by rw [← ha]; unfold rN; exact fun x hx => hfull x (rB_mem hx)
    have k2 := rN_inv (s := a.2) (t := 2) fa (by rw [hb]; exact hz.2)
    rw [hb] at k2
    have k1 := rN_inv (s := s) (t := 1) hfull (by rw [ha]; exact k2.1)
    rw [ha] at k1
    have h1 : a.1 ≤ 1 := by omega
    have h2 : b.1 ≤ 2147483648 := by omega
    refine ⟨h2, ?_, ?_⟩
    · rw [beq_iff_eq]
      by_cases h3 : a.1 = 1
      · by_cases h4 : b.1 = 0
        · simp [h3, h4]
        · exact absurd (.inr (.inr (by simp [h3, h4]))) hbad
      · by_cases h4 : b.1 = 0
        · exact absurd (.inr (.inr (by simp [h3, h4]))) hbad
        · simp [h3, h4]
    · rw [ackL_eq, ← hone k1.1]
      congr 1
      unfold ackFs
      have : yesN (a.1 == 1) = a.1 := by
        have : a.1 = 0 ∨ a.1 = 1 := by omega
        rcases this with h | h <;> rw [h] <;> rfl
      rw [this, k1.2.1, k2.2.1, hz.1]
  · rw [if_neg hz] at h; exact absurd h hz

/-- A header. -/
structure Hd where
  ht : Nat
  tm : Nat
  root : List UInt8
  vals : List UInt8
  next : List UInt8
  sel : List UInt8
def Hd.zero : Hd := ⟨0, 0, Z32, Z32, Z32, Z32⟩
structure Hd.ok (h : Hd) : Prop where
  ht : h.ht < 18446744073709551616
  tm : h.tm < 18446744073709551616
  root : h.root.length = 32
  vals : h.vals.length = 32
  next : h.next.length = 32
  sel : h.sel.length = 32
def putH (l : List UInt8) (t : UInt8) (x : List UInt8) : List UInt8 := if x = Z32 then l else putL l t x
theorem putH_eq (l : List UInt8) (t : UInt8) (x : List UInt8) : putH l t x = putL l t (hashF x) := by
  unfold putH hashF
  split
  · rw [putL_nil]
  · rfl
def hdL (h : Hd) : List UInt8 := putH (putH (putH (putH (putL (putL [] 1 (numL h.ht)) 2 (numL h.tm)) 3 h.root) 4 h.vals) 5 h.next) 6 h.sel
def hdFs (h : Hd) (r : Fs) : Fs := opt 1 (numL h.ht) (opt 2 (numL h.tm) (opt 3 (hashF h.root) (opt 4 (hashF h.vals) (opt 5 (hashF h.next) (opt 6 (hashF h.sel) r)))))
theorem hashF_short {x : List UInt8} (h : x.length = 32) : (hashF x).length ≤ 65535 := by
  unfold hashF
  split
  · simp
  · omega
theorem hdL_eq {h : Hd} (k : h.ok) : hdL h = puts (hdFs h []) := by
  unfold hdL hdFs
  rw [putH_eq, putH_eq, putH_eq, putH_eq, ← puts_nil, put_opt _ _ _ (num_short _), put_opt _ _ _ (num_short _), put_opt _ _ _ (hashF_short k.root), put_opt _ _ _ (hashF_short k.vals), put_opt _ _ _ (hashF_short k.next), put_opt _ _ _ (hashF_short k.sel)]
  simp only [opt_app, List.nil_append, List.append_assoc]
theorem hdFs_app (h : Hd) (r : Fs) : hdFs h [] ++ r = hdFs h r := by unfold hdFs; simp only [opt_app, List.nil_append]
theorem hdFs_up {h : Hd} (k : h.ok) {r : Fs} (hr : Up 6 r) : Up 0 (hdFs h r) := by
  unfold hdFs
  exact Up.opt (t := 1) (Up.opt (t := 2) (Up.opt (t := 3) (Up.opt (t := 4) (Up.opt (t := 5) (Up.opt (t := 6) hr (hashF_short k.sel) (k := 5) (by decide)) (hashF_short k.next) (k := 4) (by decide)) (hashF_short k.vals) (k := 3) (by decide)) (hashF_short k.root) (k := 2) (by decide)) (num_short _) (k := 1) (by decide)) (num_short _) (k := 0) (by decide)
def rdHd (s : St) : Hd × St :=
  let a := rN s 1
  let b := rN a.2 2
  let c := rH b.2 3
  let d := rH c.2 4
  let e := rH d.2 5
  let f := rH e.2 6
  (⟨a.1, b.1, c.1, d.1, e.1, f.1⟩, f.2)
def readHd (l : List UInt8) : Hd × Int := if rEnd (rdHd (parseG l (-1))).2 = 0 then ((rdHd (parseG l (-1))).1, 0) else (Hd.zero, rEnd (rdHd (parseG l (-1))).2)
theorem rdHd_fs {h : Hd} (k : h.ok) {r : Fs} (hr : Up 6 r) : rdHd (hdFs h r, 0) = (h, (r, 0)) := by
  have u5 : Up 5 (opt 6 (hashF h.sel) r) := Up.opt (t := 6) hr (hashF_short k.sel) (by decide)
  have u4 : Up 4 (opt 5 (hashF h.next) (opt 6 (hashF h.sel) r)) := Up.opt (t := 5) u5 (hashF_short k.next) (by decide)
  have u3 : Up 3 (opt 4 (hashF h.vals) (opt 5 (hashF h.next) (opt 6 (hashF h.sel) r))) := Up.opt (t := 4) u4 (hashF_short k.vals) (by decide)
  have u2 : Up 2 (opt 3 (hashF h.root) (opt 4 (hashF h.vals) (opt 5 (hashF h.next) (opt 6 (hashF h.sel) r)))) := Up.opt (t := 3) u3 (hashF_short k.root) (by decide)
  have u1 : Up 1 (opt 2 (numL h.tm) (opt 3 (hashF h.root) (opt 4 (hashF h.vals) (opt 5 (hashF h.next) (opt 6 (hashF h.sel) r))))) := Up.opt (t := 2) u2 (num_short _) (by decide)
  unfold rdHd hdFs
  simp only [rN_opt (t := 1) u1 k.ht, rN_opt (t := 2) u2 k.tm, rH_opt (t := 3) u3 k.root, rH_opt (t := 4) u4 k.vals, rH_opt (t := 5) u5 k.next, rH_opt (t := 6) hr k.sel]
theorem back_hd {h : Hd} (k : h.ok) : readHd (hdL h) = (h, 0) := by
  unfold readHd
  rw [hdL_eq k, (hdFs_up k (Up.nil 6)).parse, rdHd_fs k (Up.nil 6), if_pos rEnd_nil]
theorem more_hd {h : Hd} (k : h.ok) : (readHd (putL (hdL h) 9 [1])).2 = 8 := by
  unfold readHd
  rw [hdL_eq k, put_opt _ _ _ (by decide), show opt 9 [1] [] = [((9 : UInt8), [(1 : UInt8)])] from rfl, hdFs_app, (hdFs_up k (nine_up 6 (by decide))).parse, rdHd_fs k (nine_up 6 (by decide)), rEnd_more, if_neg (by decide)]
theorem one_hd {l : List UInt8} (h : (readHd l).2 = 0) : (readHd l).1.ok ∧ hdL (readHd l).1 = l := by
  unfold readHd at h ⊢
  by_cases hz : rEnd (rdHd (parseG l (-1))).2 = 0
  · rw [if_pos hz]
    clear h
    have hz := rEnd_zero hz
    have hfull := parse_full (l := l)
    have hone := fun h => (parse_one l (-1) h).1
    generalize parseG l (-1) = s at *
    unfold rdHd at hz ⊢
    simp only at hz ⊢
    generalize ha : rN s 1 = a at *
    generalize hb : rN a.2 2 = b at *
    generalize hc : rH b.2 3 = c at *
    generalize hd : rH c.2 4 = d at *
    generalize he : rH d.2 5 = e at *
    generalize hf : rH e.2 6 = f at *
    have hm : ∀ (x : St) (t : UInt8), Full x.1 → Full (rH x t).2.1 := by
      intro x t hx
      unfold rH
      split
      · exact fun y hy => hx y (rB_mem hy)
      · split
        · exact fun y hy => hx y (rB_mem hy)
        · exact fun y hy => hx y (rB_mem hy)
    have fa : Full a.2.1 := by rw [← ha]; unfold rN; exact fun x hx => hfull x (rB_mem hx)
    have fb : Full b.2.1 := by rw [← hb]; unfold rN; exact fun x hx => fa x (rB_mem hx)
    have fc : Full c.2.1 := by rw [← hc]; exact hm _ _ fb
    have fd : Full d.2.1 := by rw [← hd]; exact hm _ _ fc
    have fe : Full e.2.1 := by rw [← he]; exact hm _ _ fd
    have k6 := rH_inv (s := e.2) (t := 6) fe (by rw [hf]; exact hz.2)
    rw [hf] at k6
    have k5 := rH_inv (s := d.2) (t := 5) fd (by rw [he]; exact k6.1)
    rw [he] at k5
    have k4 := rH_inv (s := c.2) (t := 4) fc (by rw [hd]; exact k5.1)
    rw [hd] at k4
    have k3 := rH_inv (s := b.2) (t := 3) fb (by rw [hc]; exact k4.1)
    rw [hc] at k3
    have k2 := rN_inv (s := a.2) (t := 2) fa (by rw [hb]; exact k3.1)
    rw [hb] at k2
    have k1 := rN_inv (s := s) (t := 1) hfull (by rw [ha]; exact k2.1)
    rw [ha] at k1
    have hok : Hd.ok ⟨a.1, b.1, c.1, d.1, e.1, f.1⟩ := ⟨k1.2.2.2, k2.2.2.2, k3.2.2.2, k4.2.2.2, k5.2.2.2, k6.2.2.2⟩
    refine ⟨hok, ?_⟩
    rw [hdL_eq hok, ← hone k1.1]
    congr 1
    unfold hdFs
    simp only
    rw [k1.2.1, k2.2.1, k3.2.1, k4.2.1, k5.2.1, k6.2.1, hz.1]
  · rw [if_neg hz] at h; exact absurd h hz
/-- Lengths. -/
theorem putL_len (l : List UInt8) (t : UInt8) (v : List UInt8) : (putL l t v).length ≤ l.length + v.length + 3 := by
  unfold putL
  split
  · simp
  · split
    · omega
    · simp; omega
theorem pkL_len (p : Pk) : (pkL p).length ≤ p.den.length + p.frm.length + p.to.length + 53 := by
  unfold pkL
  have h1 := putL_len [] 1 (numL p.ch)
  have h2 := putL_len (putL [] 1 (numL p.ch)) 2 (numL p.seq)
  have h3 := putL_len (putL (putL [] 1 (numL p.ch)) 2 (numL p.seq)) 3 (numL p.tmo)
  have h4 := putL_len (putL (putL (putL [] 1 (numL p.ch)) 2 (numL p.seq)) 3 (numL p.tmo)) 4 p.den
  have h5 := putL_len (putL (putL (putL (putL [] 1 (numL p.ch)) 2 (numL p.seq)) 3 (numL p.tmo)) 4 p.den) 5 (numL p.amt)
  have h6 := putL_len (putL (putL (putL (putL (putL [] 1 (numL p.ch)) 2 (numL p.seq)) 3 (numL p.tmo)) 4 p.den) 5 (numL p.amt)) 6 p.frm
  have h7 := putL_len (putL (putL (putL (putL (putL (putL [] 1 (numL p.ch)) 2 (numL p.seq)) 3 (numL p.tmo)) 4 p.den) 5 (numL p.amt)) 6 p.frm) 7 p.to
  have n1 := num_len p.ch
  have n2 := num_len p.seq
  have n3 := num_len p.tmo
  have n4 := num_len p.amt
  simp only [List.length_nil] at h1
  omega
theorem hdL_len {h : Hd} (k : h.ok) : (hdL h).length ≤ 162 := by
  unfold hdL
  simp only [putH_eq]
  have hs : ∀ x : List UInt8, x.length = 32 → (hashF x).length ≤ 32 := by intro x hx; unfold hashF; split <;> simp [hx]
  have h1 := putL_len [] 1 (numL h.ht)
  have h2 := putL_len (putL [] 1 (numL h.ht)) 2 (numL h.tm)
  have h3 := putL_len (putL (putL [] 1 (numL h.ht)) 2 (numL h.tm)) 3 (hashF h.root)
  have h4 := putL_len (putL (putL (putL [] 1 (numL h.ht)) 2 (numL h.tm)) 3 (hashF h.root)) 4 (hashF h.vals)
  have h5 := putL_len (putL (putL (putL (putL [] 1 (numL h.ht)) 2 (numL h.tm)) 3 (hashF h.root)) 4 (hashF h.vals)) 5 (hashF h.next)
  have h6 := putL_len (putL (putL (putL (putL (putL [] 1 (numL h.ht)) 2 (numL h.tm)) 3 (hashF h.root)) 4 (hashF h.vals)) 5 (hashF h.next)) 6 (hashF h.sel)
  have n1 := num_len h.ht
  have n2 := num_len h.tm
  have r1 := hs _ k.root
  have r2 := hs _ k.vals
  have r3 := hs _ k.next
  have r4 := hs _ k.sel
  simp only [List.length_nil] at h1
  omega
theorem ackL_len (y : Bool) (c : Nat) : (ackL y c).length ≤ 30 := by
  have h2 := putL_len (if y then putL [] 1 (numL 1) else []) 2 (numL c)
  have h1 := putL_len [] 1 (numL 1)
  have n1 := num_len 1
  have n2 := num_len c
  unfold ackL
  cases y
  · simp only [Bool.false_eq_true, if_false, List.length_nil] at h2 ⊢; omega
  · simp only [if_true, List.length_nil] at h1 h2 ⊢; omega
end Go.Proofs.YtkmcjokoinoahaaDoor.PlainP
/- denom.Check, ferrymanref11.Letter, Denom: contracts over any world. -/
namespace Go.Proofs.YtkmcjokoinoahaaDoor.DenomA
open Go.RowKit Go.Proofs.YtkmcjokoinoahaaDoor.Lib Go.Proofs.YtkmcjokoinoahaaDoor.Reg
/-- Bytes as a string. -/
def S (l : List UInt8) : ByteArray := ⟨l.toArray⟩
theorem size_S (l : List UInt8) : (S l).size = l.length := by simp [S, ByteArray.size]
theorem toList_S (l : List UInt8) : (S l).toList = l := ByteArray.toList_mk l
theorem add_S (a b : List UInt8) : S a ++ S b = S (a ++ b) := by
  apply ByteArray.ext
  simp [S]
theorem of_S (s : ByteArray) : ∃ l, s = S l := ⟨s.data.toList, by cases s; simp [S]⟩
theorem run_at (l : List UInt8) {k : Nat} {c : UInt8} (hk : l[k]? = some c) (W : World) : (Instr.index 9 (.string (S l)) (.int .i64 (k : Int))).run Tryd.prog W = .ok (.int .u8 (c.toNat : Int)) W := by
  obtain ⟨hl, hc⟩ := List.getElem?_eq_some_iff.1 hk
  rw [run_index_string (P := Tryd.prog) W 9 (S l) .i64 (k : Int) Tryd.underlying9]
  rw [dif_pos ⟨by omega, by rw [size_S]; omega⟩]
  congr 2
  have : (S l)[((k : Int)).toNat]'(by rw [size_S]; omega) = c := by
    rw [← hc]
    simp [S, ByteArray.getElem_eq_getElem_data]
  rw [this]
def letter (c : UInt8) : Bool := (decide (97 ≤ c.toNat) && decide (c.toNat ≤ 122)) || (decide (48 ≤ c.toNat) && decide (c.toNat ≤ 57))
/-- May the byte at k stand there? -/
def okAt (l : List UInt8) (k : Nat) : Bool := match l[k]? with
  | some c => letter c || (c.toNat == 47 && decide (0 < k) && decide (k + 1 < l.length) && (match l[k - 1]? with | some d => d.toNat != 47 | none => false))
  | none => false
def checkL (l : List UInt8) : Bool := decide (l.length ≠ 0) && decide (l.length ≤ 40) && (List.range l.length).all (okAt l)
theorem checkL_no {l : List UInt8} {k : Nat} (hk : k < l.length) (h : okAt l k = false) : checkL l = false := by
  unfold checkL
  have : (List.range l.length).all (okAt l) = false := by
    rw [List.all_eq_false]
    exact ⟨k, by simp [hk], by simp [h]⟩
  rw [this]
  simp
theorem checkL_yes {l : List UInt8} (h0 : l.length ≠ 0) (h1 : l.length ≤ 40) (h : ∀ k, k < l.length → okAt l k = true) : checkL l = true := by
  unfold checkL
  have : (List.range l.length).all (okAt l) = true := by
    rw [List.all_eq_true]
    intro k hk
    exact h k (by simpa using hk)
  rw [this]
  simp [h0, h1]

end Go.Proofs.YtkmcjokoinoahaaDoor.DenomA
/- The writer of packets, answers, headers: contracts over any world. -/
namespace Go.Proofs.YtkmcjokoinoahaaDoor.ParcelA
open Go.RowKit Go.Proofs.YtkmcjokoinoahaaDoor.Lib Go.Proofs.YtkmcjokoinoahaaDoor.Reg Go.Proofs.YtkmcjokoinoahaaDoor.TlvA Go.Proofs.YtkmcjokoinoahaaDoor.TlvF Go.Proofs.YtkmcjokoinoahaaDoor.TlvI Go.Proofs.YtkmcjokoinoahaaDoor.PlainP Go.Proofs.YtkmcjokoinoahaaDoor.LawOne Go.Proofs.YtkmcjokoinoahaaDoor.DenomA

/-- '[]byte(s)': a new row that has the string's bytes. -/
theorem conv_bytes (l : List UInt8) (hl : l.length ≤ 140737488355328) : ∃ (bw : World → World) (cv : World → Nat),
    (∀ W : World, (convert 9 129 (.string (S l))).run Tryd.prog W = .ok (.slice (some ⟨W.heap.size, 0, none⟩) l.length (cv W)) (bw W)) ∧
    (∀ W : World, (bw W).heap.size = W.heap.size + 1) ∧ (∀ W : World, Below W.heap.size W (bw W)) ∧
    (∀ W : World, Sl rU8 (bw W) (fun k => k = W.heap.size) (some ⟨W.heap.size, 0, none⟩) l.length (cv W) l) := by
  refine ⟨fun W => Go.Lib.bytesWorld W 5 (S l), fun W => grownCap W (S l).size 0 5, fun W => ?_, fun W => Go.Lib.bytesWorld_size _ _ _, fun W => ?_, fun W => ?_⟩
  · have := Go.Lib.run_convert_string_bytes (P := Tryd.prog) W 9 129 5 (S l) Tryd.underlying9 Tryd.underlying129 Tryd.underlying5
    rw [size_S] at this ⊢
    exact this
  · exact ⟨rfl, rfl, rfl, by rw [Go.Lib.bytesWorld_size]; omega, fun k hk => Go.Lib.bytesWorld_at_old _ _ _ _ hk⟩
  · have hge := grownCap_ge W (S l).size 0 5
    have hle := grownCap_le_maxLen W (S l).size 0 5 (by rw [size_S]; unfold maxLen; omega)
    rw [size_S] at hge hle ⊢
    refine ⟨hge, by unfold maxLen at hle; omega, rfl, fun h0 => ⟨_, rfl, rfl, fun i x hi => ⟨[vu8 x], rfl, fun j u hj => ?_⟩⟩⟩
    match j, hj with
    | 0, hj =>
      simp at hj
      subst hj
      have hil : i < l.length := (List.getElem?_eq_some_iff.1 hi).1
      have hc := Go.Lib.bytesWorld_cell W 5 (S l) i (by rw [size_S]; exact hil)
      have e : (⟨W.heap.size, 0, none⟩ : Addr).add (i * 1 + 0) = ⟨W.heap.size, i, none⟩ := by rw [add_plain']; simp
      show World.cell? _ ((⟨W.heap.size, 0, none⟩ : Addr).add (i * 1 + 0)) = _
      rw [e, hc]
      unfold vu8 S
      simp [List.getD, hi]

/-- A writer without a fault, at a block; what it has written lies behind that block. -/
def Wr (w : World) (pb : Nat) (l : List UInt8) : Prop :=
  pb < w.heap.size ∧ ∃ A c, w.cell? ⟨pb, 0, none⟩ = some (.slice A l.length c) ∧ w.cell? ⟨pb, 1, none⟩ = some (.int .i64 0) ∧ w.frozen? ⟨pb, 0, none⟩ = false ∧ w.frozen? ⟨pb, 1, none⟩ = false ∧ Sl rU8 w (fun k => pb < k ∧ k < w.heap.size) A l.length c l
theorem frozen_same {w w' : World} {a : Addr} (h : w'.heap[a.block]? = w.heap[a.block]?) : w'.frozen? a = w.frozen? a := by unfold World.frozen?; rw [h]
theorem Wr.move {w w' : World} {pb : Nat} {l : List UInt8} (h : Wr w pb l) (hb : Below w.heap.size w w') : Wr w' pb l := by
  obtain ⟨h0, A, c, h1, h2, h3, h4, h5⟩ := h
  have hbl := hb.block pb h0
  exact ⟨Nat.lt_of_lt_of_le h0 hb.size, A, c, (cell_same hbl).trans h1, (cell_same hbl).trans h2, (frozen_same hbl).trans h3, (frozen_same hbl).trans h4, (h5.move (Same.of_below hb (fun k hk => hk.2))).mono (fun k hk => ⟨hk.1, Nat.lt_of_lt_of_le hk.2 hb.size⟩)⟩
set_option maxHeartbeats 1000000 in
set_option maxRecDepth 100000 in
theorem WBytes_calls (w : World) (pb : Nat) (l : List UInt8) (h : Wr w pb l) (ti : Int) (t : UInt8) (ht : ti = (t.toNat : Int)) (F : Nat → Prop) (A2 : Option Addr) (n2 c2 : Nat) (v : List UInt8) (h2 : Sl rU8 w F A2 n2 c2 v) (hF : ∀ k, F k → k < w.heap.size) (hv : n2 ≤ 65535) (hs : l.length ≤ 1000000) :
    Calls Tryd.prog 98 #[.pointer (some ⟨pb, 0, none⟩), .int .u8 ti, .slice A2 n2 c2] w fun e w' => e = .returned (.tuple #[]) ∧ Fact (Wr w' pb (putL l t v)) ∧ Below pb w w' := by
  obtain ⟨hp, A, c, c0, c1, f0, f1, hsl⟩ := h
  have HP := Fact.mk hp
  have HS := Fact.mk hsl
  have H2 := Fact.mk h2
  have HF := Fact.mk hF
  have HT := Fact.mk ht
  have HV := Fact.mk hv
  have HN := Fact.mk hs
  obtain ⟨n, hn⟩ : ∃ n, l.length = n := ⟨_, rfl⟩
  rw [hn] at c0
  have HL := Fact.mk hn
  clear hsl h2 hF ht hv hs hp hn
  go_enter Tryd.func98, Tryd.ntmps98
  go_wp2_with (go_at_call 111; fail)
  refine (Put_calls' w (fun k => k < w.heap.size) A n c l ti t A2 n2 c2 v HT.out (by rw [← HL.out]; exact HS.out.mono (fun k hk => hk.2)) (H2.out.mono HF.out) (fun k hk => hk) (by have := HL.out; have := HN.out; have := HV.out; omega)).mono ?_
  rintro e w1 ⟨A', c', rfl, ho, hb⟩
  rw [show putE n2 = 0 by unfold putE; rw [if_neg (by have := HV.out; omega)]]
  have hbl := hb.block pb HP.out
  have c0' : w1.cell? ⟨pb, 0, none⟩ = some (.slice A n c) := (cell_same hbl).trans c0
  have c1' : w1.cell? ⟨pb, 1, none⟩ = some (.int .i64 0) := (cell_same hbl).trans c1
  have f0' : w1.frozen? ⟨pb, 0, none⟩ = false := (frozen_same hbl).trans f0
  have f1' : w1.frozen? ⟨pb, 1, none⟩ = false := (frozen_same hbl).trans f1
  have HO := Fact.mk ho.out
  have HB := Fact.mk hb
  obtain ⟨x, hx⟩ : ∃ x, putL l t v = x := ⟨_, rfl⟩
  rw [hx] at HO ⊢
  obtain ⟨m, hm⟩ : ∃ m, x.length = m := ⟨_, rfl⟩
  rw [hm] at HO ⊢
  have HM := Fact.mk hm
  have HXX := Fact.mk hx
  clear hb ho hbl hx hm
  go_wp2_with fail
  go_end0
  rw [HXX.out]
  refine ⟨rfl, ⟨?_⟩, ((HB.out.mono (Nat.le_of_lt HP.out)).setCell (Nat.le_refl _) _).setCell (Nat.le_refl _) _⟩
  have hne : (⟨pb, 0, none⟩ : Addr) ≠ ⟨pb, 1, none⟩ := by intro e; injection e with _ e; cases e
  have hsz := HB.out.size
  have hpl := HP.out
  refine ⟨by simp; omega, A', c', ?_, ?_, by simp [f0'], by simp [f1'], ?_⟩
  · rw [World.cell?_setCell_other _ _ _ _ hne.symm, HM.out]; exact World.cell?_setCell_same _ _ _ c0'
  · exact World.cell?_setCell_same _ _ _ ((World.cell?_setCell_other _ _ _ _ hne).trans c1')
  · rw [HM.out]
    refine (HO.out.slF.move (w' := (w1.setCell ⟨pb, 0, none⟩ (.slice A' m c')).setCell ⟨pb, 1, none⟩ (.int .i64 0)) ?_).mono (fun k hk => ⟨by omega, by simp; exact hk.2⟩)
    intro k hk
    rw [Below.heap_setCell _ _ _ _ (by show k ≠ pb; omega), Below.heap_setCell _ _ _ _ (by show k ≠ pb; omega)]
set_option maxHeartbeats 1000000 in
set_option maxRecDepth 100000 in
theorem WNum_calls (w : World) (pb : Nat) (l : List UInt8) (h : Wr w pb l) (ti : Int) (t : UInt8) (ht : ti = (t.toNat : Int)) (n : Nat) (hn : n < 18446744073709551616) (hs : l.length ≤ 1000000) :
    Calls Tryd.prog 92 #[.pointer (some ⟨pb, 0, none⟩), .int .u8 ti, .int .u64 (n : Int)] w fun e w' => e = .returned (.tuple #[]) ∧ Fact (Wr w' pb (putL l t (numL n))) ∧ Below pb w w' := by
  have H := Fact.mk h
  have HT := Fact.mk ht
  have HN := Fact.mk hn
  have HS := Fact.mk hs
  have HP := Fact.mk h.1
  clear h ht hn hs
  go_enter Tryd.func92, Tryd.ntmps92
  go_wp2_with (go_at_call 99; fail)
  refine (Num_calls w _ n rfl HN.out).mono ?_
  rintro e w1 ⟨v, rfl, ho, hb⟩
  obtain ⟨A', c', rfl, _⟩ := ho.out.sl
  have HO := Fact.mk ho.out.slF
  have HB := Fact.mk hb
  clear ho hb
  go_wp2_with (go_at_call 98; fail)
  refine (WBytes_calls w1 pb l (H.out.move HB.out) ti t HT.out _ _ _ _ _ HO.out (fun k hk => hk.2) (num_short n) HS.out).mono ?_
  rintro e w2 ⟨rfl, hw, hb2⟩
  have HB2 := Fact.mk hb2
  clear hb2
  go_wp2_with fail
  go_end0
  exact ⟨rfl, hw, (HB.out.mono (Nat.le_of_lt HP.out)).trans HB2.out⟩
/-- A sum's cells: compared with noughts. -/
theorem keys_bytes (l : List UInt8) (n : Nat) (hl : l.length = n) (i : Nat) (hi : i < n) : Tryd.prog.keyLits 1 5 (((l.map vu8).drop (i * 1)).take 1) = some [.int .u8 ((l[i]?.getD 0).toNat : Int)] := by
  have hil : i < l.length := by omega
  have e : ((l.map vu8).drop (i * 1)).take 1 = [vu8 (l[i]?.getD 0)] := by
    rw [Nat.mul_one]
    apply List.ext_getElem?
    intro k
    rw [List.getElem?_take, List.getElem?_drop, List.getElem?_map]
    match k with
    | 0 => simp [hil]
    | k + 1 => simp
  rw [e]
  have := (l[i]?.getD 0).toNat_lt
  unfold Program.keyLits
  rw [Tryd.underlying5]
  simp [vu8, Lit.wf, IntKind.signed, IntKind.bits, IntKind.min, IntKind.max]
  omega
theorem mapM_some {α β : Type} {f : α → Option β} {g : α → β} : ∀ {l : List α}, (∀ x ∈ l, f x = some (g x)) → l.mapM f = some (l.map g)
  | [], _ => rfl
  | x :: r, h => by
    rw [List.mapM_cons, h x List.mem_cons_self, mapM_some (fun y hy => h y (List.mem_cons_of_mem _ hy))]
    rfl
theorem range_map (l : List UInt8) (n : Nat) (hl : l.length = n) {β : Type} (f : UInt8 → β) : ((List.range n).map fun i => [f (l[i]?.getD 0)]).flatten = l.map f := by
  have h1 : ((List.range n).map fun i => [f (l[i]?.getD 0)]) = l.map fun b => [f b] := by
    apply List.ext_getElem?
    intro i
    rw [List.getElem?_map, List.getElem?_map]
    by_cases hi : i < n
    · have hil : i < l.length := by omega
      rw [List.getElem?_range hi, List.getElem?_eq_getElem hil]; simp [hil]
    · rw [List.getElem?_eq_none (by simp; omega), List.getElem?_eq_none (by omega)]; rfl
  rw [h1]
  clear h1 hl
  induction l with
  | nil => rfl
  | cons b r ih => simp [ih]
def litB (b : UInt8) : Lit := .int .u8 (b.toNat : Int)
theorem litB_inj {x y : List UInt8} : x.map litB = y.map litB ↔ x = y := by
  constructor
  · intro h
    exact (List.map_inj_right (fun a b e => by unfold litB at e; injection e with _ e; exact UInt8.toNat_inj.1 (by omega))).1 h
  · rintro rfl; rfl
theorem keys_hash {T : TypeId} (hu : Tryd.prog.underlying T = some (.array 32 5)) (hc : Tryd.prog.cellsOf T = 32) (x : List UInt8) (hx : x.length = 32) : Tryd.prog.keyLits 2 T (x.map vu8) = some (x.map litB) := by
  unfold Program.keyLits
  rw [hu]
  have h1 : Tryd.prog.cellsOf 5 = 1 := by kernel_rfl
  simp only [hc, List.length_map, hx, if_true, h1]
  rw [mapM_some (g := fun i => [litB (x[i]?.getD 0)]) (fun i hi => keys_bytes x 32 hx i (List.mem_range.1 hi))]
  simp only [Option.map_some]
  rw [range_map x 32 hx litB]
set_option maxRecDepth 100000 in
theorem eq_hash {T : TypeId} (hu : Tryd.prog.underlying T = some (.array 32 5)) (hc : Tryd.prog.cellsOf T = 32) (hk : Tryd.prog.keyTypeAt 2 T = true) (xs ys : Array Value) (x y : List UInt8) (hx : xs.toList = x.map vu8) (hy : ys.toList = y.map vu8) (lx : x.length = 32) (ly : y.length = 32) (W : World) :
    (Op.equalIn 10000 T (.agg xs) (.agg ys)).run Tryd.prog W = .ok (x == y) W := by
  have sx : xs.size = 32 := by rw [← Array.length_toList, hx, List.length_map, lx]
  have sy : ys.size = 32 := by rw [← Array.length_toList, hy, List.length_map, ly]
  obtain ⟨r, hr, hi⟩ := run_equalIn_deep (P := Tryd.prog) 9998 2 T hk W 2 2 (.agg xs) (.agg ys) (x.map litB) (y.map litB)
    (by simp [Value.formed, hu, hc, sx]) (by simp [Value.formed, hu, hc, sy]) (by rw [show (Value.agg xs).cells = xs from rfl, hx]; exact keys_hash hu hc x lx) (by rw [show (Value.agg ys).cells = ys from rfl, hy]; exact keys_hash hu hc y ly)
  have hr' : (Op.equalIn 10000 T (.agg xs) (.agg ys)).run Tryd.prog W = .ok r W := hr
  rw [hr']
  congr 1
  rw [Bool.eq_iff_iff, hi, litB_inj]
  simp
theorem hash_u : Tryd.prog.underlying 52 = some (.array 32 5) := Tryd.underlying52
theorem hash_c : Tryd.prog.cellsOf 52 = 32 := by kernel_rfl
theorem hash_k : Tryd.prog.keyTypeAt 2 52 = true := by kernel_rfl
def zA : Array Value := #[.int .u8 0, .int .u8 0, .int .u8 0, .int .u8 0, .int .u8 0, .int .u8 0, .int .u8 0, .int .u8 0, .int .u8 0, .int .u8 0, .int .u8 0, .int .u8 0, .int .u8 0, .int .u8 0, .int .u8 0, .int .u8 0, .int .u8 0, .int .u8 0, .int .u8 0, .int .u8 0, .int .u8 0, .int .u8 0, .int .u8 0, .int .u8 0, .int .u8 0, .int .u8 0, .int .u8 0, .int .u8 0, .int .u8 0, .int .u8 0, .int .u8 0, .int .u8 0]
theorem zA_list : zA.toList = Z32.map vu8 := by rfl
set_option maxHeartbeats 1000000 in
set_option maxRecDepth 100000 in
theorem WHash_calls (w : World) (pb : Nat) (l : List UInt8) (h : Wr w pb l) (ti : Int) (t : UInt8) (ht : ti = (t.toNat : Int)) (cs : Array Value) (x : List UInt8) (hc : cs.toList = x.map vu8) (hx : x.length = 32) (hs : l.length ≤ 1000000) :
    Calls Tryd.prog 93 #[.pointer (some ⟨pb, 0, none⟩), .int .u8 ti, .agg cs] w fun e w' => e = .returned (.tuple #[]) ∧ Fact (Wr w' pb (putH l t x)) ∧ Below pb w w' := by
  have HW := Fact.mk h
  have HP := Fact.mk h.1
  have HT := Fact.mk ht
  have HC := Fact.mk hc
  have HX := Fact.mk hx
  have HS := Fact.mk hs
  have heq := eq_hash hash_u hash_c hash_k cs zA x Z32 hc zA_list hx Z32_len
  have hlen : cs.toList.length = 32 := by rw [hc, List.length_map, hx]
  have HI : Fact ((Tryd.prog.info? 52).map (·.size) = some cs.size) := ⟨by rw [← Array.length_toList, hlen]; kernel_rfl⟩
  unfold zA at heq
  clear h ht hc hx hs hlen
  by_cases hzz : x = Z32
  · have hb : (x == Z32) = true := by simpa using hzz
    rw [hb] at heq
    have HZ := Fact.mk hzz
    clear hzz hb
    go_enter Tryd.func93, Tryd.ntmps93
    go_wp2_with (refine wpList_load_row rfl 52 (.tmp 5) rfl w.heap.size rfl 52 cs (0, 0) _ (heap_alloc_new w _) hash_u rfl HI.out ?_)
    go_end0
    refine ⟨rfl, ⟨?_⟩, (Below.refl _ _).alloc (Nat.le_of_lt HP.out) _⟩
    unfold putH
    rw [if_pos HZ.out]
    exact HW.out.move ((Below.refl _ _).alloc (Nat.le_refl _) _)
  · have hb : (x == Z32) = false := by simpa using hzz
    rw [hb] at heq
    have HZ := Fact.mk hzz
    clear hzz hb
    go_enter Tryd.func93, Tryd.ntmps93
    go_wp2_with (first
      | (go_at_call 98; fail)
      | (refine wpList_load_row rfl 52 (.tmp 5) rfl w.heap.size rfl 52 cs (0, 0) _ (heap_alloc_new w _) hash_u rfl HI.out ?_))
    refine (WBytes_calls _ pb l (HW.out.move ((Below.refl _ _).alloc (Nat.le_refl _) _)) ti t HT.out _ _ _ _ x (Sl.boxB w _ HC.out HX.out (by omega)) (fun k hk => by subst hk; simp) (by omega) HS.out).mono ?_
    rintro e w2 ⟨rfl, hw, hb2⟩
    have HB2 := Fact.mk hb2
    clear hb2
    go_wp2_with fail
    go_end0
    refine ⟨rfl, ⟨?_⟩, ((Below.refl _ _).alloc (Nat.le_of_lt HP.out) _).trans HB2.out⟩
    unfold putH
    rw [if_neg HZ.out]
    exact hw.out
end Go.Proofs.YtkmcjokoinoahaaDoor.ParcelA
/- Packets, answers, headers are written: contracts over any world. -/
namespace Go.Proofs.YtkmcjokoinoahaaDoor.ParcelB
open Go.RowKit Go.Proofs.YtkmcjokoinoahaaDoor.Lib Go.Proofs.YtkmcjokoinoahaaDoor.Reg Go.Proofs.YtkmcjokoinoahaaDoor.TlvA Go.Proofs.YtkmcjokoinoahaaDoor.TlvF Go.Proofs.YtkmcjokoinoahaaDoor.TlvI Go.Proofs.YtkmcjokoinoahaaDoor.PlainP Go.Proofs.YtkmcjokoinoahaaDoor.LawOne Go.Proofs.YtkmcjokoinoahaaDoor.DenomA Go.Proofs.YtkmcjokoinoahaaDoor.ParcelA

/-- A packet's cells. -/
def pkC (p : Pk) : Array Value := #[.int .i64 (p.ch : Int), .int .u64 (p.seq : Int), .int .u64 (p.tmo : Int), .string (S p.den), .int .u64 (p.amt : Int), .string (S p.frm), .string (S p.to)]
theorem Wr.new {w : World} {e : TypeId} : Wr (w.alloc (.cells #[.slice none 0 0, .int .i64 0] e)) w.heap.size [] := by
  refine ⟨by simp, none, 0, ?_, ?_, ?_, ?_, Sl.nil _ _ _ _ _ (by omega)⟩ <;> simp
/-- What a slice of the call's own says. -/
def Out (w w' : World) (A : Option Addr) (c : Nat) (l : List UInt8) : Prop := Sl rU8 w' (fun k => w.heap.size ≤ k ∧ k < w'.heap.size) A l.length c l
theorem Out.mk' {w w' : World} {A : Option Addr} {c pb : Nat} {l : List UInt8} (h : Sl rU8 w' (fun k => pb < k ∧ k < w'.heap.size) A l.length c l) (hp : w.heap.size ≤ pb) (q : Nat) : Out w (w'.drewN q) A c l := by
  unfold Out
  exact (h.move (w' := w'.drewN q) (Same.drewN (Same.refl _ _) q)).mono (fun k hk => ⟨by omega, hk.2⟩)
/-- A header's cells. -/
def hdC (h : Hd) : List Value := [.int .u64 (h.ht : Int), .int .u64 (h.tm : Int)] ++ (h.root.map vu8 ++ (h.vals.map vu8 ++ (h.next.map vu8 ++ h.sel.map vu8)))
theorem part_range {w : World} {B o n : Nat} {cs r : List Value} (h : ∀ (j : Nat) v, cs[j]? = some v → w.cell? ⟨B, j, none⟩ = some v) (hr : (cs.drop o).take n = r) : w.rangeAt B o r := by
  intro j v hj
  rw [← hr, List.getElem?_take] at hj
  split at hj
  · rw [List.getElem?_drop] at hj; exact h _ v hj
  · cases hj
theorem hdC_parts {h : Hd} (k : h.ok) : ((hdC h).drop 2).take 32 = h.root.map vu8 ∧ ((hdC h).drop 34).take 32 = h.vals.map vu8 ∧ ((hdC h).drop 66).take 32 = h.next.map vu8 ∧ ((hdC h).drop 98).take 32 = h.sel.map vu8 := by
  have l1 : (h.root.map vu8).length = 32 := by rw [List.length_map, k.root]
  have l2 : (h.vals.map vu8).length = 32 := by rw [List.length_map, k.vals]
  have l3 : (h.next.map vu8).length = 32 := by rw [List.length_map, k.next]
  have l4 : (h.sel.map vu8).length = 32 := by rw [List.length_map, k.sel]
  unfold hdC
  refine ⟨?_, ?_, ?_, ?_⟩
  · rw [List.drop_append_of_le_length (by simp)]
    simp only [List.drop_succ_cons, List.drop_zero, List.nil_append]
    rw [List.take_append_of_le_length (by omega), List.take_of_length_le (by omega)]
  · rw [← List.append_assoc, List.drop_append, List.drop_of_length_le (by simp [k.root, k.vals, k.next])]
    rw [show 34 - ([Value.int .u64 (h.ht : Int), .int .u64 (h.tm : Int)] ++ h.root.map vu8).length = 0 by rw [List.length_append, l1]; rfl, List.drop_zero, List.nil_append, List.take_append_of_le_length (by omega), List.take_of_length_le (by omega)]
  · rw [← List.append_assoc, ← List.append_assoc, List.drop_append, List.drop_of_length_le (by simp [k.root, k.vals, k.next])]
    rw [show 66 - ([Value.int .u64 (h.ht : Int), .int .u64 (h.tm : Int)] ++ h.root.map vu8 ++ h.vals.map vu8).length = 0 by rw [List.length_append, List.length_append, l1, l2]; rfl, List.drop_zero, List.nil_append, List.take_append_of_le_length (by omega), List.take_of_length_le (by omega)]
  · rw [← List.append_assoc, ← List.append_assoc, ← List.append_assoc, List.drop_append, List.drop_of_length_le (by simp [k.root, k.vals, k.next])]
    rw [show 98 - ([Value.int .u64 (h.ht : Int), .int .u64 (h.tm : Int)] ++ h.root.map vu8 ++ h.vals.map vu8 ++ h.next.map vu8).length = 0 by rw [List.length_append, List.length_append, List.length_append, l1, l2, l3]; rfl, List.drop_zero, List.nil_append, List.take_of_length_le (by omega)]
theorem load_hash {w : World} {B o : Nat} {x : List UInt8} (hx : x.length = 32) (h : w.rangeAt B o (x.map vu8)) : (Instr.loadAt 52 (.pointer (some ⟨B, o, none⟩))).run Tryd.prog w = .ok (.agg (x.map vu8).toArray) w :=
  run_loadAt_mid (P := Tryd.prog) w B o 52 _ _ h hash_u rfl (by rw [List.length_map, hx]; kernel_rfl)
set_option maxHeartbeats 8000000 in
set_option maxRecDepth 100000 in
theorem Header_calls (w : World) (h : Hd) (hk : h.ok) (cs : Array Value) (hcs : cs.toList = hdC h) : Calls Tryd.prog 84 #[.agg cs] w fun e w' => ∃ A c, e = .returned (.slice A (hdL h).length c) ∧ Fact (Out w w' A c (hdL h)) ∧ Below w.heap.size w w' := by
  have HK := Fact.mk hk
  have hpt := hdC_parts hk
  have g0 : cs[0]? = some (.int .u64 (h.ht : Int)) := by rw [← Array.getElem?_toList, hcs]; rfl
  have HC0 : Fact (∀ (j : Nat) v, (hdC h)[j]? = some v → ((w.alloc (.cells cs 54)).alloc (.cells #[.slice none 0 0, .int .i64 0] 179)).cell? ⟨w.heap.size, j, none⟩ = some v) := ⟨fun j v hj => by
    rw [World.cell?_alloc_lt _ _ _ (by simp)]
    rw [← hcs] at hj
    simpa [World.cell?, World.alloc, -World.alloc_eq] using hj⟩
  have d0 := HC0.out 0 _ rfl
  have HW0 : Fact (Wr ((w.alloc (.cells cs 54)).alloc (.cells #[.slice none 0 0, .int .i64 0] 179)) (w.heap.size + 1) []) := ⟨by have := Wr.new (w := w.alloc (.cells cs 54)) (e := 179); simpa using this⟩
  have HB0 : Fact (Below w.heap.size w ((w.alloc (.cells cs 54)).alloc (.cells #[.slice none 0 0, .int .i64 0] 179))) := ⟨((Below.refl _ _).alloc (Nat.le_refl _) _).alloc (by simp) _⟩
  have HPT := Fact.mk hpt
  have n1 := num_len h.ht
  have n2 := num_len h.tm
  have q1 := putL_len [] 1 (numL h.ht)
  have q2 := putL_len (putL [] 1 (numL h.ht)) 2 (numL h.tm)
  have hq : ∀ (l : List UInt8) (t : UInt8) (x : List UInt8), x.length = 32 → (putH l t x).length ≤ l.length + 35 := by
    intro l t x hx
    unfold putH
    split
    · omega
    · have := putL_len l t x; omega
  have q3 := hq (putL (putL [] 1 (numL h.ht)) 2 (numL h.tm)) 3 h.root hk.root
  have q4 := hq (putH (putL (putL [] 1 (numL h.ht)) 2 (numL h.tm)) 3 h.root) 4 h.vals hk.vals
  have q5 := hq (putH (putH (putL (putL [] 1 (numL h.ht)) 2 (numL h.tm)) 3 h.root) 4 h.vals) 5 h.next hk.next
  simp only [List.length_nil] at q1
  have HLEN : Fact ((putL [] 1 (numL h.ht)).length ≤ 1000000 ∧ (putL (putL [] 1 (numL h.ht)) 2 (numL h.tm)).length ≤ 1000000 ∧ (putH (putL (putL [] 1 (numL h.ht)) 2 (numL h.tm)) 3 h.root).length ≤ 1000000 ∧ (putH (putH (putL (putL [] 1 (numL h.ht)) 2 (numL h.tm)) 3 h.root) 4 h.vals).length ≤ 1000000 ∧ (putH (putH (putH (putL (putL [] 1 (numL h.ht)) 2 (numL h.tm)) 3 h.root) 4 h.vals) 5 h.next).length ≤ 1000000) := ⟨by omega⟩
  clear n1 n2 q1 q2 q3 q4 q5 hq hpt hk hcs
  go_enter Tryd.func84, Tryd.ntmps84
  go_wp2_with (go_at_call 92; fail)
  refine (WNum_calls _ (w.heap.size + 1) [] HW0.out _ 1 rfl h.ht HK.out.ht (by simp)).mono ?_
  rintro e w1 ⟨rfl, hw, hb⟩
  clear d0 g0
  have HW1 := Fact.mk hw.out
  have HC1 : Fact (∀ (j : Nat) v, (hdC h)[j]? = some v → w1.cell? ⟨w.heap.size, j, none⟩ = some v) := ⟨fun j v hj => (cell_same (hb.block _ (by show w.heap.size < w.heap.size + 1; omega))).trans (HC0.out j v hj)⟩
  have HB1 : Fact (Below w.heap.size w w1) := ⟨HB0.out.trans (hb.mono (by omega))⟩
  clear hw hb
  have c1 : w1.cell? ⟨w.heap.size, 1, none⟩ = some (.int .u64 (h.tm : Int)) := HC1.out 1 _ rfl
  go_wp2_with (go_at_call 92; fail)
  refine (WNum_calls w1 (w.heap.size + 1) _ HW1.out _ 2 rfl h.tm HK.out.tm HLEN.out.1).mono ?_
  rintro e w2 ⟨rfl, hw, hb⟩
  clear c1
  have HW2 := Fact.mk hw.out
  have HC2 : Fact (∀ (j : Nat) v, (hdC h)[j]? = some v → w2.cell? ⟨w.heap.size, j, none⟩ = some v) := ⟨fun j v hj => (cell_same (hb.block _ (by show w.heap.size < w.heap.size + 1; omega))).trans (HC1.out j v hj)⟩
  have HB2 : Fact (Below w.heap.size w w2) := ⟨HB1.out.trans (hb.mono (by omega))⟩
  clear hw hb
  have hr2 := Fact.mk (part_range HC2.out HPT.out.1)
  have hi2 := Fact.mk (show (Tryd.prog.info? 52).map (·.size) = some (h.root.map vu8).length by rw [List.length_map, HK.out.root]; kernel_rfl)
  go_wp2_with (first
    | (go_at_call 93; fail)
    | (refine wpList_load_mid rfl 52 (.tmp 15) rfl w.heap.size 2 rfl (h.root.map vu8) _ hr2.out hash_u rfl hi2.out ?_))
  refine (WHash_calls w2 (w.heap.size + 1) _ HW2.out _ 3 rfl _ h.root (by simp) HK.out.root HLEN.out.2.1).mono ?_
  rintro e w3 ⟨rfl, hw, hb⟩
  clear hr2 hi2
  have HW3 := Fact.mk hw.out
  have HC3 : Fact (∀ (j : Nat) v, (hdC h)[j]? = some v → w3.cell? ⟨w.heap.size, j, none⟩ = some v) := ⟨fun j v hj => (cell_same (hb.block _ (by show w.heap.size < w.heap.size + 1; omega))).trans (HC2.out j v hj)⟩
  have HB3 : Fact (Below w.heap.size w w3) := ⟨HB2.out.trans (hb.mono (by omega))⟩
  clear hw hb
  have hr3 := Fact.mk (part_range HC3.out HPT.out.2.1)
  have hi3 := Fact.mk (show (Tryd.prog.info? 52).map (·.size) = some (h.vals.map vu8).length by rw [List.length_map, HK.out.vals]; kernel_rfl)
  go_wp2_with (first
    | (go_at_call 93; fail)
    | (refine wpList_load_mid rfl 52 (.tmp 19) rfl w.heap.size 34 rfl (h.vals.map vu8) _ hr3.out hash_u rfl hi3.out ?_))
  refine (WHash_calls w3 (w.heap.size + 1) _ HW3.out _ 4 rfl _ h.vals (by simp) HK.out.vals HLEN.out.2.2.1).mono ?_
  rintro e w4 ⟨rfl, hw, hb⟩
  clear hr3 hi3
  have HW4 := Fact.mk hw.out
  have HC4 : Fact (∀ (j : Nat) v, (hdC h)[j]? = some v → w4.cell? ⟨w.heap.size, j, none⟩ = some v) := ⟨fun j v hj => (cell_same (hb.block _ (by show w.heap.size < w.heap.size + 1; omega))).trans (HC3.out j v hj)⟩
  have HB4 : Fact (Below w.heap.size w w4) := ⟨HB3.out.trans (hb.mono (by omega))⟩
  clear hw hb
  have hr4 := Fact.mk (part_range HC4.out HPT.out.2.2.1)
  have hi4 := Fact.mk (show (Tryd.prog.info? 52).map (·.size) = some (h.next.map vu8).length by rw [List.length_map, HK.out.next]; kernel_rfl)
  go_wp2_with (first
    | (go_at_call 93; fail)
    | (refine wpList_load_mid rfl 52 (.tmp 23) rfl w.heap.size 66 rfl (h.next.map vu8) _ hr4.out hash_u rfl hi4.out ?_))
  refine (WHash_calls w4 (w.heap.size + 1) _ HW4.out _ 5 rfl _ h.next (by simp) HK.out.next HLEN.out.2.2.2.1).mono ?_
  rintro e w5 ⟨rfl, hw, hb⟩
  clear hr4 hi4
  have HW5 := Fact.mk hw.out
  have HC5 : Fact (∀ (j : Nat) v, (hdC h)[j]? = some v → w5.cell? ⟨w.heap.size, j, none⟩ = some v) := ⟨fun j v hj => (cell_same (hb.block _ (by show w.heap.size < w.heap.size + 1; omega))).trans (HC4.out j v hj)⟩
  have HB5 : Fact (Below w.heap.size w w5) := ⟨HB4.out.trans (hb.mono (by omega))⟩
  clear hw hb
  have hr5 := Fact.mk (part_range HC5.out HPT.out.2.2.2)
  have hi5 := Fact.mk (show (Tryd.prog.info? 52).map (·.size) = some (h.sel.map vu8).length by rw [List.length_map, HK.out.sel]; kernel_rfl)
  go_wp2_with (first
    | (go_at_call 93; fail)
    | (refine wpList_load_mid rfl 52 (.tmp 27) rfl w.heap.size 98 rfl (h.sel.map vu8) _ hr5.out hash_u rfl hi5.out ?_))
  refine (WHash_calls w5 (w.heap.size + 1) _ HW5.out _ 6 rfl _ h.sel (by simp) HK.out.sel HLEN.out.2.2.2.2).mono ?_
  rintro e w6 ⟨rfl, hw, hb⟩
  clear hr5 hi5
  have HW6 := Fact.mk hw.out
  have HC6 : Fact (∀ (j : Nat) v, (hdC h)[j]? = some v → w6.cell? ⟨w.heap.size, j, none⟩ = some v) := ⟨fun j v hj => (cell_same (hb.block _ (by show w.heap.size < w.heap.size + 1; omega))).trans (HC5.out j v hj)⟩
  have HB6 : Fact (Below w.heap.size w w6) := ⟨HB5.out.trans (hb.mono (by omega))⟩
  clear hw hb
  obtain ⟨hp7, A, c, c0, c1, f0, f1, hsl⟩ := HW6.out
  have HSL := Fact.mk hsl
  clear hsl hp7
  obtain ⟨x, hx⟩ : ∃ x, hdL h = x := ⟨_, rfl⟩
  rw [show putH (putH (putH (putH (putL (putL [] 1 (numL h.ht)) 2 (numL h.tm)) 3 h.root) 4 h.vals) 5 h.next) 6 h.sel = hdL h from rfl, hx] at HSL c0
  have HXX := Fact.mk hx
  clear hx
  go_wp2_with fail
  go_ret
  rw [HXX.out]
  exact ⟨A, c, rfl, ⟨HSL.out.mono (fun k hk => ⟨by omega, hk.2⟩)⟩, HB6.out⟩
end Go.Proofs.YtkmcjokoinoahaaDoor.ParcelB
/- More steps in a region that draws its order. Over any program. -/
namespace Go.Proofs.YtkmcjokoinoahaaDoor.RegB
open Go.RowKit Go.Proofs.YtkmcjokoinoahaaDoor.Lib Go.Proofs.YtkmcjokoinoahaaDoor.Reg
section
variable {P : Program} {ops : Array Oper} {S : World → Prop} {Q : Exit → Act → World → Prop}
/-- One that turns the world and tells nothing. -/
theorem seq_mute {o : Oper} {rest : List (Oper × Bool)} {a : Act} {w w' : World} (hw : Region.wanted o (yielded ops a.tmps) = true) (hv : (execOp a.eval o).run P w = .ok .skip w') (hS : S w') (h : wpSeqS P ops S Q rest (a.put o.dst undef) w') : wpSeqS P ops S Q ((o, false) :: rest) a w := by
  unfold wpSeqS
  rw [if_pos hw]
  unfold Oper.wp
  rw [hv]
  exact ⟨hS, h⟩
end
end Go.Proofs.YtkmcjokoinoahaaDoor.RegB
/- Pushes that tell what stays: over any program. -/
namespace Go.Proofs.YtkmcjokoinoahaaDoor.LibB
open Go.RowKit Go.Proofs.YtkmcjokoinoahaaDoor.Lib
section
variable {P : Program} {α : Type}
/-- What a push leaves: all blocks but the row's own; the row lies where it lay, or in a new block. -/
def Left (v v1 : Value) (W w1 : World) : Prop := Same (fun k => k < W.heap.size ∧ some k ≠ v.ownBlock) W w1 ∧ W.heap.size ≤ w1.heap.size ∧ ∀ k, v1.ownBlock = some k → v.ownBlock = some k ∨ W.heap.size ≤ k
theorem Left.sl {β : Type} {r : Rep β} {v v1 : Value} {W w1 : World} {A : Option Addr} {n c : Nat} {xs : List β} (h : Left v v1 W w1) (hs : Sl r W (fun k => k < W.heap.size ∧ some k ≠ v.ownBlock) A n c xs) : Sl r w1 (fun k => k < w1.heap.size ∧ some k ≠ v1.ownBlock) A n c xs := by
  refine (hs.move h.1).mono ?_
  intro k hk
  refine ⟨Nat.lt_of_lt_of_le hk.1 h.2.1, fun he => ?_⟩
  rcases h.2.2 k he.symm with h1 | h1
  · exact hk.2 h1.symm
  · omega
theorem wpList_appL {w0 W : World} {ops : Array Oper} {rest : List Oper} {o : Oper} {a : Act} {Q : Exit → Act → World → Prop} (r : Rep α) (base : Nat) (hgd : o.guard = none) (s x : Operand) (t e : TypeId) (z : Value) (bytes : Nat)
    (ho : o.op = .call { callee := .builtin .append, args := #[s, x], argTypes := #[t, t] })
    (ht : P.underlying t = some (.slice e)) (hinfo : (P.info? e).map (fun i => (i.zero, i.size, i.bytes)) = some (some z, r.sz, bytes)) (hz : z.cells.size = r.sz) (hsz : 0 < r.sz) (hb : 0 < bytes)
    (v : Value) (xs ys : List α) (A : Option Addr) (m c : Nat) (hs : a.eval s = v) (hx : a.eval x = .slice A m c) (hv : OwX r e W base v xs) (hy : Sl r W (fun k => k < W.heap.size ∧ some k ≠ v.ownBlock) A m c ys) (hB : Below base w0 W) (hbase : base ≤ W.heap.size) (hl : (xs.length + m) * bytes ≤ 140737488355328)
    (h : ∀ v1 w1, OwX r e w1 base v1 (xs ++ ys) → Below base w0 w1 → Left v v1 W w1 → wpList P ops Q rest (a.put o.dst v1) w1) : wpList P ops Q (o :: rest) a W := by
  refine wpList_app r base hgd s x t e z bytes ho ht hinfo hz hsz hb _ _ v xs ys A m c hs hx hv hy hB hbase hl (fun _ hk => hk) (fun _ _ h => h) ?_
  intro v1 w1 ho1 hb1 hg1 hat1
  refine h v1 w1 (ho1.mono fun k hk => ⟨Nat.lt_of_lt_of_le hk.1 hg1.size, ?_⟩) hb1 ⟨Same.of_grown hg1 (fun _ hk => hk), hg1.size, fun k hk => ?_⟩
  · rcases hat1 with hat | hat
    · rw [hat]; exact hk.2
    · rw [hat]
      intro he
      injection he with he
      omega
  · rcases hat1 with hat | hat
    · exact .inl (hat ▸ hk)
    · rw [hat] at hk
      injection hk with hk
      exact .inr (by omega)
/-- append(v, x): x boxed in a block of its own. -/
theorem wpList_pushL {w0 W : World} {ops : Array Oper} {rest : List Oper} {o : Oper} {a : Act} {Q : Exit → Act → World → Prop} (r : Rep α) (base : Nat) (hgd : o.guard = none) (s x : Operand) (t e : TypeId) (z : Value) (bytes : Nat)
    (ho : o.op = .call { callee := .builtin .append, args := #[s, x], argTypes := #[t, t] })
    (ht : P.underlying t = some (.slice e)) (hinfo : (P.info? e).map (fun i => (i.zero, i.size, i.bytes)) = some (some z, r.sz, bytes)) (hz : z.cells.size = r.sz) (hsz : 0 < r.sz) (hb : 0 < bytes)
    (v : Value) (xs : List α) (y : α) (cells : Array Value) (te : TypeId) (hs : a.eval s = v) (hx : a.eval x = .slice (some ⟨W.heap.size, 0, none⟩) 1 1) (hv : OwX r e W base v xs) (hy : r.K W (fun k => k < W.heap.size ∧ some k ≠ v.ownBlock) y cells.toList) (hB : Below base w0 W) (hbase : base ≤ W.heap.size) (hl : (xs.length + 1) * bytes ≤ 140737488355328)
    (h : ∀ v1 w1, OwX r e w1 base v1 (xs ++ [y]) → Below base w0 w1 → Left v v1 W w1 → wpList P ops Q rest (a.put o.dst v1) w1) : wpList P ops Q (o :: rest) a (W.alloc (.cells cells te)) := by
  refine wpList_appL r base hgd s x t e z bytes ho ht hinfo hz hsz hb v xs [y] _ 1 1 hs hx (hv.alloc _) ?_ (hB.alloc hbase _) (by simp; omega) hl ?_
  · refine (Sl.box (F := fun k => k < W.heap.size ∧ some k ≠ v.ownBlock) (xs := [y]) W te (Els.one_ (r.move ((Same.refl _ _).alloc (fun _ hk => hk.1) _) hy)) (by simp)).mono ?_
    rintro k (hk | rfl)
    · exact ⟨by simp; omega, hk.2⟩
    · refine ⟨by simp, fun he => ?_⟩
      have := (hv.lt _ he.symm).2
      omega
  · intro v1 w1 h1 h2 h3
    refine h v1 w1 h1 h2 ⟨fun k hk => (h3.1 k ⟨by simp; omega, hk.2⟩).trans (Below.heap_alloc W _ k hk.1), by have := h3.2.1; simp at this; omega, fun k hk => ?_⟩
    rcases h3.2.2 k hk with h4 | h4
    · exact .inl h4
    · exact .inr (by simp at h4; omega)
end
/-- Slices side by side in a block. -/
theorem sl_cons {β : Type} {r : Rep β} {w : World} {F : Nat → Prop} {A : Option Addr} {n c : Nat} {l : List β} {xs : List (List β)} {ds : List Value} (h : Sl r w F A n c l) (hs : Els (Rep.slice r) w F xs ds) : Els (Rep.slice r) w F (l :: xs) (.slice A n c :: ds) := by
  obtain rfl := h.len
  exact Els.append (xs := [l]) (cs := [.slice A l.length c]) (Els.one_ ⟨A, c, rfl, h⟩) hs
end Go.Proofs.YtkmcjokoinoahaaDoor.LibB
/- Sums of bytes (chapter 1) as plain functions; the model's arithmetic on 32 bits over them. -/
namespace Go.Proofs.YtkmcjokoinoahaaDoor.PlainS
open Go.RowKit Go.Proofs.YtkmcjokoinoahaaDoor.Lib
def lo (n : Nat) : UInt8 := UInt8.ofNat n
theorem lo_int (n : Nat) : ((lo n).toNat : Int) = (n : Int) % 256 := by simp [lo]
/-- The digit of weight 256^k. -/
def dig (n k : Nat) : UInt8 := lo (n / 256 ^ k)
/-- A number's eight bytes. -/
def eightL (n : Nat) : List UInt8 := [dig n 7, dig n 6, dig n 5, dig n 4, dig n 3, dig n 2, dig n 1, dig n 0]
theorem eight_len (n : Nat) : (eightL n).length = 8 := rfl
theorem eight_get (n k : Nat) (h : k < 8) : (eightL n)[k]? = some (dig n (7 - k)) := by
  match k, h with
  | 0, _ | 1, _ | 2, _ | 3, _ | 4, _ | 5, _ | 6, _ | 7, _ => rfl
theorem eight_take (n k : Nat) (h : k < 8) : (eightL n).take (k + 1) = (eightL n).take k ++ [dig n (7 - k)] := by
  rw [List.take_add_one, eight_get n k h]; rfl
theorem dig_int (n k : Nat) : (n : Int) / 2 ^ (8 * k) % 256 = ((dig n k).toNat : Int) := by
  unfold dig
  rw [lo_int, Int.pow_mul, Int.natCast_ediv, Int.natCast_pow]
  rfl
theorem dig_int' (n k : Nat) (h : k < 8) : (n : Int) / 2 ^ (56 - 8 * k) % 256 = ((dig n (7 - k)).toNat : Int) := by
  rw [show 56 - 8 * k = 8 * (7 - k) by omega]
  exact dig_int n (7 - k)
theorem ow_slF {α : Type} {r : Rep α} {e : TypeId} {w : World} {base : Nat} {A : Option Addr} {n c : Nat} {xs : List α} (h : Ow r e w base (fun _ => False) (.slice A n c) xs) : Sl r w (fun k => base ≤ k ∧ k < w.heap.size) A n c xs := by
  obtain ⟨A', c', he, hs⟩ := h.sl
  injection he with h1 h2 h3
  subst h1 h2 h3
  exact hs.mono (fun k hk => hk.elim False.elim (fun hv => h.lt k hv))
/-- A word as the model has it. -/
def U (x : UInt32) : Int := (x.toNat : Int)
def vu32 (x : UInt32) : Value := .int .u32 (U x)
def rot (k : Nat) (x : UInt32) : UInt32 := (x >>> UInt32.ofNat k) ||| (x <<< UInt32.ofNat (32 - k))
def sg0 (x : UInt32) : UInt32 := rot 7 x ^^^ rot 18 x ^^^ (x >>> 3)
def sg1 (x : UInt32) : UInt32 := rot 17 x ^^^ rot 19 x ^^^ (x >>> 10)
def bg1 (e : UInt32) : UInt32 := rot 6 e ^^^ rot 11 e ^^^ rot 25 e
def bg0 (a : UInt32) : UInt32 := rot 2 a ^^^ rot 13 a ^^^ rot 22 a
def chs (e f g : UInt32) : UInt32 := (e &&& f) ^^^ (~~~e &&& g)
def mjs (a b c : UInt32) : UInt32 := ((a &&& b) ^^^ (a &&& c)) ^^^ (b &&& c)
/-- A state: eight words. -/
structure V8 where
  a : UInt32
  b : UInt32
  c : UInt32
  d : UInt32
  e : UInt32
  f : UInt32
  g : UInt32
  h : UInt32
def V8.l (v : V8) : List UInt32 := [v.a, v.b, v.c, v.d, v.e, v.f, v.g, v.h]
def V8.x (v : V8) (k w : UInt32) : UInt32 := v.h + bg1 v.e + chs v.e v.f v.g + k + w
def V8.y (v : V8) : UInt32 := bg0 v.a + mjs v.a v.b v.c
def V8.step (v : V8) (k w : UInt32) : V8 := ⟨v.x k w + v.y, v.a, v.b, v.c, v.d + v.x k w, v.e, v.f, v.g⟩
def V8.run : List UInt32 → List UInt32 → V8 → V8
  | k :: ks, w :: ws, v => V8.run ks ws (v.step k w)
  | _, _, v => v
def V8.add (v u : V8) : V8 := ⟨v.a + u.a, v.b + u.b, v.c + u.c, v.d + u.d, v.e + u.e, v.f + u.f, v.g + u.g, v.h + u.h⟩
def word (a b c d : UInt8) : UInt32 := (((a.toUInt32 <<< 24) ||| (b.toUInt32 <<< 16)) ||| (c.toUInt32 <<< 8)) ||| d.toUInt32
def nextW (w : List UInt32) : UInt32 := w.getD (w.length - 16) 0 + sg0 (w.getD (w.length - 15) 0) + w.getD (w.length - 7) 0 + sg1 (w.getD (w.length - 2) 0)
def schedF : Nat → List UInt32 → List UInt32
  | 0, w => w
  | k + 1, w => schedF k (w ++ [nextW w])
def wordAt (b : List UInt8) (i : Nat) : UInt32 := word (b.getD (4 * i) 0) (b.getD (4 * i + 1) 0) (b.getD (4 * i + 2) 0) (b.getD (4 * i + 3) 0)
def words16 (b : List UInt8) : List UInt32 := (List.range 16).map (wordAt b)
def kL : List UInt32 := [0x428a2f98, 0x71374491, 0xb5c0fbcf, 0xe9b5dba5, 0x3956c25b, 0x59f111f1, 0x923f82a4, 0xab1c5ed5,
  0xd807aa98, 0x12835b01, 0x243185be, 0x550c7dc3, 0x72be5d74, 0x80deb1fe, 0x9bdc06a7, 0xc19bf174,
  0xe49b69c1, 0xefbe4786, 0x0fc19dc6, 0x240ca1cc, 0x2de92c6f, 0x4a7484aa, 0x5cb0a9dc, 0x76f988da,
  0x983e5152, 0xa831c66d, 0xb00327c8, 0xbf597fc7, 0xc6e00bf3, 0xd5a79147, 0x06ca6351, 0x14292967,
  0x27b70a85, 0x2e1b2138, 0x4d2c6dfc, 0x53380d13, 0x650a7354, 0x766a0abb, 0x81c2c92e, 0x92722c85,
  0xa2bfe8a1, 0xa81a664b, 0xc24b8b70, 0xc76c51a3, 0xd192e819, 0xd6990624, 0xf40e3585, 0x106aa070,
  0x19a4c116, 0x1e376c08, 0x2748774c, 0x34b0bcb5, 0x391c0cb3, 0x4ed8aa4a, 0x5b9cca4f, 0x682e6ff3,
  0x748f82ee, 0x78a5636f, 0x84c87814, 0x8cc70208, 0x90befffa, 0xa4506ceb, 0xbef9a3f7, 0xc67178f2]
def iv : V8 := ⟨0x6a09e667, 0xbb67ae85, 0x3c6ef372, 0xa54ff53a, 0x510e527f, 0x9b05688c, 0x1f83d9ab, 0x5be0cd19⟩
def blk (v : V8) (b : List UInt8) : V8 := v.add (V8.run kL (schedF 48 (words16 b)) v)
def shaF : Nat → V8 → List UInt8 → V8
  | 0, v, _ => v
  | n + 1, v, b => shaF n (blk v b) (b.drop 64)
def padN (n : Nat) : Nat := (119 - n % 64) % 64
def msgL (l : List UInt8) : List UInt8 := l ++ [0x80] ++ List.replicate (padN l.length) 0 ++ eightL (8 * l.length)
def outB (v : V8) (i : Nat) : UInt8 := ((v.l.getD (i / 4) 0) >>> UInt32.ofNat (24 - i % 4 * 8)).toUInt8
def outL (v : V8) : List UInt8 := (List.range 32).map (outB v)
def shaL (l : List UInt8) : List UInt8 := outL (shaF ((msgL l).length / 64) iv (msgL l))
theorem outL_len (v : V8) : (outL v).length = 32 := by simp [outL]
/-! The model's arithmetic. -/
theorem u_wrap (n : Int) : IntKind.u32.wrap n = n % 4294967296 := by simp [IntKind.wrap, IntKind.bits, IntKind.signed]
theorem r_add (x y : UInt32) : IntKind.u32.wrap (U x + U y) = U (x + y) := by
  rw [u_wrap]; unfold U; rw [UInt32.toNat_add]; omega
theorem u_lt (x : UInt32) : x.toNat < 4294967296 := x.toNat_lt
theorem r_xor (x y : UInt32) : bits .xor .u32 (U x) (U y) = U (x ^^^ y) := by unfold U; rw [u32_xor_nat _ _ (u_lt _) (u_lt _), UInt32.toNat_xor]
theorem r_and (x y : UInt32) : bits .and .u32 (U x) (U y) = U (x &&& y) := by unfold U; rw [u32_and_nat _ _ (u_lt _) (u_lt _), UInt32.toNat_and]
theorem r_or (x y : UInt32) : bits .or .u32 (U x) (U y) = U (x ||| y) := by unfold U; rw [u32_or_nat _ _ (u_lt _) (u_lt _), UInt32.toNat_or]
theorem r_shr {x : UInt32} {k : Nat} (hk : k < 32) : U x / 2 ^ k = U (x >>> UInt32.ofNat k) := by
  unfold U
  rw [UInt32.toNat_shiftRight, Nat.shiftRight_eq_div_pow, UInt32.toNat_ofNat', Nat.mod_eq_of_lt (show k < 2 ^ 32 by omega), Nat.mod_eq_of_lt hk]
  simp
theorem r_shl {x : UInt32} {k : Nat} (hk : k < 32) : IntKind.u32.wrap (U x * 2 ^ k) = U (x <<< UInt32.ofNat k) := by
  unfold U
  rw [u_wrap, UInt32.toNat_shiftLeft, Nat.shiftLeft_eq, UInt32.toNat_ofNat', Nat.mod_eq_of_lt (show k < 2 ^ 32 by omega), Nat.mod_eq_of_lt hk]
  simp
theorem r_byte (b : UInt8) : IntKind.u32.wrap (b.toNat : Int) = U b.toUInt32 := by
  unfold U
  rw [u_wrap, UInt8.toNat_toUInt32]
  have := b.toNat_lt
  omega
theorem r_low (x : UInt32) : IntKind.u8.wrap (U x) = (x.toUInt8.toNat : Int) := by
  unfold U
  rw [UInt32.toNat_toUInt8]
  simp [IntKind.wrap, IntKind.bits, IntKind.signed]
theorem abc : (shaL [97, 98, 99]).take 4 = [0xba, 0x78, 0x16, 0xbf] := by decide +kernel
theorem nul : (shaL []).take 2 = [0xe3, 0xb0] := by decide +kernel
end Go.Proofs.YtkmcjokoinoahaaDoor.PlainS
/- bits.RotateLeft32, ferrymanref01.turn: contracts over any world. -/
namespace Go.Proofs.YtkmcjokoinoahaaDoor.ShaA
open Go.RowKit Go.Proofs.YtkmcjokoinoahaaDoor.Lib Go.Proofs.YtkmcjokoinoahaaDoor.PlainS
theorem u_31 : ∀ k : Nat, 0 < k → k < 32 → bits .and .u64 (IntKind.u64.wrap (-(k : Int))) 31 = ((32 - k : Nat) : Int) := by
  have h : ∀ k : Fin 32, 0 < k.val → bits .and .u64 (IntKind.u64.wrap (-(k.val : Int))) 31 = ((32 - k.val : Nat) : Int) := by decide +kernel
  intro k h0 h1
  exact h ⟨k, h1⟩ h0
set_option maxRecDepth 100000 in
theorem Rot_calls (w : World) (x : UInt32) (k : Nat) (ki : Int) (h0 : 0 < k) (h1 : k < 32) (hk : ki = -(k : Int)) : Calls Tryd.prog 97 #[.int .u32 (U x), .int .i64 ki] w fun e w' => e = .returned (.int .u32 (U (rot k x))) ∧ w' = w := by
  subst hk
  have hb := u_31 k h0 h1
  have e1 : ((32 - k : Nat) : Int).toNat = 32 - k := Int.toNat_natCast _
  have e2 : IntKind.u64.wrap (32 - ((32 - k : Nat) : Int)) = (k : Int) := by rw [IntKind.wrap_u64]; omega
  have e3 : ((k : Nat) : Int).toNat = k := Int.toNat_natCast _
  have g1 : (0 : Int) ≤ ((32 - k : Nat) : Int) := by omega
  have g2 : ((32 - k : Nat) : Int) ≤ 32 := by omega
  have g3 : (k : Int) ≤ 32 := by omega
  have g4 : (0 : Int) ≤ (k : Int) := by omega
  have s1 : IntKind.u32.wrap (U x * 2 ^ (32 - k)) = U (x <<< UInt32.ofNat (32 - k)) := r_shl (by omega)
  have s2 : U x / 2 ^ k = U (x >>> UInt32.ofNat k) := r_shr h1
  have s3 := r_or (x <<< UInt32.ofNat (32 - k)) (x >>> UInt32.ofNat k)
  go_enter Tryd.func97, Tryd.ntmps97
  go_wp2_with fail
  go_ret
  exact ⟨by rw [UInt32.or_comm]; rfl, rfl⟩
set_option maxRecDepth 100000 in
theorem Turn_calls (w : World) (x : UInt32) (k : Nat) (ki : Int) (h0 : 0 < k) (h1 : k < 32) (hk : ki = (k : Int)) : Calls Tryd.prog 79 #[.int .u32 (U x), .int .i64 ki] w fun e w' => e = .returned (.int .u32 (U (rot k x))) ∧ ∃ m, w' = w.drewN m := by
  subst hk
  have e2 : IntKind.i64.wrap (32 - (k : Int)) = ((32 - k : Nat) : Int) := by rw [IntKind.wrap_i64]; omega
  have e1 : ((32 - k : Nat) : Int).toNat = 32 - k := Int.toNat_natCast _
  have e3 : ((k : Nat) : Int).toNat = k := Int.toNat_natCast _
  have g1 : (0 : Int) ≤ ((32 - k : Nat) : Int) := by omega
  have g2 : ((32 - k : Nat) : Int) ≤ 32 := by omega
  have g3 : (k : Int) ≤ 32 := by omega
  have g4 : (0 : Int) ≤ (k : Int) := by omega
  have s1 : IntKind.u32.wrap (U x * 2 ^ (32 - k)) = U (x <<< UInt32.ofNat (32 - k)) := r_shl (by omega)
  have s2 : U x / 2 ^ k = U (x >>> UInt32.ofNat k) := r_shr h1
  have s3 := r_or (x >>> UInt32.ofNat k) (x <<< UInt32.ofNat (32 - k))
  go_enter Tryd.func79, Tryd.ntmps79
  go_wp2_with fail
  go_quiet (fail)
  go_wp2
  go_ret
  exact ⟨rfl, nq, rfl⟩
end Go.Proofs.YtkmcjokoinoahaaDoor.ShaA
