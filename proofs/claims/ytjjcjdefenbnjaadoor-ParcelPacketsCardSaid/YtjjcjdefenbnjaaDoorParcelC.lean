/- The reader of packets, answers, headers: contracts over any world. -/
import Derived.Test.YtjjcjdefenbnjaaDoorParcelB
import Derived.Laws.IdiomCopy
set_option linter.unusedVariables false
set_option linter.unusedSimpArgs false
namespace Go.Proofs.YtjjcjdefenbnjaaDoor.ParcelC
open Go.RowKit Go.Proofs.YtjjcjdefenbnjaaDoor.Lib Go.Proofs.YtjjcjdefenbnjaaDoor.Reg Go.Proofs.YtjjcjdefenbnjaaDoor.TlvA Go.Proofs.YtjjcjdefenbnjaaDoor.TlvC Go.Proofs.YtjjcjdefenbnjaaDoor.TlvF Go.Proofs.YtjjcjdefenbnjaaDoor.TlvI Go.Proofs.YtjjcjdefenbnjaaDoor.LawNums Go.Proofs.YtjjcjdefenbnjaaDoor.PlainP Go.Proofs.YtjjcjdefenbnjaaDoor.LawOne Go.Proofs.YtjjcjdefenbnjaaDoor.DenomA Go.Proofs.YtjjcjdefenbnjaaDoor.ParcelA Go.Proofs.YtjjcjdefenbnjaaDoor.ParcelB

/-- A reader at a block; what it reads lies ahead of that block. -/
def Rd (w : World) (pb : Nat) (s : St) : Prop :=
  pb < w.heap.size ∧ ∃ A c, w.cell? ⟨pb, 0, none⟩ = some (.slice A s.1.length c) ∧ w.cell? ⟨pb, 1, none⟩ = some (.int .i64 s.2) ∧ w.frozen? ⟨pb, 0, none⟩ = false ∧ w.frozen? ⟨pb, 1, none⟩ = false ∧ Sl fld w (fun k => k < pb) A s.1.length c s.1
theorem Rd.move {w w' : World} {pb : Nat} {s : St} (h : Rd w pb s) (hb : Below w.heap.size w w') : Rd w' pb s := by
  obtain ⟨h0, A, c, h1, h2, h3, h4, h5⟩ := h
  have hbl := hb.block pb h0
  exact ⟨Nat.lt_of_lt_of_le h0 hb.size, A, c, (cell_same hbl).trans h1, (cell_same hbl).trans h2, (frozen_same hbl).trans h3, (frozen_same hbl).trans h4, h5.move (Same.of_below hb (fun k hk => by omega))⟩
theorem ne01 {pb : Nat} : (⟨pb, 0, none⟩ : Addr) ≠ ⟨pb, 1, none⟩ := by intro e; injection e with _ e; cases e
theorem Rd.fault {w : World} {pb : Nat} {s : St} (h : Rd w pb s) (k : Int) : Rd (w.setCell ⟨pb, 1, none⟩ (.int .i64 k)) pb (s.1, k) := by
  obtain ⟨h0, A, c, h1, h2, h3, h4, h5⟩ := h
  refine ⟨by simp; exact h0, A, c, ?_, World.cell?_setCell_same _ _ _ h2, by simp [h3], by simp [h4], h5.move ?_⟩
  · rw [World.cell?_setCell_other _ _ _ _ ne01.symm]; exact h1
  · intro j hj
    rw [Below.heap_setCell _ _ _ _ (by show j ≠ pb; omega)]
theorem Rd.moveLe {w w' : World} {pb : Nat} {s : St} (h : Rd w pb s) (hb : Below (pb + 1) w w') : Rd w' pb s := by
  obtain ⟨h0, A, c, h1, h2, h3, h4, h5⟩ := h
  have hbl := hb.block pb (Nat.lt_succ_self _)
  exact ⟨Nat.lt_of_lt_of_le h0 hb.size, A, c, (cell_same hbl).trans h1, (cell_same hbl).trans h2, (frozen_same hbl).trans h3, (frozen_same hbl).trans h4, h5.move (Same.of_below hb (fun k hk => by omega))⟩
/-- Of what was there one block alone has turned. -/
def Only (pb : Nat) (w w' : World) : Prop := Below pb w w' ∧ ∀ k, k < w.heap.size → k ≠ pb → w'.heap[k]? = w.heap[k]?
theorem Only.refl (pb : Nat) (w : World) : Only pb w w := ⟨Below.refl _ _, fun _ _ _ => rfl⟩
theorem Only.set {w : World} {pb : Nat} (o : Nat) (v : Value) : Only pb w (w.setCell ⟨pb, o, none⟩ v) := ⟨(Below.refl _ _).setCell (p := ⟨pb, o, none⟩) (Nat.le_refl _) _, fun k _ hk => Below.heap_setCell _ _ _ _ hk⟩
theorem Only.trans {pb : Nat} {a b c : World} (h : Only pb a b) (k : Only pb b c) : Only pb a c := ⟨h.1.trans k.1, fun i hi hp => (k.2 i (Nat.lt_of_lt_of_le hi h.1.size) hp).trans (h.2 i hi hp)⟩
theorem below_set {w : World} {pb : Nat} (o : Nat) (v : Value) : Below pb w (w.setCell ⟨pb, o, none⟩ v) := (Below.refl _ _).setCell (p := ⟨pb, o, none⟩) (Nat.le_refl _) _
/-- The bytes of a reader's fields lie ahead of it. -/
def Got (w : World) (pb : Nat) (A : Option Addr) (c : Nat) (l : List UInt8) : Prop := Sl rU8 w (fun k => k < pb) A l.length c l
theorem Got.nil (w : World) (pb : Nat) : Got w pb none 0 [] := Sl.nil _ _ _ _ _ (by omega)
theorem Got.move {w w' : World} {pb : Nat} {A : Option Addr} {c : Nat} {l : List UInt8} (h : Got w pb A c l) (hb : Below pb w w') : Got w' pb A c l := Sl.move h (Same.of_below hb (fun k hk => hk))
end Go.Proofs.YtjjcjdefenbnjaaDoor.ParcelC
