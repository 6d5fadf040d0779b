/- Packet, Ack, Header: a value equals itself; a stored cell's row. -/
import Derived.Test.YtjjcjdefenbnjaaDoorParcelL
set_option linter.unusedVariables false
set_option linter.unusedSimpArgs false
namespace Go.Proofs.YtjjcjdefenbnjaaDoor.ParcelM
open Go.RowKit Go.Proofs.YtjjcjdefenbnjaaDoor.Lib Go.Proofs.YtjjcjdefenbnjaaDoor.Reg Go.Proofs.YtjjcjdefenbnjaaDoor.TlvA Go.Proofs.YtjjcjdefenbnjaaDoor.TlvC Go.Proofs.YtjjcjdefenbnjaaDoor.TlvF Go.Proofs.YtjjcjdefenbnjaaDoor.TlvI Go.Proofs.YtjjcjdefenbnjaaDoor.LawNums Go.Proofs.YtjjcjdefenbnjaaDoor.LawOne Go.Proofs.YtjjcjdefenbnjaaDoor.DenomA Go.Proofs.YtjjcjdefenbnjaaDoor.PlainP Go.Proofs.YtjjcjdefenbnjaaDoor.ParcelA Go.Proofs.YtjjcjdefenbnjaaDoor.ParcelB Go.Proofs.YtjjcjdefenbnjaaDoor.ParcelC Go.Proofs.YtjjcjdefenbnjaaDoor.ParcelD Go.Proofs.YtjjcjdefenbnjaaDoor.ParcelE Go.Proofs.YtjjcjdefenbnjaaDoor.ParcelF Go.Proofs.YtjjcjdefenbnjaaDoor.OpenP Go.Proofs.YtjjcjdefenbnjaaDoor.ParcelL
theorem row_set {w : World} {B i : Nat} {cs : Array Value} {t : TypeId} (v : Value) (h : w.heap[B]? = some (.cells cs t (0, 0))) : (w.setCell ⟨B, i, none⟩ v).heap[B]? = some (.cells (cs.setIfInBounds i v) t (0, 0)) := by
  have hlt := Go.lt_of_block h
  have h' : w.heap[B] = .cells cs t (0, 0) := by simpa [Array.getElem?_eq_getElem hlt] using h
  show (w.heap.modify B _)[B]? = _
  rw [Array.getElem?_eq_getElem (by simpa using hlt), Array.getElem_modify_self, h']
  rfl
theorem row_cell {w : World} {B i : Nat} {cs : Array Value} {t : TypeId} {v : Value} (h : w.heap[B]? = some (.cells cs t (0, 0))) (hv : cs[i]? = some v) : w.cell? ⟨B, i, none⟩ = some v := by
  unfold World.cell?
  rw [h]
  exact hv
theorem row_free {w : World} {B i : Nat} {cs : Array Value} {t : TypeId} (h : w.heap[B]? = some (.cells cs t (0, 0))) : w.frozen? ⟨B, i, none⟩ = false := by
  unfold World.frozen?
  rw [h]
  simp
set_option maxRecDepth 100000 in
theorem eq_self {m : Nat} {T : TypeId} {v : Value} {L : List Lit} (hm : m ≤ 10000) (hk : Tryd.prog.keyTypeAt m T = true) (hf : v.formed Tryd.prog T = true) (hl : Tryd.prog.keyLits m T v.cells.toList = some L) (W : World) : (Op.equalIn 10000 T v v).run Tryd.prog W = .ok true W := by
  obtain ⟨r, hr, hi⟩ := run_equalIn_deep (P := Tryd.prog) (10000 - m) m T hk W m m v v L L hf hf hl hl
  rw [show 10000 - m + m = 10000 by omega] at hr
  rw [hr, hi.2 rfl]
theorem exec_loadR {P : Program} {o : Oper} {a : Act} {w : World} {ty : TypeId} {x : Operand} (ho : o.op = .load ty x) {g : Nat} (hx : a.eval x = .pointer (some ⟨g, 0, none⟩)) {t : TypeId} {cs : Array Value} {fr : Nat × Nat} {d : TypeDesc} (hg : w.heap[g]? = some (.cells cs t fr))
    (hu : P.underlying ty = some d) (hd : (match d with | .struct _ | .array _ _ => true | _ => false) = true) (hi : (P.info? ty).map (·.size) = some cs.size) : (execOp a.eval o).run P w = .ok (.value (.agg cs)) w := by
  unfold execOp
  simp only [ho, hx, Instr.loadAt, Instr.sureAddr, Sem.run_bind, Sem.run_pure, Result.andThen_ok, run_loadVar_row w g t ty cs fr d hg hu hd hi]
theorem pk_i (p : Pk) : (Tryd.prog.info? 36).map (·.size) = some (pkC p).size := by rw [show (pkC p).size = 7 from rfl]; kernel_rfl
theorem pk_one (q : Pk) : (pkC q).all (·.oneCell') = true := by simp [pkC, Value.oneCell']
theorem hd_one {h : Hd} {cs : Array Value} (hc : cs.toList = hdC h) : cs.all (·.oneCell') = true := by
  have := hdC_one h
  rw [← hc] at this
  simpa using this
theorem alloc_ack (W : World) : (Instr.alloc 56 true (.tuple #[])).run Tryd.prog W = .ok (.pointer (some ⟨W.heap.size, 0, none⟩)) (W.alloc (.cells (ackC false 0) 56)) := by kernel_rfl
/-- A byte slice that lies in memory. -/
def Lv (w : World) (A : Option Addr) (c : Nat) (l : List UInt8) : Prop := Sl rU8 w (fun k => k < w.heap.size) A l.length c l
theorem Lv.move {w w' : World} {A : Option Addr} {c : Nat} {l : List UInt8} (h : Lv w A c l) (hb : Below w.heap.size w w') : Lv w' A c l := (Sl.move h (Same.of_below hb (fun _ h => h))).mono (fun k hk => Nat.lt_of_lt_of_le hk hb.size)
theorem Lv.out {w w' : World} {A : Option Addr} {c : Nat} {l : List UInt8} (h : Out w w' A c l) : Lv w' A c l := Sl.mono h (fun k hk => hk.2)
theorem Lv.ow {w : World} {base : Nat} {A : Option Addr} {c : Nat} {l : List UInt8} (h : Ow rU8 5 w base (fun _ => False) (.slice A l.length c) l) : Lv w A c l := Sl.mono h.slF (fun k hk => hk.2)
theorem row_move {w w' : World} {g : Nat} {o : Obj} (h : w.heap[g]? = some o) (hb : Below w.heap.size w w') : w'.heap[g]? = some o := by rw [hb.block g (Go.lt_of_block h)]; exact h
theorem below_new (w : World) (z cs : Array Value) (t : TypeId) : Below w.heap.size w ((w.alloc (.cells z t)).setRow w.heap.size cs) := ParcelD.Below.row ((Below.refl _ _).alloc (Nat.le_refl _) _) (Nat.le_refl _) _
theorem row_new (w : World) (z cs : Array Value) (t : TypeId) : ((w.alloc (.cells z t)).setRow w.heap.size cs).heap[w.heap.size]? = some (.cells cs t (0, 0)) := setRow_heap _ _ _ _ _ _ (heap_new _ _)
theorem lv_one (W : World) : Lv (W.alloc (.cells #[.int .u8 1] 5)) (some ⟨W.heap.size, 0, none⟩) 1 [1] := (Sl.boxB (xs := [1]) W _ rfl rfl (by decide)).mono (fun k hk => by subst hk; simp)
theorem lv_oneAt (W : World) {B : Nat} (h : W.heap.size = B) : Lv (W.alloc (.cells #[.int .u8 1] 5)) (some ⟨B, 0, none⟩) 1 [1] := h ▸ lv_one W
theorem below_lit {w w' : World} {o : Obj} (hb : Below (w.alloc o).heap.size (w.alloc o) w') : Below w.heap.size w w' := ((Below.refl _ _).alloc (Nat.le_refl _) o).trans (hb.mono (by simp))
theorem below_one (w : World) (o : Obj) : Below w.heap.size w (w.alloc o) := (Below.refl _ _).alloc (Nat.le_refl _) o
theorem thru {a b c : World} (h : Below a.heap.size a b) (k : Below b.heap.size b c) : Below a.heap.size a c := h.trans (k.mono h.size)
theorem readHd_bad {l : List UInt8} (h : (readHd l).2 ≠ 0) : (readHd l).1 = Hd.zero := by
  unfold readHd at h ⊢
  split
  · rename_i h0; rw [if_pos h0] at h; exact absurd rfl h
  · rfl
theorem keys_u64 {T : TypeId} (hu : Tryd.prog.underlying T = some (.int .u64)) (d : Nat) (n : Nat) (hn : n < 18446744073709551616) : Tryd.prog.keyLits (d + 1) T [.int .u64 (n : Int)] = some [.int .u64 (n : Int)] := by
  unfold Program.keyLits
  rw [hu]
  simp [Lit.wf, IntKind.signed, IntKind.bits, IntKind.min, IntKind.max]
  omega
theorem keys_i64 {T : TypeId} (hu : Tryd.prog.underlying T = some (.int .i64)) (d : Nat) (n : Int) (h0 : -9223372036854775808 ≤ n) (hn : n < 9223372036854775808) : Tryd.prog.keyLits (d + 1) T [.int .i64 n] = some [.int .i64 n] := by
  unfold Program.keyLits
  rw [hu]
  simp [Lit.wf, IntKind.signed, IntKind.bits, IntKind.min, IntKind.max]
  omega
theorem keys_str {T : TypeId} (hu : Tryd.prog.underlying T = some .string) (d : Nat) (s : ByteArray) (hn : s.size ≤ maxLen) : Tryd.prog.keyLits (d + 1) T [.string s] = some [.string s.data.toList] := by
  unfold Program.keyLits
  rw [hu]
  simp [hn]
theorem keys_bool {T : TypeId} (hu : Tryd.prog.underlying T = some .bool) (d : Nat) (b : Bool) : Tryd.prog.keyLits (d + 1) T [.bool b] = some [.bool b] := by
  unfold Program.keyLits
  rw [hu]
theorem size_le {l : List UInt8} (h : l.length ≤ 65535) : (S l).size ≤ maxLen := by rw [size_S]; unfold maxLen; omega
theorem keys_pk {p : Pk} (h : p.ok) : ∃ L, Tryd.prog.keyLits 2 36 (pkC p).toList = some L := by
  have h0 := h.ch
  have k1 := keys_i64 Tryd.underlying3 0 (p.ch : Int) (by omega) (by omega)
  have k2 := keys_u64 Tryd.underlying34 0 p.seq h.seq
  have k3 := keys_u64 Tryd.underlying34 0 p.tmo h.tmo
  have k4 := keys_str Tryd.underlying9 0 (S p.den) (size_le h.den)
  have k5 := keys_u64 Tryd.underlying34 0 p.amt h.amt
  have k6 := keys_str Tryd.underlying9 0 (S p.frm) (size_le h.frm)
  have k7 := keys_str Tryd.underlying9 0 (S p.to) (size_le h.to)
  have c0 : Tryd.prog.cellsOf 36 = 7 := by kernel_rfl
  have c1 : Tryd.prog.cellsOf 3 = 1 := by kernel_rfl
  have c2 : Tryd.prog.cellsOf 34 = 1 := by kernel_rfl
  have c3 : Tryd.prog.cellsOf 9 = 1 := by kernel_rfl
  unfold Program.keyLits pkC
  rw [Tryd.underlying36]
  simp only [c0, c1, c2, c3, List.mapM_cons, List.mapM_nil, List.length_cons, List.length_nil, List.drop_succ_cons, List.drop_zero, List.take_succ_cons, List.take_zero, k1, k2, k3, k4, k5, k6, k7, bind, pure, Option.bind_some]
  rw [if_pos (by constructor <;> first | rfl | decide | simp)]
  exact ⟨_, rfl⟩
set_option maxRecDepth 100000 in
theorem eq_pk {p : Pk} (h : p.ok) (W : World) : (Op.equalIn 10000 36 (.agg (pkC p)) (.agg (pkC p))).run Tryd.prog W = .ok true W := by
  obtain ⟨L, hl⟩ := keys_pk h
  have c0 : Tryd.prog.cellsOf 36 = 7 := by kernel_rfl
  exact eq_self (by omega) (by kernel_rfl) (by simp [Value.formed, Tryd.underlying36, c0, pkC]) hl W
set_option maxRecDepth 100000 in
theorem eq_ack (y : Bool) (k : Nat) (hk : k ≤ 2147483648) (W : World) : (Op.equalIn 10000 56 (.agg (ackC y k)) (.agg (ackC y k))).run Tryd.prog W = .ok true W := by
  have k1 := keys_bool Tryd.underlying4 0 y
  have k2 := keys_i64 Tryd.underlying38 0 (k : Int) (by omega) (by omega)
  have c0 : Tryd.prog.cellsOf 56 = 2 := by kernel_rfl
  have c1 : Tryd.prog.cellsOf 4 = 1 := by kernel_rfl
  have c2 : Tryd.prog.cellsOf 38 = 1 := by kernel_rfl
  have hl : ∃ L, Tryd.prog.keyLits 2 56 (ackC y k).toList = some L := by
    unfold Program.keyLits ackC
    rw [Tryd.underlying56]
    simp only [c0, c1, c2, List.mapM_cons, List.mapM_nil, List.length_cons, List.length_nil, List.drop_succ_cons, List.drop_zero, List.take_succ_cons, List.take_zero, k1, k2, bind, pure, Option.bind_some]
    rw [if_pos (by constructor <;> first | rfl | decide | simp)]
    exact ⟨_, rfl⟩
  obtain ⟨L, hl⟩ := hl
  exact eq_self (by omega) (by kernel_rfl) (by simp [Value.formed, Tryd.underlying56, c0, ackC]) hl W
end Go.Proofs.YtjjcjdefenbnjaaDoor.ParcelM
