/- Errors that wrap errors; errors.As over them: contracts over any world. -/
import Derived.Test.YtkmcjokoinoahaaDoorFaultA2
set_option linter.unusedVariables false
set_option linter.unusedSimpArgs false
namespace Go.Proofs.YtkmcjokoinoahaaDoor.FaultB
open Go.RowKit Go.Extern.Stop Go.Stop Go.Extern Go.Proofs.YtkmcjokoinoahaaDoor.Lib Go.Proofs.YtkmcjokoinoahaaDoor.FaultA Go.Proofs.YtkmcjokoinoahaaDoor.FaultA2
/-- An error: a number; one of errors.New; a Step at a block; one of others' wrapping. -/
inductive Ch where
  | num (c : Int)
  | plain (b : Nat)
  | step (b : Nat) (wh : ByteArray) (n : Int) (e : Ch)
  | oth (e : Ch)
def vOf : Ch → Value
  | .num c => .iface 24 (.int .i64 c)
  | .plain b => .iface 144 (.pointer (some ⟨b, 0, none⟩))
  | .step b _ _ _ => .iface 37 (.pointer (some ⟨b, 0, none⟩))
  | .oth e => .iface 40 (.agg #[vOf e])
/-- Its Steps lie in memory, ahead of a block. -/
def In (w : World) (B : Nat) : Ch → Prop
  | .num _ => True
  | .plain b => b < B
  | .step b wh n e => b < B ∧ w.cell? ⟨b, 0, none⟩ = some (.string wh) ∧ w.cell? ⟨b, 1, none⟩ = some (.int .i64 n) ∧ w.cell? ⟨b, 2, none⟩ = some (vOf e) ∧ In w B e
  | .oth e => In w B e
theorem In.move {w w' : World} {B : Nat} : ∀ {e : Ch}, In w B e → (∀ k, k < B → w'.heap[k]? = w.heap[k]?) → In w' B e
  | .num _, _, _ => trivial
  | .plain _, h, _ => h
  | .step b wh n e, h, hs => ⟨h.1, (cell_same (hs _ h.1)).trans h.2.1, (cell_same (hs _ h.1)).trans h.2.2.1, (cell_same (hs _ h.1)).trans h.2.2.2.1, In.move h.2.2.2.2 hs⟩
  | .oth e, h, hs => In.move (e := e) h hs
theorem In.mono {w : World} {B B' : Nat} (hB : B ≤ B') : ∀ {e : Ch}, In w B e → In w B' e
  | .num _, _ => trivial
  | .plain _, h => Nat.lt_of_lt_of_le h hB
  | .step b wh n e, h => ⟨Nat.lt_of_lt_of_le h.1 hB, h.2.1, h.2.2.1, h.2.2.2.1, In.mono hB h.2.2.2.2⟩
  | .oth e, h => In.mono (e := e) hB h
def deep : Ch → Nat
  | .num _ => 0
  | .plain _ => 0
  | .step _ _ _ e => deep e + 1
  | .oth e => deep e + 1
/-- Its number, if it has one. -/
def numL : Ch → Option Int
  | .num c => some c
  | .plain _ => none
  | .step _ _ _ e => numL e
  | .oth e => numL e
/-- Its first Step. -/
def stepL : Ch → Option (Nat × ByteArray × Int × Ch)
  | .num _ => none
  | .plain _ => none
  | .step b wh n e => some (b, wh, n, e)
  | .oth e => stepL e
def whereL : Ch → List ByteArray
  | .num _ => []
  | .plain _ => []
  | .step _ wh _ e => wh :: whereL e
  | .oth e => whereL e
theorem vOf_iface (e : Ch) : ∃ t v, vOf e = .iface t v := by cases e <;> exact ⟨_, _, rfl⟩
theorem eql_nil (e : Ch) (w : World) : (binOp .eql 27 (vOf e) .nilIface).run Tryd.prog w = .ok (.bool false) w := by
  obtain ⟨t, v, h⟩ := vOf_iface e
  rw [h]
  have hu := Tryd.underlying27
  have h : ∀ d : Nat, (Op.equalIn (d + 1) 27 (.iface t v) .nilIface).run Tryd.prog w = .ok false w := fun d => by simp [Op.equalIn, run_underlying hu]
  simp only [binOp]
  simp [Op.equal, Op.maxDepth, h 9999]
theorem guard_nil (e : Ch) (t : TypeId) (x y : Operand) : eqGuard .eql t x y (vOf e) .nilIface = pure () := by
  obtain ⟨u, v, h⟩ := vOf_iface e
  rw [h]
  rfl
/-- Below a block all is as it was but for one block. -/
def But (B tb : Nat) (w w' : World) : Prop := w.heap.size ≤ w'.heap.size ∧ w'.os = w.os ∧ w'.tape = w.tape ∧ w'.output = w.output ∧ ∀ k, k < B → k ≠ tb → w'.heap[k]? = w.heap[k]?
theorem But.of_below {B tb : Nat} {w w' : World} (h : Below B w w') : But B tb w w' := ⟨h.size, h.os, h.tape, h.output, fun k hk _ => h.block k hk⟩
theorem But.set {B tb : Nat} {w w' : World} (h : But B tb w w') (v : Value) : But B tb w (w'.setCell ⟨tb, 0, none⟩ v) := ⟨by simp; exact h.1, h.2.1, h.2.2.1, h.2.2.2.1, fun k hk hn => (Below.heap_setCell _ _ _ _ hn).trans (h.2.2.2.2 k hk hn)⟩
theorem But.alloc {B tb : Nat} {w w' : World} (h : But B tb w w') (hB : B ≤ w'.heap.size) (o : Obj) : But B tb w (w'.alloc o) := ⟨by have := h.1; simp; omega, h.2.1, h.2.2.1, h.2.2.2.1, fun k hk hn => (Below.heap_alloc _ _ _ (by omega)).trans (h.2.2.2.2 k hk hn)⟩
theorem But.below {B tb : Nat} {w w' : World} (h : But B tb w w') (hB : B ≤ tb) : Below B w w' := ⟨h.2.1, h.2.2.1, h.2.2.2.1, h.1, fun k hk => h.2.2.2.2 k hk (by omega)⟩
theorem But.trans_below {B tb : Nat} {a b c : World} (h : Below B a b) (k : But B tb b c) : But B tb a c := ⟨Nat.le_trans h.size k.1, k.2.1.trans h.os, k.2.2.1.trans h.tape, k.2.2.2.1.trans h.output, fun i hi hn => (k.2.2.2.2 i hi hn).trans (h.block i hi)⟩
theorem UnwS_calls (w : World) (b : Nat) (v : Value) (h : w.cell? ⟨b, 2, none⟩ = some v) : Calls Tryd.prog 137 #[.pointer (some ⟨b, 0, none⟩)] w fun e w' => e = .returned v ∧ w' = w := by
  go_enter Tryd.func137, Tryd.ntmps137
  go_wp2_with fail
  go_ret
  exact ⟨rfl, rfl⟩
theorem UnwO_calls (w : World) (v : Value) : Calls Tryd.prog 139 #[.agg #[v]] w fun e w' => e = .returned v ∧ Below w.heap.size w w' := by
  go_enter Tryd.func139, Tryd.ntmps139
  go_wp2_with fail
  go_ret
  exact ⟨rfl, (Below.refl _ _).alloc (Nat.le_refl _) _⟩
def AnsE (e : Ch) (tb : Nat) (old : Value) (ev : Ending) (w' : World) : Prop := match numL e with | some c => ev = .returned (.bool true) ∧ Fact (w'.cell? ⟨tb, 0, none⟩ = some (.int .i64 c)) | none => ev = .returned (.bool false) ∧ Fact (w'.cell? ⟨tb, 0, none⟩ = some old)
set_option maxHeartbeats 8000000 in
set_option maxRecDepth 100000 in
theorem asE_calls (w : World) (B : Nat) (e : Ch) (hin : In w B e) (tb x : Nat) (old : Value) (hx : w.cell? ⟨x, 0, none⟩ = some (.pointer (some ⟨tb, 0, none⟩))) (ht : w.cell? ⟨tb, 0, none⟩ = some old) (hf : w.frozen? ⟨tb, 0, none⟩ = false) (hB : B ≤ w.heap.size) :
    Calls Tryd.prog 63 #[vOf e, .iface 102 (.pointer (some ⟨tb, 0, none⟩)), .agg #[.pointer (some ⟨4, 102, none⟩), .pointer (some ⟨x, 0, none⟩), .int .u64 150], .iface 148 (.agg #[.pointer (some ⟨4, 24, none⟩)])] w fun ev w' => AnsE e tb old ev w' ∧ Fact (w'.frozen? ⟨tb, 0, none⟩ = false) ∧ Fact (But w.heap.size tb w w') := by
  have h60 := ext60
  have h64 := ext64
  have hAsg := extAsg
  have h77 := ext77
  have h78 := ext78
  have mA := mAsg
  have HX := Fact.mk hx
  have HT := Fact.mk ht
  have HFr := Fact.mk hf
  have HBS := Fact.mk hB
  have HIN : Fact (In (w.alloc (.cells #[.pointer (some ⟨4, 102, none⟩), .pointer (some ⟨x, 0, none⟩), .int .u64 150] 107)) B e) := ⟨hin.move (fun k hk => Below.heap_alloc _ _ _ (by omega))⟩
  have HB0 : Fact (Below (w.heap.size + 1) (w.alloc (.cells #[.pointer (some ⟨4, 102, none⟩), .pointer (some ⟨x, 0, none⟩), .int .u64 150] 107)) (w.alloc (.cells #[.pointer (some ⟨4, 102, none⟩), .pointer (some ⟨x, 0, none⟩), .int .u64 150] 107))) := ⟨Below.refl _ _⟩
  clear hx ht hf hB hin
  go_enter Tryd.func63, Tryd.ntmps63
  go_wp2_with fail
  go_loopg [0] (deep e) (fun kq s wr => ∃ e' : Ch, s = vOf e' ∧ Fact (deep e' = kq) ∧ Fact (In wr B e') ∧ Fact (numL e' = numL e) ∧ Fact (Below (w.heap.size + 1) (w.alloc (.cells #[.pointer (some ⟨4, 102, none⟩), .pointer (some ⟨x, 0, none⟩), .int .u64 150] 107)) wr))
  case atStart => exact ⟨e, rfl, ⟨rfl⟩, HIN, ⟨rfl⟩, HB0⟩
  case round =>
    obtain ⟨e', rfl, HD, HI, HN, HB⟩ := hrel
    have hxl := lt_of_cell HX.out
    have htl := lt_of_cell HT.out
    have hsz : w.heap.size + 1 ≤ wr.heap.size := by have := HB.out.size; simpa using this
    have hxr : wr.cell? ⟨x, 0, none⟩ = some (.pointer (some ⟨tb, 0, none⟩)) := (cell_same (HB.out.block x (by simp at hxl; omega))).trans ((World.cell?_alloc_lt _ _ _ hxl).trans HX.out)
    have htr : wr.cell? ⟨tb, 0, none⟩ = some old := (cell_same (HB.out.block tb (by simp at htl; omega))).trans ((World.cell?_alloc_lt _ _ _ htl).trans HT.out)
    have hfr : wr.frozen? ⟨tb, 0, none⟩ = false := (by
      have h1 : wr.frozen? ⟨tb, 0, none⟩ = (w.alloc (.cells #[.pointer (some ⟨4, 102, none⟩), .pointer (some ⟨x, 0, none⟩), .int .u64 150] 107)).frozen? ⟨tb, 0, none⟩ := by unfold World.frozen?; rw [HB.out.block tb (by simp at htl; omega)]
      rw [h1, World.frozen?_alloc_old _ _ _ (Nat.ne_of_lt htl)]; exact HFr.out)
    have b0 : wr.cell? ⟨w.heap.size, 0, none⟩ = some (.pointer (some ⟨4, 102, none⟩)) := (cell_same (HB.out.block _ (by simp))).trans (by simp)
    have b1 : wr.cell? ⟨w.heap.size, 1, none⟩ = some (.pointer (some ⟨x, 0, none⟩)) := (cell_same (HB.out.block _ (by simp))).trans (by simp)
    have b2 : wr.cell? ⟨w.heap.size, 2, none⟩ = some (.int .u64 150) := (cell_same (HB.out.block _ (by simp))).trans (by simp)
    have HTR := Fact.mk htr
    have HFRR := Fact.mk hfr
    have HBT : Fact (But w.heap.size tb w wr) := ⟨But.trans_below ((Below.refl _ _).alloc (Nat.le_refl _) _) (But.of_below (HB.out.mono (Nat.le_succ _)))⟩
    have HTL : Fact (tb < w.heap.size) := ⟨htl⟩
    have HXL : Fact (x < w.heap.size) := ⟨hxl⟩
    have HSZ := Fact.mk hsz
    clear hxl htl hsz
    cases e' with
    | num c =>
      unfold vOf
      have tO := typeOfE
      have aS := asgEE
      have eV := elemVE ⟨x, 0, none⟩ ⟨tb, 0, none⟩ wr hxr
      have vO := vOfE (c)
      have st := setE ⟨tb, 0, none⟩ ⟨wr.heap.size, 0, none⟩ (c) old (wr.alloc (.cells #[.int .i64 c] 24)) (by simp) (by rw [World.cell?_alloc_lt _ _ _ (lt_of_cell htr)]; exact htr) (by rw [World.frozen?_alloc_old _ _ _ (Nat.ne_of_lt (lt_of_cell htr))]; exact hfr)
      clear htr hfr hxr
      go_wp2_with fail
      go_ret
      have hn : numL e = some (c) := by rw [← HN.out]; rfl
      have htl := HTL.out
      have hsz := HSZ.out
      refine ⟨?_, ⟨by simp; rw [World.frozen?_alloc_old _ _ _ (by show tb ≠ _; omega)]; exact HFRR.out⟩, ⟨But.set (But.alloc HBT.out (by omega) _) _⟩⟩
      unfold AnsE
      rw [hn]
      exact ⟨rfl, ⟨World.cell?_setCell_same _ _ _ ((World.cell?_alloc_lt _ _ _ (by show tb < _; omega)).trans HTR.out)⟩⟩
    | plain b =>
      unfold vOf
      have tO := typeOfP
      have aS := asgPE
      have nA := noAsP
      have uw := unwP
      have ul := unlP
      clear b0 b1 b2 hxr htr hfr
      go_wp2_with fail
      go_ret
      have hn : numL e = none := by rw [← HN.out]; rfl
      refine ⟨?_, HFRR, HBT⟩
      unfold AnsE
      rw [hn]
      exact ⟨rfl, HTR⟩
    | step b wh n e1 =>
      unfold vOf
      have tO := typeOfS
      have aS := asgSE
      have nA := noAsS
      have uw := unwS
      have mU := mUnwS
      have en := eql_nil e1
      have gn := guard_nil e1
      clear b0 b1 b2 hxr htr hfr
      go_wp2_with (go_at_call 137; fail)
      refine (UnwS_calls wr b (vOf e1) HI.out.2.2.2.1).mono ?_
      rintro ev w2 ⟨rfl, rfl⟩
      go_wp2_with fail
      go_roundg (deep e1)
      case measure => have := HD.out; unfold deep at this; omega
      case rel => exact ⟨e1, rfl, ⟨rfl⟩, ⟨HI.out.2.2.2.2⟩, ⟨by rw [← HN.out]; rfl⟩, HB⟩
    | oth e1 =>
      unfold vOf
      have tO := typeOfO
      have aS := asgOE
      have nA := noAsO
      have uw := unwO
      have mU := mUnwO
      have en := eql_nil e1
      have gn := guard_nil e1
      clear b0 b1 b2 hxr htr hfr
      go_wp2_with (go_at_call 139; fail)
      refine (UnwO_calls wr (vOf e1)).mono ?_
      rintro ev w2 ⟨rfl, hb⟩
      have HB2 : Fact (Below (w.heap.size + 1) (w.alloc (.cells #[.pointer (some ⟨4, 102, none⟩), .pointer (some ⟨x, 0, none⟩), .int .u64 150] 107)) w2) := ⟨HB.out.trans (hb.mono HSZ.out)⟩
      have HI2 : Fact (In w2 B e1) := ⟨In.move (show In wr B e1 from HI.out) (fun k hk => hb.block k (by have := HBS.out; have := HSZ.out; omega))⟩
      clear hb
      go_wp2_with fail
      go_roundg (deep e1)
      case measure => have := HD.out; unfold deep at this; omega
      case rel => exact ⟨e1, rfl, ⟨rfl⟩, HI2, ⟨by rw [← HN.out]; rfl⟩, HB2⟩
def AnsS (e : Ch) (tb : Nat) (old : Value) (ev : Ending) (w' : World) : Prop := match stepL e with | some x => ev = .returned (.bool true) ∧ Fact (w'.cell? ⟨tb, 0, none⟩ = some (.pointer (some ⟨x.1, 0, none⟩))) | none => ev = .returned (.bool false) ∧ Fact (w'.cell? ⟨tb, 0, none⟩ = some old)
set_option maxHeartbeats 8000000 in
set_option maxRecDepth 100000 in
theorem asS_calls (w : World) (B : Nat) (e : Ch) (hin : In w B e) (tb x : Nat) (old : Value) (hx : w.cell? ⟨x, 0, none⟩ = some (.pointer (some ⟨tb, 0, none⟩))) (ht : w.cell? ⟨tb, 0, none⟩ = some old) (hf : w.frozen? ⟨tb, 0, none⟩ = false) (hB : B ≤ w.heap.size) :
    Calls Tryd.prog 63 #[vOf e, .iface 41 (.pointer (some ⟨tb, 0, none⟩)), .agg #[.pointer (some ⟨4, 41, none⟩), .pointer (some ⟨x, 0, none⟩), .int .u64 150], .iface 148 (.agg #[.pointer (some ⟨4, 37, none⟩)])] w fun ev w' => AnsS e tb old ev w' ∧ Fact (w'.frozen? ⟨tb, 0, none⟩ = false) ∧ Fact (But w.heap.size tb w w') := by
  have h60 := ext60
  have h64 := ext64
  have hAsg := extAsg
  have h77 := ext77
  have h78 := ext78
  have mA := mAsg
  have HX := Fact.mk hx
  have HT := Fact.mk ht
  have HFr := Fact.mk hf
  have HBS := Fact.mk hB
  have HIN : Fact (In (w.alloc (.cells #[.pointer (some ⟨4, 41, none⟩), .pointer (some ⟨x, 0, none⟩), .int .u64 150] 107)) B e) := ⟨hin.move (fun k hk => Below.heap_alloc _ _ _ (by omega))⟩
  have HB0 : Fact (Below (w.heap.size + 1) (w.alloc (.cells #[.pointer (some ⟨4, 41, none⟩), .pointer (some ⟨x, 0, none⟩), .int .u64 150] 107)) (w.alloc (.cells #[.pointer (some ⟨4, 41, none⟩), .pointer (some ⟨x, 0, none⟩), .int .u64 150] 107))) := ⟨Below.refl _ _⟩
  clear hx ht hf hB hin
  go_enter Tryd.func63, Tryd.ntmps63
  go_wp2_with fail
  go_loopg [0] (deep e) (fun kq s wr => ∃ e' : Ch, s = vOf e' ∧ Fact (deep e' = kq) ∧ Fact (In wr B e') ∧ Fact (stepL e' = stepL e) ∧ Fact (Below (w.heap.size + 1) (w.alloc (.cells #[.pointer (some ⟨4, 41, none⟩), .pointer (some ⟨x, 0, none⟩), .int .u64 150] 107)) wr))
  case atStart => exact ⟨e, rfl, ⟨rfl⟩, HIN, ⟨rfl⟩, HB0⟩
  case round =>
    obtain ⟨e', rfl, HD, HI, HN, HB⟩ := hrel
    have hxl := lt_of_cell HX.out
    have htl := lt_of_cell HT.out
    have hsz : w.heap.size + 1 ≤ wr.heap.size := by have := HB.out.size; simpa using this
    have hxr : wr.cell? ⟨x, 0, none⟩ = some (.pointer (some ⟨tb, 0, none⟩)) := (cell_same (HB.out.block x (by simp at hxl; omega))).trans ((World.cell?_alloc_lt _ _ _ hxl).trans HX.out)
    have htr : wr.cell? ⟨tb, 0, none⟩ = some old := (cell_same (HB.out.block tb (by simp at htl; omega))).trans ((World.cell?_alloc_lt _ _ _ htl).trans HT.out)
    have hfr : wr.frozen? ⟨tb, 0, none⟩ = false := (by
      have h1 : wr.frozen? ⟨tb, 0, none⟩ = (w.alloc (.cells #[.pointer (some ⟨4, 41, none⟩), .pointer (some ⟨x, 0, none⟩), .int .u64 150] 107)).frozen? ⟨tb, 0, none⟩ := by unfold World.frozen?; rw [HB.out.block tb (by simp at htl; omega)]
      rw [h1, World.frozen?_alloc_old _ _ _ (Nat.ne_of_lt htl)]; exact HFr.out)
    have b0 : wr.cell? ⟨w.heap.size, 0, none⟩ = some (.pointer (some ⟨4, 41, none⟩)) := (cell_same (HB.out.block _ (by simp))).trans (by simp)
    have b1 : wr.cell? ⟨w.heap.size, 1, none⟩ = some (.pointer (some ⟨x, 0, none⟩)) := (cell_same (HB.out.block _ (by simp))).trans (by simp)
    have b2 : wr.cell? ⟨w.heap.size, 2, none⟩ = some (.int .u64 150) := (cell_same (HB.out.block _ (by simp))).trans (by simp)
    have HTR := Fact.mk htr
    have HFRR := Fact.mk hfr
    have HBT : Fact (But w.heap.size tb w wr) := ⟨But.trans_below ((Below.refl _ _).alloc (Nat.le_refl _) _) (But.of_below (HB.out.mono (Nat.le_succ _)))⟩
    have HTL : Fact (tb < w.heap.size) := ⟨htl⟩
    have HXL : Fact (x < w.heap.size) := ⟨hxl⟩
    have HSZ := Fact.mk hsz
    clear hxl htl hsz
    cases e' with
    | num c =>
      unfold vOf
      have tO := typeOfE
      have aS := asgES
      have nA := noAsE
      have uw := unwE
      have ul := unlE
      clear b0 b1 b2 hxr htr hfr
      go_wp2_with fail
      go_ret
      have hn : stepL e = none := by rw [← HN.out]; rfl
      refine ⟨?_, HFRR, HBT⟩
      unfold AnsS
      rw [hn]
      exact ⟨rfl, HTR⟩
    | plain b =>
      unfold vOf
      have tO := typeOfP
      have aS := asgPS
      have nA := noAsP
      have uw := unwP
      have ul := unlP
      clear b0 b1 b2 hxr htr hfr
      go_wp2_with fail
      go_ret
      have hn : stepL e = none := by rw [← HN.out]; rfl
      refine ⟨?_, HFRR, HBT⟩
      unfold AnsS
      rw [hn]
      exact ⟨rfl, HTR⟩
    | step b wh n e1 =>
      unfold vOf
      have tO := typeOfS
      have aS := asgSS
      have eV := elemVS ⟨x, 0, none⟩ ⟨tb, 0, none⟩ wr hxr
      have vO := vOfS (⟨b, 0, none⟩)
      have st := setS ⟨tb, 0, none⟩ ⟨wr.heap.size, 0, none⟩ (⟨b, 0, none⟩) old (wr.alloc (.cells #[.pointer (some ⟨b, 0, none⟩)] 37)) (by simp) (by rw [World.cell?_alloc_lt _ _ _ (lt_of_cell htr)]; exact htr) (by rw [World.frozen?_alloc_old _ _ _ (Nat.ne_of_lt (lt_of_cell htr))]; exact hfr)
      clear htr hfr hxr
      go_wp2_with fail
      go_ret
      have hn : stepL e = some ((b, wh, n, e1)) := by rw [← HN.out]; rfl
      have htl := HTL.out
      have hsz := HSZ.out
      refine ⟨?_, ⟨by simp; rw [World.frozen?_alloc_old _ _ _ (by show tb ≠ _; omega)]; exact HFRR.out⟩, ⟨But.set (But.alloc HBT.out (by omega) _) _⟩⟩
      unfold AnsS
      rw [hn]
      exact ⟨rfl, ⟨World.cell?_setCell_same _ _ _ ((World.cell?_alloc_lt _ _ _ (by show tb < _; omega)).trans HTR.out)⟩⟩
    | oth e1 =>
      unfold vOf
      have tO := typeOfO
      have aS := asgOS
      have nA := noAsO
      have uw := unwO
      have mU := mUnwO
      have en := eql_nil e1
      have gn := guard_nil e1
      clear b0 b1 b2 hxr htr hfr
      go_wp2_with (go_at_call 139; fail)
      refine (UnwO_calls wr (vOf e1)).mono ?_
      rintro ev w2 ⟨rfl, hb⟩
      have HB2 : Fact (Below (w.heap.size + 1) (w.alloc (.cells #[.pointer (some ⟨4, 41, none⟩), .pointer (some ⟨x, 0, none⟩), .int .u64 150] 107)) w2) := ⟨HB.out.trans (hb.mono HSZ.out)⟩
      have HI2 : Fact (In w2 B e1) := ⟨In.move (show In wr B e1 from HI.out) (fun k hk => hb.block k (by have := HBS.out; have := HSZ.out; omega))⟩
      clear hb
      go_wp2_with fail
      go_roundg (deep e1)
      case measure => have := HD.out; unfold deep at this; omega
      case rel => exact ⟨e1, rfl, ⟨rfl⟩, HI2, ⟨by rw [← HN.out]; rfl⟩, HB2⟩
end Go.Proofs.YtkmcjokoinoahaaDoor.FaultB
