/- The law's made, Awake: contracts over any world. -/
import Derived.Test.YtkmcjokoinoahaaDoorFaultF
set_option linter.unusedVariables false
set_option linter.unusedSimpArgs false
namespace Go.Proofs.YtkmcjokoinoahaaDoor.FaultG
open Go.RowKit Go.Proofs.YtkmcjokoinoahaaDoor.Lib Go.Proofs.YtkmcjokoinoahaaDoor.FaultB Go.Proofs.YtkmcjokoinoahaaDoor.FaultC Go.Proofs.YtkmcjokoinoahaaDoor.FaultD Go.Proofs.YtkmcjokoinoahaaDoor.FaultF
/-- A place: where, a number, others' wrapping? -/
def rPl : Rep (ByteArray × Int64 × Bool) := Rep.pair rStr (Rep.pair rI64 rBool)
def madeW (l : List (ByteArray × Int64 × Bool)) : List ByteArray := l.filterMap fun p => if p.2.2 then none else some p.1
theorem madeW_len (l : List (ByteArray × Int64 × Bool)) : (madeW l).length ≤ l.length := List.length_filterMap_le _ _
theorem place_at {w : World} {F : Nat → Prop} {A : Option Addr} {n c : Nat} {l : List (ByteArray × Int64 × Bool)} (h : Sl rPl w F A n c l) {k : Nat} {p : ByteArray × Int64 × Bool} (hk : l[k]? = some p) : ∃ ad, A = some ad ∧ F ad.block ∧ ∀ (j : Nat) v, (#[Value.string p.1, .int .i64 p.2.1.toInt, .bool p.2.2] : Array Value).toList[j]? = some v → w.cell? ((ad.add (k * 3)).add j) = some v := by
  obtain ⟨ad, cs, e, hf, hK, hcell⟩ := h.at_ hk
  obtain ⟨c1, c2, rfl, h1, c3, c4, rfl, h3, h4⟩ := hK
  have h1' : c1 = [.string p.1] := h1
  have h3' : c3 = [.int .i64 p.2.1.toInt] := h3
  have h4' : c4 = [.bool p.2.2] := h4
  subst h1' h3' h4'
  refine ⟨ad, e, hf, fun j v hj => ?_⟩
  rw [add_add']
  exact hcell j v (by simpa using hj)
theorem exec_loadS {P : Program} {o : Oper} {a : Act} {w : World} {ty : TypeId} {x : Operand} {ad : Addr} {cs : Array Value} {fs : Array Field} (ho : o.op = .load ty x) (hx : a.eval x = .pointer (some ad)) (hc : ∀ (j : Nat) v, cs.toList[j]? = some v → w.cell? (ad.add j) = some v)
    (hu : P.underlying ty = some (.struct fs)) (hi : (P.info? ty).map (·.size) = some cs.size) : (execOp a.eval o).run P w = .ok (.value (.agg cs)) w := by
  have hl : (loadCells ad cs.toList.length).run P w = .ok cs.toList.toArray w := run_loadCells_list (P := P) w ad cs.toList hc
  cases hq : P.info? ty with
  | none => simp [hq] at hi
  | some i =>
    have hs : i.size = cs.size := by simpa [hq] using hi
    have hagg : (isAgg ty).run P w = .ok true w := by
      unfold isAgg
      rw [Sem.run_bind, run_underlying hu w]
      simp
    have hlv : (loadVar ty ad).run P w = .ok (.agg cs) w := by
      have hl' : (loadCells ad cs.size).run P w = .ok cs w := by simpa using hl
      simp [loadVar, Sem.run_bind, hagg, sizeOf, typeInfo, hq, hs, hl']
    unfold execOp
    simp only [ho, hx, Instr.loadAt, Instr.sureAddr, Sem.run_bind, Sem.run_pure, Result.andThen_ok, hlv]
def baseL (code : Int) : Option Int := if code = 0 then none else some code
set_option maxHeartbeats 8000000 in
set_option maxRecDepth 100000 in
theorem made_calls (w : World) (F : Nat → Prop) (A : Option Addr) (n c : Nat) (l : List (ByteArray × Int64 × Bool)) (h : Sl rPl w F A n c l) (hF : ∀ k, F k → k < w.heap.size) (code : Int) :
    Calls Tryd.prog 20 #[.int .i64 code, .slice A n c] w fun ev w' => ∃ e : Ch, ev = .returned (vOf e) ∧ Fact (In w' w'.heap.size e) ∧ Fact (numL e = baseL code) ∧ Fact (whereL e = madeW (l.take 20)) ∧ Below w.heap.size w w' := by
  have hlen := h.len
  have hmx := Nat.le_trans h.le h.max_
  have H := Fact.mk h
  have HF := Fact.mk hF
  have HLN := Fact.mk hlen
  have hi3 := Fact.mk (show ∀ a b c : Value, (Tryd.prog.info? 32).map (·.size) = some (#[a, b, c] : Array Value).size from fun a b c => by rw [show (#[a, b, c] : Array Value).size = 3 from rfl]; kernel_rfl)
  clear h hF hlen
  have HB0 := Fact.mk (Below.refl w.heap.size w)
  by_cases hc : code = 0
  · subst hc
    go_enter Tryd.func20, Tryd.ntmps20
    go_wp2_with (go_at_call 59; fail)
    refine (New_calls w _).mono ?_
    rintro ev w1 ⟨rfl, rfl⟩
    have HI0 : Fact (In (w.alloc (.cells #[.string { data := #[111, 116, 104, 101, 114] }] 146)) (w.alloc (.cells #[.string { data := #[111, 116, 104, 101, 114] }] 146)).heap.size (.plain w.heap.size)) := ⟨by show w.heap.size < _; simp⟩
    have HN0 : Fact (numL (.plain w.heap.size) = baseL 0) := ⟨rfl⟩
    have HBZ : Fact (Below w.heap.size w (w.alloc (.cells #[.string { data := #[111, 116, 104, 101, 114] }] 146))) := ⟨(Below.refl _ _).alloc (Nat.le_refl _) _⟩
    go_wp2_with fail
    · have HM20 : Fact (20 ≤ 20) := ⟨by omega⟩
      have HMN : Fact (20 ≤ n) := ⟨by omega⟩
      have HTK : Fact (l.take 20 = l.take 20) := ⟨rfl⟩
      go_loopg [5, 6] 20 (fun kq s5 s6 wr => ∃ e' : Ch, s5 = vOf e' ∧ s6 = .int .i64 ((kq : Int) - 1) ∧ Fact (kq ≤ 20) ∧ Fact (In wr wr.heap.size e') ∧ Fact (numL e' = baseL 0) ∧ Fact (whereL e' = madeW ((l.take 20).drop kq)) ∧ Fact (Below w.heap.size w wr))
      case atStart => exact ⟨.plain w.heap.size, rfl, rfl, ⟨Nat.le_refl _⟩, HI0, HN0, ⟨by rw [List.drop_of_length_le (by rw [List.length_take]; omega)]; rfl⟩, HBZ⟩
      case round =>
        obtain ⟨e', rfl, rfl, HK, HI, HN, HW, HB⟩ := hrel
        match gk, HK, HW with
        | 0, HK, HW =>
          generalize hve : vOf e' = ve
          have HVE := Fact.mk hve
          clear hve
          go_wp2_with fail
          go_ret
          exact ⟨e', by rw [HVE.out]; rfl, HI, HN, ⟨by rw [HW.out]; first | rfl | (rw [HTK.out]; rfl)⟩, HB.out⟩
        | j + 1, HK, HW =>
          have hjn : j < l.length := by have := HK.out; have := HMN.out; have := HLN.out; omega
          obtain ⟨p, hp⟩ : ∃ p, l[j]? = some p := ⟨_, List.getElem?_eq_getElem hjn⟩
          obtain ⟨ad, rfl, hf, hcell⟩ := place_at H.out hp
          have HCELL : Fact (∀ (i : Nat) v, (#[Value.string p.1, .int .i64 p.2.1.toInt, .bool p.2.2] : Array Value).toList[i]? = some v → wr.cell? ((ad.add (j * 3)).add i) = some v) := ⟨fun i v hv => (cell_same (by rw [block_add, block_add]; exact HB.out.block _ (HF.out _ hf))).trans (hcell i v hv)⟩
          have HWJ : Fact (madeW ((l.take 20).drop j) = (if p.2.2 then [] else [p.1]) ++ madeW ((l.take 20).drop (j + 1))) := ⟨by
            have hjt : j < (l.take 20).length := by rw [List.length_take]; have := HK.out; omega
            have hpt : (l.take 20)[j] = p := by rw [List.getElem_take]; exact (List.getElem?_eq_some_iff.1 hp).2
            rw [List.drop_eq_getElem_cons hjt, hpt]
            unfold madeW
            rw [List.filterMap_cons]
            cases p.2.2 <;> simp⟩
          obtain ⟨s, nn, o⟩ := p
          simp only at HCELL HWJ
          have hj1 : ((j + 1 : Nat) : Int) - 1 = (j : Int) := by omega
          have hj0 : (0 : Int) ≤ (j : Int) := by omega
          have hwj : IntKind.i64.wrap ((j : Int) - 1) = (j : Int) - 1 := by rw [IntKind.wrap_i64]; have := HM20.out; have := HK.out; omega
          have hjd : decide ((0 : Int) ≤ (j : Int)) = true := decide_eq_true hj0
          have hjlt : j < n := by have := HLN.out; omega
          have hjlt' : (j : Int) < (n : Int) := by omega
          rw [hj1]
          clear hp hcell hf hjn hj1
          generalize hve : vOf e' = ve
          have HVE := Fact.mk hve
          clear hve
          have HI2 : Fact (In (wr.alloc (.cells #[.string s, .int .i64 nn.toInt, .bool o] 32)) wr.heap.size e') := ⟨HI.out.move (fun k hk => Below.heap_alloc _ _ _ hk)⟩
          cases o
          · go_wp2_with (first
              | (go_at_call 23; fail)
              | (refine wpList_ok rfl (exec_loadS (cs := #[.string s, .int .i64 nn.toInt, .bool false]) rfl rfl HCELL.out Tryd.underlying32 (hi3.out _ _ _)) ?_))
            rw [← HVE.out]
            refine (At_calls _ wr.heap.size s nn.toInt e' HI2.out (by simp)).mono ?_
            rintro ev w2 ⟨rfl, hin, hw2⟩
            have HB2 : Fact (Below w.heap.size w w2) := ⟨by rw [hw2]; exact (HB.out.alloc HB.out.size _).alloc (by have := HB.out.size; simp; omega) _⟩
            have HIN := hin
            have HSZ : Fact (w2.heap.size = wr.heap.size + 1 + 1) := ⟨by rw [hw2]; simp⟩
            clear hin hw2
            generalize hst : Ch.step (wr.alloc (.cells #[.string s, .int .i64 nn.toInt, .bool false] 32)).heap.size s nn.toInt e' = st at HIN ⊢
            have HN2 : Fact (numL st = baseL 0) := ⟨by rw [← hst]; exact HN.out⟩
            have HW2 : Fact (whereL st = madeW ((l.take 20).drop j)) := ⟨by rw [HWJ.out, ← hst]; show s :: whereL e' = _; rw [HW.out]; rfl⟩
            clear hst
            generalize hvs : vOf st = vs
            have HVS := Fact.mk hvs
            clear hvs
            go_wp2_with fail
            go_roundg j
            case measure => omega
            case rel => exact ⟨st, HVS.out.symm, rfl, ⟨by have := HK.out; omega⟩, ⟨In.mono (by rw [HSZ.out]; simp) HIN.out⟩, HN2, HW2, HB2⟩
          · obtain ⟨tt, vv, hvv⟩ := vOf_iface e'
            rw [HVE.out] at hvv
            subst hvv
            go_wp2_with (refine wpList_ok rfl (exec_loadS (cs := #[.string s, .int .i64 nn.toInt, .bool true]) rfl rfl HCELL.out Tryd.underlying32 (hi3.out _ _ _)) ?_)
            go_roundg j
            case measure => omega
            case rel => exact ⟨.oth e', by rw [← HVE.out]; rfl, rfl, ⟨by have := HK.out; omega⟩, ⟨In.mono (by simp) (show In _ wr.heap.size (.oth e') from HI2.out)⟩, ⟨HN.out⟩, ⟨by rw [HWJ.out]; exact HW.out⟩, ⟨HB.out.alloc HB.out.size _⟩⟩
    · have HM20 : Fact (n ≤ 20) := ⟨by omega⟩
      have HMN : Fact (n ≤ n) := ⟨by omega⟩
      have HTK : Fact (l.take 20 = l.take n) := ⟨by rw [List.take_of_length_le (by have := HLN.out; omega), List.take_of_length_le (by have := HLN.out; omega)]⟩
      go_loopg [5, 6] n (fun kq s5 s6 wr => ∃ e' : Ch, s5 = vOf e' ∧ s6 = .int .i64 ((kq : Int) - 1) ∧ Fact (kq ≤ n) ∧ Fact (In wr wr.heap.size e') ∧ Fact (numL e' = baseL 0) ∧ Fact (whereL e' = madeW ((l.take n).drop kq)) ∧ Fact (Below w.heap.size w wr))
      case atStart => exact ⟨.plain w.heap.size, rfl, rfl, ⟨Nat.le_refl _⟩, HI0, HN0, ⟨by rw [List.drop_of_length_le (by rw [List.length_take]; omega)]; rfl⟩, HBZ⟩
      case round =>
        obtain ⟨e', rfl, rfl, HK, HI, HN, HW, HB⟩ := hrel
        match gk, HK, HW with
        | 0, HK, HW =>
          generalize hve : vOf e' = ve
          have HVE := Fact.mk hve
          clear hve
          go_wp2_with fail
          go_ret
          exact ⟨e', by rw [HVE.out]; rfl, HI, HN, ⟨by rw [HW.out]; first | rfl | (rw [HTK.out]; rfl)⟩, HB.out⟩
        | j + 1, HK, HW =>
          have hjn : j < l.length := by have := HK.out; have := HMN.out; have := HLN.out; omega
          obtain ⟨p, hp⟩ : ∃ p, l[j]? = some p := ⟨_, List.getElem?_eq_getElem hjn⟩
          obtain ⟨ad, rfl, hf, hcell⟩ := place_at H.out hp
          have HCELL : Fact (∀ (i : Nat) v, (#[Value.string p.1, .int .i64 p.2.1.toInt, .bool p.2.2] : Array Value).toList[i]? = some v → wr.cell? ((ad.add (j * 3)).add i) = some v) := ⟨fun i v hv => (cell_same (by rw [block_add, block_add]; exact HB.out.block _ (HF.out _ hf))).trans (hcell i v hv)⟩
          have HWJ : Fact (madeW ((l.take n).drop j) = (if p.2.2 then [] else [p.1]) ++ madeW ((l.take n).drop (j + 1))) := ⟨by
            have hjt : j < (l.take n).length := by rw [List.length_take]; have := HK.out; omega
            have hpt : (l.take n)[j] = p := by rw [List.getElem_take]; exact (List.getElem?_eq_some_iff.1 hp).2
            rw [List.drop_eq_getElem_cons hjt, hpt]
            unfold madeW
            rw [List.filterMap_cons]
            cases p.2.2 <;> simp⟩
          obtain ⟨s, nn, o⟩ := p
          simp only at HCELL HWJ
          have hj1 : ((j + 1 : Nat) : Int) - 1 = (j : Int) := by omega
          have hj0 : (0 : Int) ≤ (j : Int) := by omega
          have hwj : IntKind.i64.wrap ((j : Int) - 1) = (j : Int) - 1 := by rw [IntKind.wrap_i64]; have := HM20.out; have := HK.out; omega
          have hjd : decide ((0 : Int) ≤ (j : Int)) = true := decide_eq_true hj0
          have hjlt : j < n := by have := HLN.out; omega
          have hjlt' : (j : Int) < (n : Int) := by omega
          rw [hj1]
          clear hp hcell hf hjn hj1
          generalize hve : vOf e' = ve
          have HVE := Fact.mk hve
          clear hve
          have HI2 : Fact (In (wr.alloc (.cells #[.string s, .int .i64 nn.toInt, .bool o] 32)) wr.heap.size e') := ⟨HI.out.move (fun k hk => Below.heap_alloc _ _ _ hk)⟩
          cases o
          · go_wp2_with (first
              | (go_at_call 23; fail)
              | (refine wpList_ok rfl (exec_loadS (cs := #[.string s, .int .i64 nn.toInt, .bool false]) rfl rfl HCELL.out Tryd.underlying32 (hi3.out _ _ _)) ?_))
            rw [← HVE.out]
            refine (At_calls _ wr.heap.size s nn.toInt e' HI2.out (by simp)).mono ?_
            rintro ev w2 ⟨rfl, hin, hw2⟩
            have HB2 : Fact (Below w.heap.size w w2) := ⟨by rw [hw2]; exact (HB.out.alloc HB.out.size _).alloc (by have := HB.out.size; simp; omega) _⟩
            have HIN := hin
            have HSZ : Fact (w2.heap.size = wr.heap.size + 1 + 1) := ⟨by rw [hw2]; simp⟩
            clear hin hw2
            generalize hst : Ch.step (wr.alloc (.cells #[.string s, .int .i64 nn.toInt, .bool false] 32)).heap.size s nn.toInt e' = st at HIN ⊢
            have HN2 : Fact (numL st = baseL 0) := ⟨by rw [← hst]; exact HN.out⟩
            have HW2 : Fact (whereL st = madeW ((l.take n).drop j)) := ⟨by rw [HWJ.out, ← hst]; show s :: whereL e' = _; rw [HW.out]; rfl⟩
            clear hst
            generalize hvs : vOf st = vs
            have HVS := Fact.mk hvs
            clear hvs
            go_wp2_with fail
            go_roundg j
            case measure => omega
            case rel => exact ⟨st, HVS.out.symm, rfl, ⟨by have := HK.out; omega⟩, ⟨In.mono (by rw [HSZ.out]; simp) HIN.out⟩, HN2, HW2, HB2⟩
          · obtain ⟨tt, vv, hvv⟩ := vOf_iface e'
            rw [HVE.out] at hvv
            subst hvv
            go_wp2_with (refine wpList_ok rfl (exec_loadS (cs := #[.string s, .int .i64 nn.toInt, .bool true]) rfl rfl HCELL.out Tryd.underlying32 (hi3.out _ _ _)) ?_)
            go_roundg j
            case measure => omega
            case rel => exact ⟨.oth e', by rw [← HVE.out]; rfl, rfl, ⟨by have := HK.out; omega⟩, ⟨In.mono (by simp) (show In _ wr.heap.size (.oth e') from HI2.out)⟩, ⟨HN.out⟩, ⟨by rw [HWJ.out]; exact HW.out⟩, ⟨HB.out.alloc HB.out.size _⟩⟩
  · have kc : (code == 0) = false := by simpa using hc
    have HI0 : Fact (In w w.heap.size (.num code)) := ⟨trivial⟩
    have HN0 : Fact (numL (.num code) = baseL code) := ⟨by unfold baseL; rw [if_neg hc]; rfl⟩
    have HBZ := HB0
    clear hc
    go_enter Tryd.func20, Tryd.ntmps20
    go_wp2_with fail
    · have HM20 : Fact (20 ≤ 20) := ⟨by omega⟩
      have HMN : Fact (20 ≤ n) := ⟨by omega⟩
      have HTK : Fact (l.take 20 = l.take 20) := ⟨rfl⟩
      go_loopg [5, 6] 20 (fun kq s5 s6 wr => ∃ e' : Ch, s5 = vOf e' ∧ s6 = .int .i64 ((kq : Int) - 1) ∧ Fact (kq ≤ 20) ∧ Fact (In wr wr.heap.size e') ∧ Fact (numL e' = baseL code) ∧ Fact (whereL e' = madeW ((l.take 20).drop kq)) ∧ Fact (Below w.heap.size w wr))
      case atStart => exact ⟨.num code, rfl, rfl, ⟨Nat.le_refl _⟩, HI0, HN0, ⟨by rw [List.drop_of_length_le (by rw [List.length_take]; omega)]; rfl⟩, HBZ⟩
      case round =>
        obtain ⟨e', rfl, rfl, HK, HI, HN, HW, HB⟩ := hrel
        match gk, HK, HW with
        | 0, HK, HW =>
          generalize hve : vOf e' = ve
          have HVE := Fact.mk hve
          clear hve
          go_wp2_with fail
          go_ret
          exact ⟨e', by rw [HVE.out]; rfl, HI, HN, ⟨by rw [HW.out]; first | rfl | (rw [HTK.out]; rfl)⟩, HB.out⟩
        | j + 1, HK, HW =>
          have hjn : j < l.length := by have := HK.out; have := HMN.out; have := HLN.out; omega
          obtain ⟨p, hp⟩ : ∃ p, l[j]? = some p := ⟨_, List.getElem?_eq_getElem hjn⟩
          obtain ⟨ad, rfl, hf, hcell⟩ := place_at H.out hp
          have HCELL : Fact (∀ (i : Nat) v, (#[Value.string p.1, .int .i64 p.2.1.toInt, .bool p.2.2] : Array Value).toList[i]? = some v → wr.cell? ((ad.add (j * 3)).add i) = some v) := ⟨fun i v hv => (cell_same (by rw [block_add, block_add]; exact HB.out.block _ (HF.out _ hf))).trans (hcell i v hv)⟩
          have HWJ : Fact (madeW ((l.take 20).drop j) = (if p.2.2 then [] else [p.1]) ++ madeW ((l.take 20).drop (j + 1))) := ⟨by
            have hjt : j < (l.take 20).length := by rw [List.length_take]; have := HK.out; omega
            have hpt : (l.take 20)[j] = p := by rw [List.getElem_take]; exact (List.getElem?_eq_some_iff.1 hp).2
            rw [List.drop_eq_getElem_cons hjt, hpt]
            unfold madeW
            rw [List.filterMap_cons]
            cases p.2.2 <;> simp⟩
          obtain ⟨s, nn, o⟩ := p
          simp only at HCELL HWJ
          have hj1 : ((j + 1 : Nat) : Int) - 1 = (j : Int) := by omega
          have hj0 : (0 : Int) ≤ (j : Int) := by omega
          have hwj : IntKind.i64.wrap ((j : Int) - 1) = (j : Int) - 1 := by rw [IntKind.wrap_i64]; have := HM20.out; have := HK.out; omega
          have hjd : decide ((0 : Int) ≤ (j : Int)) = true := decide_eq_true hj0
          have hjlt : j < n := by have := HLN.out; omega
          have hjlt' : (j : Int) < (n : Int) := by omega
          rw [hj1]
          clear hp hcell hf hjn hj1
          generalize hve : vOf e' = ve
          have HVE := Fact.mk hve
          clear hve
          have HI2 : Fact (In (wr.alloc (.cells #[.string s, .int .i64 nn.toInt, .bool o] 32)) wr.heap.size e') := ⟨HI.out.move (fun k hk => Below.heap_alloc _ _ _ hk)⟩
          cases o
          · go_wp2_with (first
              | (go_at_call 23; fail)
              | (refine wpList_ok rfl (exec_loadS (cs := #[.string s, .int .i64 nn.toInt, .bool false]) rfl rfl HCELL.out Tryd.underlying32 (hi3.out _ _ _)) ?_))
            rw [← HVE.out]
            refine (At_calls _ wr.heap.size s nn.toInt e' HI2.out (by simp)).mono ?_
            rintro ev w2 ⟨rfl, hin, hw2⟩
            have HB2 : Fact (Below w.heap.size w w2) := ⟨by rw [hw2]; exact (HB.out.alloc HB.out.size _).alloc (by have := HB.out.size; simp; omega) _⟩
            have HIN := hin
            have HSZ : Fact (w2.heap.size = wr.heap.size + 1 + 1) := ⟨by rw [hw2]; simp⟩
            clear hin hw2
            generalize hst : Ch.step (wr.alloc (.cells #[.string s, .int .i64 nn.toInt, .bool false] 32)).heap.size s nn.toInt e' = st at HIN ⊢
            have HN2 : Fact (numL st = baseL code) := ⟨by rw [← hst]; exact HN.out⟩
            have HW2 : Fact (whereL st = madeW ((l.take 20).drop j)) := ⟨by rw [HWJ.out, ← hst]; show s :: whereL e' = _; rw [HW.out]; rfl⟩
            clear hst
            generalize hvs : vOf st = vs
            have HVS := Fact.mk hvs
            clear hvs
            go_wp2_with fail
            go_roundg j
            case measure => omega
            case rel => exact ⟨st, HVS.out.symm, rfl, ⟨by have := HK.out; omega⟩, ⟨In.mono (by rw [HSZ.out]; simp) HIN.out⟩, HN2, HW2, HB2⟩
          · obtain ⟨tt, vv, hvv⟩ := vOf_iface e'
            rw [HVE.out] at hvv
            subst hvv
            go_wp2_with (refine wpList_ok rfl (exec_loadS (cs := #[.string s, .int .i64 nn.toInt, .bool true]) rfl rfl HCELL.out Tryd.underlying32 (hi3.out _ _ _)) ?_)
            go_roundg j
            case measure => omega
            case rel => exact ⟨.oth e', by rw [← HVE.out]; rfl, rfl, ⟨by have := HK.out; omega⟩, ⟨In.mono (by simp) (show In _ wr.heap.size (.oth e') from HI2.out)⟩, ⟨HN.out⟩, ⟨by rw [HWJ.out]; exact HW.out⟩, ⟨HB.out.alloc HB.out.size _⟩⟩
    · have HM20 : Fact (n ≤ 20) := ⟨by omega⟩
      have HMN : Fact (n ≤ n) := ⟨by omega⟩
      have HTK : Fact (l.take 20 = l.take n) := ⟨by rw [List.take_of_length_le (by have := HLN.out; omega), List.take_of_length_le (by have := HLN.out; omega)]⟩
      go_loopg [5, 6] n (fun kq s5 s6 wr => ∃ e' : Ch, s5 = vOf e' ∧ s6 = .int .i64 ((kq : Int) - 1) ∧ Fact (kq ≤ n) ∧ Fact (In wr wr.heap.size e') ∧ Fact (numL e' = baseL code) ∧ Fact (whereL e' = madeW ((l.take n).drop kq)) ∧ Fact (Below w.heap.size w wr))
      case atStart => exact ⟨.num code, rfl, rfl, ⟨Nat.le_refl _⟩, HI0, HN0, ⟨by rw [List.drop_of_length_le (by rw [List.length_take]; omega)]; rfl⟩, HBZ⟩
      case round =>
        obtain ⟨e', rfl, rfl, HK, HI, HN, HW, HB⟩ := hrel
        match gk, HK, HW with
        | 0, HK, HW =>
          generalize hve : vOf e' = ve
          have HVE := Fact.mk hve
          clear hve
          go_wp2_with fail
          go_ret
          exact ⟨e', by rw [HVE.out]; rfl, HI, HN, ⟨by rw [HW.out]; first | rfl | (rw [HTK.out]; rfl)⟩, HB.out⟩
        | j + 1, HK, HW =>
          have hjn : j < l.length := by have := HK.out; have := HMN.out; have := HLN.out; omega
          obtain ⟨p, hp⟩ : ∃ p, l[j]? = some p := ⟨_, List.getElem?_eq_getElem hjn⟩
          obtain ⟨ad, rfl, hf, hcell⟩ := place_at H.out hp
          have HCELL : Fact (∀ (i : Nat) v, (#[Value.string p.1, .int .i64 p.2.1.toInt, .bool p.2.2] : Array Value).toList[i]? = some v → wr.cell? ((ad.add (j * 3)).add i) = some v) := ⟨fun i v hv => (cell_same (by rw [block_add, block_add]; exact HB.out.block _ (HF.out _ hf))).trans (hcell i v hv)⟩
          have HWJ : Fact (madeW ((l.take n).drop j) = (if p.2.2 then [] else [p.1]) ++ madeW ((l.take n).drop (j + 1))) := ⟨by
            have hjt : j < (l.take n).length := by rw [List.length_take]; have := HK.out; omega
            have hpt : (l.take n)[j] = p := by rw [List.getElem_take]; exact (List.getElem?_eq_some_iff.1 hp).2
            rw [List.drop_eq_getElem_cons hjt, hpt]
            unfold madeW
            rw [List.filterMap_cons]
            cases p.2.2 <;> simp⟩
          obtain ⟨s, nn, o⟩ := p
          simp only at HCELL HWJ
          have hj1 : ((j + 1 : Nat) : Int) - 1 = (j : Int) := by omega
          have hj0 : (0 : Int) ≤ (j : Int) := by omega
          have hwj : IntKind.i64.wrap ((j : Int) - 1) = (j : Int) - 1 := by rw [IntKind.wrap_i64]; have := HM20.out; have := HK.out; omega
          have hjd : decide ((0 : Int) ≤ (j : Int)) = true := decide_eq_true hj0
          have hjlt : j < n := by have := HLN.out; omega
          have hjlt' : (j : Int) < (n : Int) := by omega
          rw [hj1]
          clear hp hcell hf hjn hj1
          generalize hve : vOf e' = ve
          have HVE := Fact.mk hve
          clear hve
          have HI2 : Fact (In (wr.alloc (.cells #[.string s, .int .i64 nn.toInt, .bool o] 32)) wr.heap.size e') := ⟨HI.out.move (fun k hk => Below.heap_alloc _ _ _ hk)⟩
          cases o
          · go_wp2_with (first
              | (go_at_call 23; fail)
              | (refine wpList_ok rfl (exec_loadS (cs := #[.string s, .int .i64 nn.toInt, .bool false]) rfl rfl HCELL.out Tryd.underlying32 (hi3.out _ _ _)) ?_))
            rw [← HVE.out]
            refine (At_calls _ wr.heap.size s nn.toInt e' HI2.out (by simp)).mono ?_
            rintro ev w2 ⟨rfl, hin, hw2⟩
            have HB2 : Fact (Below w.heap.size w w2) := ⟨by rw [hw2]; exact (HB.out.alloc HB.out.size _).alloc (by have := HB.out.size; simp; omega) _⟩
            have HIN := hin
            have HSZ : Fact (w2.heap.size = wr.heap.size + 1 + 1) := ⟨by rw [hw2]; simp⟩
            clear hin hw2
            generalize hst : Ch.step (wr.alloc (.cells #[.string s, .int .i64 nn.toInt, .bool false] 32)).heap.size s nn.toInt e' = st at HIN ⊢
            have HN2 : Fact (numL st = baseL code) := ⟨by rw [← hst]; exact HN.out⟩
            have HW2 : Fact (whereL st = madeW ((l.take n).drop j)) := ⟨by rw [HWJ.out, ← hst]; show s :: whereL e' = _; rw [HW.out]; rfl⟩
            clear hst
            generalize hvs : vOf st = vs
            have HVS := Fact.mk hvs
            clear hvs
            go_wp2_with fail
            go_roundg j
            case measure => omega
            case rel => exact ⟨st, HVS.out.symm, rfl, ⟨by have := HK.out; omega⟩, ⟨In.mono (by rw [HSZ.out]; simp) HIN.out⟩, HN2, HW2, HB2⟩
          · obtain ⟨tt, vv, hvv⟩ := vOf_iface e'
            rw [HVE.out] at hvv
            subst hvv
            go_wp2_with (refine wpList_ok rfl (exec_loadS (cs := #[.string s, .int .i64 nn.toInt, .bool true]) rfl rfl HCELL.out Tryd.underlying32 (hi3.out _ _ _)) ?_)
            go_roundg j
            case measure => omega
            case rel => exact ⟨.oth e', by rw [← HVE.out]; rfl, rfl, ⟨by have := HK.out; omega⟩, ⟨In.mono (by simp) (show In _ wr.heap.size (.oth e') from HI2.out)⟩, ⟨HN.out⟩, ⟨by rw [HWJ.out]; exact HW.out⟩, ⟨HB.out.alloc HB.out.size _⟩⟩
end Go.Proofs.YtkmcjokoinoahaaDoor.FaultG
