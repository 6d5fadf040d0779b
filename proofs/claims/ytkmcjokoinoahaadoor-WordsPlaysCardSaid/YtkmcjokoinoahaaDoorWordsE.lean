/- words' Put, Has, Cut at any number; an act's number; a list of acts. -/
import Derived.Test.YtkmcjokoinoahaaDoorWordsD
import Derived.Deep.WholeRow
import Derived.Deep.Cut
set_option linter.unusedVariables false
set_option linter.unusedSimpArgs false
namespace Go.Proofs.YtkmcjokoinoahaaDoor.WordsE
open Go.RowKit Go.Proofs.YtkmcjokoinoahaaDoor.Lib Go.Proofs.YtkmcjokoinoahaaDoor.LibB Go.Proofs.YtkmcjokoinoahaaDoor.PlainS Go.Proofs.YtkmcjokoinoahaaDoor.WordsA Go.Proofs.YtkmcjokoinoahaaDoor.WordsB Go.Proofs.YtkmcjokoinoahaaDoor.PlainW Go.Proofs.YtkmcjokoinoahaaDoor.WordsC Go.Proofs.YtkmcjokoinoahaaDoor.WordsD Go.Maps
open Go.Proofs.YtkmcjokoinoahaaDoor.KeysU (natKeys)
def memB (D : DataW Unit) (n : Nat) : Bool := decide (1 ≤ n) && hasB D n
def newB (D : DataW Unit) (n : Nat) : Bool := decide (1 ≤ n) && !hasB D n
def putD (D : DataW Unit) (n : Nat) : DataW Unit := if newB D n = true then D.put (.int .u64 (((n - 1) / 64 : Nat) : Int)) (.lit (.int .u64 ((wd D ((n - 1) / 64) ||| 2 ^ ((n - 1) % 64) : Nat) : Int))) else D
def delD (D : DataW Unit) (n : Nat) : DataW Unit := if memB D n = true then cutD D ((n - 1) / 64) (clr (wd D ((n - 1) / 64)) ((n - 1) % 64)) else D
theorem Ws.wdlt {w : World} {pb mb N : Nat} {D : DataW Unit} (h : Ws w pb mb N D) {n : Nat} (hn2 : n < 18446744073709551616) : wd D ((n - 1) / 64) < 18446744073709551616 := (h.look (by omega)).2.1
theorem turned_quiet {w w' : World} {mb : Nat} (h : ∃ q, w' = w.drewN q) : Turned w w' mb := by
  obtain ⟨q, rfl⟩ := h
  exact turned_drew q
theorem Turned.move {w w' : World} {mb B : Nat} {w0 : World} (h : Turned w w' mb) (h0 : Below B w0 w) (h1 : B ≤ mb) (h2 : B ≤ w.heap.size) : Below B w0 w' := h0.trans (h.lo h1 h2)
theorem Has_zero (w : World) (pb : Nat) : Calls Tryd.prog 50 #[.pointer (some ⟨pb, 0, none⟩), .int .u64 0] w fun e w' => e = .returned (.bool false) ∧ ∃ q, w' = w.drewN q := by
  go_enter Tryd.func50, Tryd.ntmps50
  go_wp2_with (go_at_call 73; fail)
  go_ret
  exact ⟨rfl, 0, rfl⟩
theorem Has_all (w : World) (pb mb N : Nat) (D : DataW Unit) (n : Nat) (h : Ws w pb mb N D) (hn2 : n < 18446744073709551616) : Calls Tryd.prog 50 #[.pointer (some ⟨pb, 0, none⟩), .int .u64 (n : Int)] w fun e w' => e = .returned (.bool (memB D n)) ∧ ∃ q, w' = w.drewN q := by
  rcases Nat.eq_zero_or_pos n with rfl | hn
  · exact Has_zero w pb
  · have e : memB D n = hasB D n := by unfold memB; simp; intro h; omega
    rw [e]
    exact Has_calls w pb mb N D n h hn hn2
theorem Put_zero (w : World) (pb : Nat) : Calls Tryd.prog 46 #[.pointer (some ⟨pb, 0, none⟩), .int .u64 0] w fun e w' => e = .returned (.bool false) ∧ ∃ q, w' = w.drewN q := by
  go_enter Tryd.func46, Tryd.ntmps46
  go_wp2_with (go_at_call 50; fail)
  go_ret
  exact ⟨rfl, 0, rfl⟩
theorem Put_all (w : World) (pb mb N : Nat) (D : DataW Unit) (n : Nat) (h : Ws w pb mb N D) (hn2 : n < 18446744073709551616) (hN : N ≤ 4294967296) : Calls Tryd.prog 46 #[.pointer (some ⟨pb, 0, none⟩), .int .u64 (n : Int)] w fun e w' => e = .returned (.bool (newB D n)) ∧ ∃ N', N' ≤ N + 1 ∧ Fact (Ws w' pb mb N' (putD D n)) ∧ Turned w w' mb := by
  rcases Nat.eq_zero_or_pos n with rfl | hn
  · refine (Put_zero w pb).mono ?_
    rintro e w' ⟨rfl, hq⟩
    exact ⟨rfl, N, Nat.le_succ _, ⟨h.quiet hq⟩, turned_quiet hq⟩
  · unfold putD
    cases hh : hasB D n with
    | false =>
      have e : newB D n = true := by unfold newB; simp [hh]; omega
      rw [e, if_pos rfl]
      refine (Put_new w pb mb N D n h hn hn2 hN hh).mono ?_
      rintro e w' ⟨rfl, h1, h2⟩
      exact ⟨rfl, N + 1, Nat.le_refl _, h1, h2⟩
    | true =>
      have e : newB D n = false := by unfold newB; simp [hh]
      rw [e, if_neg (by decide)]
      refine (Put_old w pb mb N D n h hn hn2 hh).mono ?_
      rintro e w' ⟨rfl, hq⟩
      exact ⟨rfl, N, Nat.le_succ _, ⟨h.quiet hq⟩, turned_quiet hq⟩
theorem Cut_not (w : World) (pb mb N : Nat) (D : DataW Unit) (n : Nat) (h : Ws w pb mb N D) (hn2 : n < 18446744073709551616) (hm : memB D n = false) : Calls Tryd.prog 54 #[.pointer (some ⟨pb, 0, none⟩), .int .u64 (n : Int)] w fun e w' => e = .returned (.bool false) ∧ ∃ q, w' = w.drewN q := by
  have HC := Has_all w pb mb N D n h hn2
  rw [hm] at HC
  have H := Fact.mk HC
  clear HC h
  go_enter Tryd.func54, Tryd.ntmps54
  go_wp2_with (go_at_call 50; refine H.out.mono ?_; rintro e w1 ⟨rfl, hw⟩)
  go_ret
  exact ⟨rfl, hw⟩
theorem Cut_all (w : World) (pb mb N : Nat) (D : DataW Unit) (n : Nat) (h : Ws w pb mb N D) (hn2 : n < 18446744073709551616) (hN : N ≤ 4294967296) : Calls Tryd.prog 54 #[.pointer (some ⟨pb, 0, none⟩), .int .u64 (n : Int)] w fun e w' => e = .returned (.bool (memB D n)) ∧ ∃ N', N' ≤ N + 1 ∧ Fact (Ws w' pb mb N' (delD D n)) ∧ Turned w w' mb := by
  unfold delD
  cases hm : memB D n with
  | false =>
    rw [if_neg (by decide)]
    refine (Cut_not w pb mb N D n h hn2 hm).mono ?_
    rintro e w' ⟨rfl, hq⟩
    exact ⟨rfl, N, Nat.le_succ _, ⟨h.quiet hq⟩, turned_quiet hq⟩
  | true =>
    have hm2 : 1 ≤ n ∧ hasB D n = true := by unfold memB at hm; simpa using hm
    rw [if_pos rfl]
    refine (Cut_has w pb mb N D n h hm2.1 hn2 hN hm2.2).mono ?_
    rintro e w' ⟨rfl, h1, h2⟩
    exact ⟨rfl, N + 1, Nat.le_refl _, h1, h2⟩
theorem inv_put {w : World} {pb mb N : Nat} {D : DataW Unit} {n : Nat} (h : Ws w pb mb N D) (hi : WInv D) (hn2 : n < 18446744073709551616) : WInv (putD D n) := by
  unfold putD
  split
  · rename_i hb
    have hn : 1 ≤ n := by unfold newB at hb; simp at hb; omega
    exact hi.putN hn hn2 (Ws.wdlt h hn2)
  · exact hi
theorem inv_del {w : World} {pb mb N : Nat} {D : DataW Unit} {n : Nat} (h : Ws w pb mb N D) (hi : WInv D) (hn2 : n < 18446744073709551616) : WInv (delD D n) := by
  unfold delD
  split
  · rename_i hb
    have hn : 1 ≤ n := by unfold memB at hb; simp at hb; omega
    exact hi.cutN hn hn2 (Ws.wdlt h hn2)
  · exact hi
theorem mem_put {D : DataW Unit} (hi : WInv D) {n m : Nat} (hm : 1 ≤ m) : hasB (putD D n) m = (decide (m = n) || hasB D m) := by
  unfold putD
  split
  · rename_i hb
    have hn : 1 ≤ n := by unfold newB at hb; simp at hb; omega
    exact hasB_put hi.is hn hm
  · rename_i hb
    by_cases e : m = n
    · subst e
      unfold newB at hb
      simp at hb
      simp [hb (by omega)]
    · simp [e]
theorem mem_del {w : World} {pb mb N : Nat} {D : DataW Unit} (h : Ws w pb mb N D) (hi : WInv D) {n m : Nat} (hn2 : n < 18446744073709551616) (hm : 1 ≤ m) : hasB (delD D n) m = (!decide (m = n) && hasB D m) := by
  unfold delD
  split
  · rename_i hb
    have hn : 1 ≤ n := by unfold memB at hb; simp at hb; omega
    exact hasB_cut hi.is hn hm (Ws.wdlt h hn2)
  · rename_i hb
    by_cases e : m = n
    · subst e
      unfold memB at hb
      simp at hb
      simp [hb (by omega)]
    · simp [e]
/-- Who is in 'All'. -/
theorem mem_allL {w : World} {pb mb N : Nat} {D : DataW Unit} (h : Ws w pb mb N D) (hi : WInv D) (n : Nat) : n ∈ allL D ↔ 1 ≤ n ∧ n < 18446744073709551616 ∧ hasB D n = true := by
  obtain ⟨hk1, hk2, hk3, hk4⟩ := Ws.keys h
  unfold allL
  rw [mem_allK]
  constructor
  · rintro ⟨k, hk, b, hb, ht, rfl⟩
    have hs := hi.key hk2 hk hk3
    have hlt : 64 * k + b + 1 < 18446744073709551616 := by
      rcases Nat.lt_or_ge k 288230376151711743 with h1 | h1
      · omega
      · have : k = 288230376151711743 := by omega
        subst this
        have : b ≠ 63 := by
          intro e
          subst e
          rw [hi.top] at ht
          cases ht
        omega
    refine ⟨by omega, hlt, ?_⟩
    unfold hasB
    rw [show (64 * k + b + 1 - 1) / 64 = k by omega, show (64 * k + b + 1 - 1) % 64 = b by omega]
    exact ht
  · rintro ⟨h1, h2, h3⟩
    unfold hasB at h3
    refine ⟨(n - 1) / 64, ?_, (n - 1) % 64, by omega, h3, by omega⟩
    have hne : wd D ((n - 1) / 64) ≠ 0 := by
      intro e
      rw [e] at h3
      simp at h3
    unfold keysL
    rw [List.mem_mergeSort]
    exact (hk3 _ (by omega)).2 ((hi.nz _ (by omega)).2 hne)
theorem allL_sorted {w : World} {pb mb N : Nat} {D : DataW Unit} (h : Ws w pb mb N D) : (allL D).Pairwise (· < ·) := allK_sorted D (keysL_sorted (Ws.keys h).1)
/-! Acts. -/
def zAc : Array Value := #[.int .u8 0, .int .u64 0, .bool false]
theorem alloc_ac (W : World) : (Instr.alloc 91 true (.tuple #[])).run Tryd.prog W = .ok (.pointer (some ⟨W.heap.size, 0, none⟩)) (W.alloc (.cells zAc 91)) := by kernel_rfl
theorem exec_alloc {P : Program} {o : Oper} {a : Act} {w : World} {t : TypeId} {z : Array Value} (ho : o.op = .alloc t) (h : (Instr.alloc t true (.tuple #[])).run P w = .ok (.pointer (some ⟨w.heap.size, 0, none⟩)) (w.alloc (.cells z t))) : (execOp a.eval o).run P w = .ok (.value (.pointer (some ⟨w.heap.size, 0, none⟩))) (w.alloc (.cells z t)) := by
  unfold execOp
  rw [ho]
  show ((Instr.alloc t true (.tuple #[])) >>= _).run P w = _
  rw [Sem.run_bind, h]
  rfl
theorem acA_one (a : UInt8 × UInt64 × Bool) : ((#[.int .u8 (a.1.toNat : Int), .int .u64 (a.2.1.toNat : Int), .bool a.2.2] : Array Value).all (·.oneCell') = true) := by simp [Value.oneCell']
def acA (a : UInt8 × UInt64 × Bool) : Array Value := #[.int .u8 (a.1.toNat : Int), .int .u64 (a.2.1.toNat : Int), .bool a.2.2]
def rAc : Rep (UInt8 × UInt64 × Bool) := Rep.pair rU8 (Rep.pair rU64 rBool)
/-- An act's number. -/
def numN (a : UInt8 × UInt64 × Bool) : Nat := if a.2.2 then a.2.1.toNat else a.2.1.toNat % 200
theorem numN_lt (a : UInt8 × UInt64 × Bool) : numN a < 18446744073709551616 := by
  unfold numN
  have := a.2.1.toNat_lt
  split <;> omega
theorem act_info (a : UInt8 × UInt64 × Bool) : (Tryd.prog.info? 91).map (·.size) = some (acA a).size := by rw [show (acA a).size = 3 from rfl]; kernel_rfl
theorem act_at {w : World} {F : Nat → Prop} {A : Option Addr} {n c : Nat} {l : List (UInt8 × UInt64 × Bool)} (h : Sl rAc w F A n c l) {k : Nat} {p : UInt8 × UInt64 × Bool} (hk : l[k]? = some p) : ∃ ad, A = some ad ∧ F ad.block ∧ ∀ (j : Nat) v, (acA p).toList[j]? = some v → w.cell? ((ad.add (k * 3)).add j) = some v := by
  obtain ⟨ad, cs, e, hf, hK, hcell⟩ := h.at_ hk
  obtain ⟨c1, c2, rfl, h1, c3, c4, rfl, h3, h4⟩ := hK
  have h1' : c1 = [.int .u8 (p.1.toNat : Int)] := h1
  have h3' : c3 = [.int .u64 (p.2.1.toNat : Int)] := h3
  have h4' : c4 = [.bool p.2.2] := h4
  subst h1' h3' h4'
  refine ⟨ad, e, hf, fun j v hj => ?_⟩
  rw [add_add']
  exact hcell j v (by simpa [acA] using hj)
theorem exec_loadS {P : Program} {o : Oper} {a : Act} {w : World} {ty : TypeId} {x : Operand} {ad : Addr} {cs : Array Value} {fs : Array Field} (ho : o.op = .load ty x) (hx : a.eval x = .pointer (some ad)) (hc : ∀ (j : Nat) v, cs.toList[j]? = some v → w.cell? (ad.add j) = some v)
    (hu : P.underlying ty = some (.struct fs)) (hi : (P.info? ty).map (·.size) = some cs.size) : (execOp a.eval o).run P w = .ok (.value (.agg cs)) w := by
  have hl : (loadCells ad cs.toList.length).run P w = .ok cs.toList.toArray w := run_loadCells_list (P := P) w ad cs.toList hc
  cases hq : P.info? ty with
  | none => simp [hq] at hi
  | some i =>
    have hs : i.size = cs.size := by simpa [hq] using hi
    have hagg : (isAgg ty).run P w = .ok true w := by
      unfold isAgg
      rw [Sem.run_bind, run_underlying hu w]
      simp
    have hlv : (loadVar ty ad).run P w = .ok (.agg cs) w := by
      have hl' : (loadCells ad cs.size).run P w = .ok cs w := by simpa using hl
      simp [loadVar, Sem.run_bind, hagg, sizeOf, typeInfo, hq, hs, hl']
    unfold execOp
    simp only [ho, hx, Instr.loadAt, Instr.sureAddr, Sem.run_bind, Sem.run_pure, Result.andThen_ok, hlv]
set_option maxHeartbeats 1000000 in
set_option maxRecDepth 100000 in
theorem num_calls (w : World) (a : UInt8 × UInt64 × Bool) : Calls Tryd.prog 47 #[.agg (acA a)] w fun e w' => e = .returned (.int .u64 (numN a : Int)) ∧ Below w.heap.size w w' := by
  obtain ⟨kd, n, raw⟩ := a
  have hr : (w.alloc (.cells (acA (kd, n, raw)) 91)).heap[w.heap.size]? = some (.cells (acA (kd, n, raw)) 91 (0, 0)) := heap_alloc_new _ _
  have c1 := SortA.rowc hr (j := 1) (v := .int .u64 (n.toNat : Int)) rfl
  have c2 := SortA.rowc hr (j := 2) (v := .bool raw) rfl
  have HB : Fact (Below w.heap.size w (w.alloc (.cells (acA (kd, n, raw)) 91))) := ⟨(Below.refl _ _).alloc (Nat.le_refl _) _⟩
  have hm : ((n.toNat : Int)).tmod 200 = ((n.toNat % 200 : Nat) : Int) := by rw [Int.tmod_eq_emod_of_nonneg (by omega)]; omega
  have hm2 : (n.toNat : Int) % 200 = ((n.toNat % 200 : Nat) : Int) := by omega
  obtain ⟨z, hz⟩ : ∃ z, n.toNat % 200 = z := ⟨_, rfl⟩
  rw [hz] at hm hm2
  have hv : numN (kd, n, raw) = if raw then n.toNat else z := by unfold numN; rw [hz]
  rw [hv]
  clear hr hz hv
  generalize acA (kd, n, raw) = ca at c1 c2 HB ⊢
  cases raw with
  | true =>
    go_enter Tryd.func47, Tryd.ntmps47
    go_wp2
    go_ret
    exact ⟨rfl, HB.out⟩
  | false =>
    go_enter Tryd.func47, Tryd.ntmps47
    go_wp2
    go_ret
    exact ⟨rfl, HB.out⟩
end Go.Proofs.YtkmcjokoinoahaaDoor.WordsE
