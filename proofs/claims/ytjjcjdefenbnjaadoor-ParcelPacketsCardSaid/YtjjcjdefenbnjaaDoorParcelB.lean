/- Packets, answers, headers are written: contracts over any world. -/
import Derived.Test.YtjjcjdefenbnjaaDoorParcelA
set_option linter.unusedVariables false
set_option linter.unusedSimpArgs false
namespace Go.Proofs.YtjjcjdefenbnjaaDoor.ParcelB
open Go.RowKit Go.Proofs.YtjjcjdefenbnjaaDoor.Lib Go.Proofs.YtjjcjdefenbnjaaDoor.Reg Go.Proofs.YtjjcjdefenbnjaaDoor.TlvA Go.Proofs.YtjjcjdefenbnjaaDoor.TlvF Go.Proofs.YtjjcjdefenbnjaaDoor.TlvI Go.Proofs.YtjjcjdefenbnjaaDoor.PlainP Go.Proofs.YtjjcjdefenbnjaaDoor.LawOne Go.Proofs.YtjjcjdefenbnjaaDoor.DenomA Go.Proofs.YtjjcjdefenbnjaaDoor.ParcelA

/-- A packet's cells. -/
def pkC (p : Pk) : Array Value := #[.int .i64 (p.ch : Int), .int .u64 (p.seq : Int), .int .u64 (p.tmo : Int), .string (S p.den), .int .u64 (p.amt : Int), .string (S p.frm), .string (S p.to)]
theorem Wr.new {w : World} {e : TypeId} : Wr (w.alloc (.cells #[.slice none 0 0, .int .i64 0] e)) w.heap.size [] := by
  refine ⟨by simp, none, 0, ?_, ?_, ?_, ?_, Sl.nil _ _ _ _ _ (by omega)⟩ <;> simp
/-- What a slice of the call's own says. -/
def Out (w w' : World) (A : Option Addr) (c : Nat) (l : List UInt8) : Prop := Sl rU8 w' (fun k => w.heap.size ≤ k ∧ k < w'.heap.size) A l.length c l
theorem Out.mk' {w w' : World} {A : Option Addr} {c pb : Nat} {l : List UInt8} (h : Sl rU8 w' (fun k => pb < k ∧ k < w'.heap.size) A l.length c l) (hp : w.heap.size ≤ pb) (q : Nat) : Out w (w'.drewN q) A c l := by
  unfold Out
  exact (h.move (w' := w'.drewN q) (Same.drewN (Same.refl _ _) q)).mono (fun k hk => ⟨by omega, hk.2⟩)
set_option maxHeartbeats 4000000 in
set_option maxRecDepth 100000 in
theorem Packet_bad (w : World) (p : Pk) (ch : Int) (h : ch < 0 ∨ 4 ≤ ch) : Calls Tryd.prog 14 #[.agg #[.int .i64 ch, .int .u64 (p.seq : Int), .int .u64 (p.tmo : Int), .string (S p.den), .int .u64 (p.amt : Int), .string (S p.frm), .string (S p.to)]] w fun e w' => e = .returned (.tuple #[.slice none 0 0, .int .i64 2]) ∧ Below w.heap.size w w' := by
  by_cases h0 : ch < 0
  · have k0 : decide (ch < 0) = true := decide_eq_true h0
    clear h h0
    go_enter Tryd.func14, Tryd.ntmps14
    go_wp2_with fail
    go_ret2
    exact ⟨rfl, (Below.refl _ _).alloc (Nat.le_refl _) _⟩
  · have k0 : decide (ch < 0) = false := decide_eq_false h0
    have k1 : decide (4 ≤ ch) = true := decide_eq_true (by omega)
    clear h h0
    go_enter Tryd.func14, Tryd.ntmps14
    go_wp2_with fail
    go_ret2
    exact ⟨rfl, (Below.refl _ _).alloc (Nat.le_refl _) _⟩
set_option maxHeartbeats 8000000 in
set_option maxRecDepth 100000 in
theorem Packet_calls (w : World) (p : Pk) (hp : p.ok) : Calls Tryd.prog 14 #[.agg (pkC p)] w fun e w' => ∃ A c, e = .returned (.tuple #[.slice A (pkL p).length c, .int .i64 0]) ∧ Fact (Out w w' A c (pkL p)) ∧ Below w.heap.size w w' := by
  have hch := hp.ch
  have HP := Fact.mk hp
  have k0 : decide ((p.ch : Int) < 0) = false := decide_eq_false (by omega)
  have k1 : decide (4 ≤ (p.ch : Int)) = false := decide_eq_false (by omega)
  have k2 : IntKind.u64.wrap (p.ch : Int) = (p.ch : Int) := by rw [IntKind.wrap_u64]; omega
  have HCH := Fact.mk hch
  clear hp hch
  obtain ⟨bw4, cv4, hb4, hs4, hB4, hS4⟩ := conv_bytes p.den (by have := HP.out.den; omega)
  obtain ⟨bw6, cv6, hb6, hs6, hB6, hS6⟩ := conv_bytes p.frm (by have := HP.out.frm; omega)
  obtain ⟨bw7, cv7, hb7, hs7, hB7, hS7⟩ := conv_bytes p.to (by have := HP.out.to; omega)
  have HB4' := Fact.mk hB4
  have HS4' := Fact.mk hS4
  have HB6' := Fact.mk hB6
  have HS6' := Fact.mk hS6
  have HB7' := Fact.mk hB7
  have HS7' := Fact.mk hS7
  clear hB4 hS4 hB6 hS6 hB7 hS7
  unfold pkC
  have HC0 : Fact (∀ (j : Nat) v, (pkC p)[j]? = some v → ((w.alloc (.cells (pkC p) 36)).alloc (.cells #[.slice none 0 0, .int .i64 0] 59)).cell? ⟨w.heap.size, j, none⟩ = some v) := ⟨fun j v hj => by
    rw [World.cell?_alloc_lt _ _ _ (by simp)]
    simpa [World.cell?, World.alloc, -World.alloc_eq] using hj⟩
  have HW0 : Fact (Wr ((w.alloc (.cells (pkC p) 36)).alloc (.cells #[.slice none 0 0, .int .i64 0] 59)) (w.heap.size + 1) []) := ⟨by have := Wr.new (w := w.alloc (.cells (pkC p) 36)) (e := 59); simpa using this⟩
  have HB0 : Fact (Below w.heap.size w ((w.alloc (.cells (pkC p) 36)).alloc (.cells #[.slice none 0 0, .int .i64 0] 59))) := ⟨((Below.refl _ _).alloc (Nat.le_refl _) _).alloc (by simp) _⟩
  have n1 := num_len p.ch
  have n2 := num_len p.seq
  have n3 := num_len p.tmo
  have n5 := num_len p.amt
  have q1 := putL_len [] 1 (numL p.ch)
  have q2 := putL_len (putL [] 1 (numL p.ch)) 2 (numL p.seq)
  have q3 := putL_len (putL (putL [] 1 (numL p.ch)) 2 (numL p.seq)) 3 (numL p.tmo)
  have q4 := putL_len (putL (putL (putL [] 1 (numL p.ch)) 2 (numL p.seq)) 3 (numL p.tmo)) 4 p.den
  have q5 := putL_len (putL (putL (putL (putL [] 1 (numL p.ch)) 2 (numL p.seq)) 3 (numL p.tmo)) 4 p.den) 5 (numL p.amt)
  have q6 := putL_len (putL (putL (putL (putL (putL [] 1 (numL p.ch)) 2 (numL p.seq)) 3 (numL p.tmo)) 4 p.den) 5 (numL p.amt)) 6 p.frm
  have dn := HP.out.den
  have fr := HP.out.frm
  simp only [List.length_nil] at q1
  have HLEN : Fact ((putL [] 1 (numL p.ch)).length ≤ 1000000 ∧ (putL (putL [] 1 (numL p.ch)) 2 (numL p.seq)).length ≤ 1000000 ∧ (putL (putL (putL [] 1 (numL p.ch)) 2 (numL p.seq)) 3 (numL p.tmo)).length ≤ 1000000 ∧ (putL (putL (putL (putL [] 1 (numL p.ch)) 2 (numL p.seq)) 3 (numL p.tmo)) 4 p.den).length ≤ 1000000 ∧ (putL (putL (putL (putL (putL [] 1 (numL p.ch)) 2 (numL p.seq)) 3 (numL p.tmo)) 4 p.den) 5 (numL p.amt)).length ≤ 1000000 ∧ (putL (putL (putL (putL (putL (putL [] 1 (numL p.ch)) 2 (numL p.seq)) 3 (numL p.tmo)) 4 p.den) 5 (numL p.amt)) 6 p.frm).length ≤ 1000000) := ⟨by omega⟩
  clear n1 n2 n3 n5 q1 q2 q3 q4 q5 q6 dn fr
  go_enter Tryd.func14, Tryd.ntmps14
  go_wp2_with (go_at_call 20; fail)
  refine (WNum_calls _ (w.heap.size + 1) [] HW0.out _ 1 rfl p.ch (by have := HCH.out; omega) (by simp)).mono ?_
  rintro e w1 ⟨rfl, hw, hb⟩
  have HW1 := Fact.mk hw.out
  have HC1 : Fact (∀ (j : Nat) v, (pkC p)[j]? = some v → w1.cell? ⟨w.heap.size, j, none⟩ = some v) := ⟨fun j v hj => (cell_same (hb.block _ (by show w.heap.size < w.heap.size + 1; omega))).trans (HC0.out j v hj)⟩
  have HB1 : Fact (Below w.heap.size w w1) := ⟨(HB0.out).trans (hb.mono (by omega))⟩
  clear hw hb
  have c1 : w1.cell? ⟨w.heap.size, 1, none⟩ = some (.int .u64 (p.seq : Int)) := HC1.out 1 _ rfl
  go_wp2_with (go_at_call 20; fail)
  refine (WNum_calls w1 (w.heap.size + 1) _ HW1.out _ 2 rfl p.seq HP.out.seq HLEN.out.1).mono ?_
  rintro e w2 ⟨rfl, hw, hb⟩
  clear c1
  have HW2 := Fact.mk hw.out
  have HC2 : Fact (∀ (j : Nat) v, (pkC p)[j]? = some v → w2.cell? ⟨w.heap.size, j, none⟩ = some v) := ⟨fun j v hj => (cell_same (hb.block _ (by show w.heap.size < w.heap.size + 1; omega))).trans (HC1.out j v hj)⟩
  have HB2 : Fact (Below w.heap.size w w2) := ⟨(HB1.out).trans (hb.mono (by omega))⟩
  clear hw hb
  have c2 : w2.cell? ⟨w.heap.size, 2, none⟩ = some (.int .u64 (p.tmo : Int)) := HC2.out 2 _ rfl
  go_wp2_with (go_at_call 20; fail)
  refine (WNum_calls w2 (w.heap.size + 1) _ HW2.out _ 3 rfl p.tmo HP.out.tmo HLEN.out.2.1).mono ?_
  rintro e w3 ⟨rfl, hw, hb⟩
  clear c2
  have HW3 := Fact.mk hw.out
  have HC3 : Fact (∀ (j : Nat) v, (pkC p)[j]? = some v → w3.cell? ⟨w.heap.size, j, none⟩ = some v) := ⟨fun j v hj => (cell_same (hb.block _ (by show w.heap.size < w.heap.size + 1; omega))).trans (HC2.out j v hj)⟩
  have HB3 : Fact (Below w.heap.size w w3) := ⟨(HB2.out).trans (hb.mono (by omega))⟩
  clear hw hb
  have c3 : w3.cell? ⟨w.heap.size, 3, none⟩ = some (.string (S p.den)) := HC3.out 3 _ rfl
  go_wp2_with (go_at_call 21; fail)
  refine (WBytes_calls (bw4 w3) (w.heap.size + 1) _ (HW3.out.move (HB4'.out w3)) _ 4 rfl _ _ _ _ p.den (HS4'.out w3) (fun i hi => by subst hi; rw [hs4]; omega) HP.out.den HLEN.out.2.2.1).mono ?_
  rintro e w4 ⟨rfl, hw, hb⟩
  replace hb : Below (w.heap.size + 1) w3 w4 := ((HB4'.out w3).mono (by have := HW3.out.1; omega)).trans hb
  clear c3
  have HW4 := Fact.mk hw.out
  have HC4 : Fact (∀ (j : Nat) v, (pkC p)[j]? = some v → w4.cell? ⟨w.heap.size, j, none⟩ = some v) := ⟨fun j v hj => (cell_same (hb.block _ (by show w.heap.size < w.heap.size + 1; omega))).trans (HC3.out j v hj)⟩
  have HB4 : Fact (Below w.heap.size w w4) := ⟨(HB3.out).trans (hb.mono (by omega))⟩
  clear hw hb
  have c4 : w4.cell? ⟨w.heap.size, 4, none⟩ = some (.int .u64 (p.amt : Int)) := HC4.out 4 _ rfl
  go_wp2_with (go_at_call 20; fail)
  refine (WNum_calls w4 (w.heap.size + 1) _ HW4.out _ 5 rfl p.amt HP.out.amt HLEN.out.2.2.2.1).mono ?_
  rintro e w5 ⟨rfl, hw, hb⟩
  clear c4
  have HW5 := Fact.mk hw.out
  have HC5 : Fact (∀ (j : Nat) v, (pkC p)[j]? = some v → w5.cell? ⟨w.heap.size, j, none⟩ = some v) := ⟨fun j v hj => (cell_same (hb.block _ (by show w.heap.size < w.heap.size + 1; omega))).trans (HC4.out j v hj)⟩
  have HB5 : Fact (Below w.heap.size w w5) := ⟨(HB4.out).trans (hb.mono (by omega))⟩
  clear hw hb
  have c5 : w5.cell? ⟨w.heap.size, 5, none⟩ = some (.string (S p.frm)) := HC5.out 5 _ rfl
  go_wp2_with (go_at_call 21; fail)
  refine (WBytes_calls (bw6 w5) (w.heap.size + 1) _ (HW5.out.move (HB6'.out w5)) _ 6 rfl _ _ _ _ p.frm (HS6'.out w5) (fun i hi => by subst hi; rw [hs6]; omega) HP.out.frm HLEN.out.2.2.2.2.1).mono ?_
  rintro e w6 ⟨rfl, hw, hb⟩
  replace hb : Below (w.heap.size + 1) w5 w6 := ((HB6'.out w5).mono (by have := HW5.out.1; omega)).trans hb
  clear c5
  have HW6 := Fact.mk hw.out
  have HC6 : Fact (∀ (j : Nat) v, (pkC p)[j]? = some v → w6.cell? ⟨w.heap.size, j, none⟩ = some v) := ⟨fun j v hj => (cell_same (hb.block _ (by show w.heap.size < w.heap.size + 1; omega))).trans (HC5.out j v hj)⟩
  have HB6 : Fact (Below w.heap.size w w6) := ⟨(HB5.out).trans (hb.mono (by omega))⟩
  clear hw hb
  have c6 : w6.cell? ⟨w.heap.size, 6, none⟩ = some (.string (S p.to)) := HC6.out 6 _ rfl
  go_wp2_with (go_at_call 21; fail)
  refine (WBytes_calls (bw7 w6) (w.heap.size + 1) _ (HW6.out.move (HB7'.out w6)) _ 7 rfl _ _ _ _ p.to (HS7'.out w6) (fun i hi => by subst hi; rw [hs7]; omega) HP.out.to HLEN.out.2.2.2.2.2).mono ?_
  rintro e w7 ⟨rfl, hw, hb⟩
  replace hb : Below (w.heap.size + 1) w6 w7 := ((HB7'.out w6).mono (by have := HW6.out.1; omega)).trans hb
  clear c6
  have HW7 := Fact.mk hw.out
  have HC7 : Fact (∀ (j : Nat) v, (pkC p)[j]? = some v → w7.cell? ⟨w.heap.size, j, none⟩ = some v) := ⟨fun j v hj => (cell_same (hb.block _ (by show w.heap.size < w.heap.size + 1; omega))).trans (HC6.out j v hj)⟩
  have HB7 : Fact (Below w.heap.size w w7) := ⟨(HB6.out).trans (hb.mono (by omega))⟩
  clear hw hb
  obtain ⟨hp7, A, c, c0, c1, f0, f1, hsl⟩ := HW7.out
  have HSL := Fact.mk hsl
  clear hsl hp7
  obtain ⟨x, hx⟩ : ∃ x, pkL p = x := ⟨_, rfl⟩
  rw [show putL (putL (putL (putL (putL (putL (putL [] 1 (numL p.ch)) 2 (numL p.seq)) 3 (numL p.tmo)) 4 p.den) 5 (numL p.amt)) 6 p.frm) 7 p.to = pkL p from rfl, hx] at HSL c0
  have HXX := Fact.mk hx
  clear hx
  go_wp2_with fail
  go_quiet (fail)
  go_wp2_with fail
  go_ret2
  rw [HXX.out]
  exact ⟨A, c, rfl, ⟨Out.mk' HSL.out (by omega) _⟩, below_drewN' HB7.out _⟩
set_option maxHeartbeats 4000000 in
set_option maxRecDepth 100000 in
theorem Ack_calls (w : World) (y : Bool) (n : Nat) (hn : n ≤ 2147483648) (hy : y = true ↔ n = 0) : Calls Tryd.prog 19 #[.agg #[.bool y, .int .i64 (n : Int)]] w fun e w' => ∃ A c, e = .returned (.tuple #[.slice A (ackL y n).length c, .int .i64 0]) ∧ Fact (Out w w' A c (ackL y n)) ∧ Below w.heap.size w w' := by
  have HW0 : ∀ (cs : Array Value) (t : TypeId), Fact (Wr ((w.alloc (.cells cs t)).alloc (.cells #[.slice none 0 0, .int .i64 0] 59)) (w.heap.size + 1) []) := fun cs t => ⟨by have := Wr.new (w := w.alloc (.cells cs t)) (e := 59); simpa using this⟩
  have HB0 : ∀ (cs : Array Value) (t : TypeId), Fact (Below w.heap.size w ((w.alloc (.cells cs t)).alloc (.cells #[.slice none 0 0, .int .i64 0] 59))) := fun cs t => ⟨((Below.refl _ _).alloc (Nat.le_refl _) _).alloc (by simp) _⟩
  have k0 : decide ((n : Int) < 0) = false := decide_eq_false (by omega)
  have k2 : IntKind.u64.wrap (n : Int) = (n : Int) := by rw [IntKind.wrap_u64]; omega
  have HN := Fact.mk hn
  cases y
  · have hn0 : n ≠ 0 := fun h => by have := hy.2 h; cases this
    have k1 : ((n : Int) == 0) = false := by simpa using hn0
    have HC0 : Fact (((w.alloc (.cells #[.bool false, .int .i64 (n : Int)] 56)).alloc (.cells #[.slice none 0 0, .int .i64 0] 59)).cell? ⟨w.heap.size, 1, none⟩ = some (.int .i64 (n : Int))) := ⟨by simp⟩
    clear hn hy hn0
    go_enter Tryd.func19, Tryd.ntmps19
    go_wp2_with (go_at_call 20; fail)
    refine (WNum_calls _ (w.heap.size + 1) [] (HW0 _ _).out _ 2 rfl n (by have := HN.out; omega) (by simp)).mono ?_
    rintro e w1 ⟨rfl, hw, hb⟩
    have HB1 : Fact (Below w.heap.size w w1) := ⟨(HB0 _ _).out.trans (hb.mono (by omega))⟩
    obtain ⟨hp7, A, c, c0, c1, f0, f1, hsl⟩ := hw.out
    have HSL := Fact.mk hsl
    clear hsl hp7 hw hb
    go_wp2_with fail
    go_quiet (fail)
    go_wp2_with fail
    go_ret2
    exact ⟨A, c, rfl, ⟨Out.mk' HSL.out (by omega) _⟩, below_drewN' HB1.out _⟩
  · obtain rfl : n = 0 := hy.1 rfl
    have HLEN : Fact ((putL [] 1 (numL 1)).length ≤ 1000000) := ⟨by decide⟩
    clear hn hy
    go_enter Tryd.func19, Tryd.ntmps19
    go_wp2_with (go_at_call 20; fail)
    refine (WNum_calls _ (w.heap.size + 1) [] (HW0 _ _).out _ 1 rfl 1 (by omega) (by simp)).mono ?_
    rintro e w1 ⟨rfl, hw, hb⟩
    have c1 : w1.cell? ⟨w.heap.size, 1, none⟩ = some (.int .i64 0) := (cell_same (hb.block _ (by show w.heap.size < w.heap.size + 1; omega))).trans (by simp)
    have HB1 : Fact (Below w.heap.size w w1) := ⟨(HB0 _ _).out.trans (hb.mono (by omega))⟩
    have HW1 := Fact.mk hw.out
    clear hw hb
    go_wp2_with (go_at_call 20; fail)
    refine (WNum_calls _ (w.heap.size + 1) _ HW1.out _ 2 rfl 0 (by omega) HLEN.out).mono ?_
    rintro e w2 ⟨rfl, hw, hb⟩
    have HB2 : Fact (Below w.heap.size w w2) := ⟨HB1.out.trans (hb.mono (by omega))⟩
    obtain ⟨hp7, A, c, c0, c1, f0, f1, hsl⟩ := hw.out
    have HSL := Fact.mk hsl
    clear hsl hp7 hw hb
    obtain ⟨x, hx⟩ : ∃ x, ackL true 0 = x := ⟨_, rfl⟩
    rw [show putL (putL [] 1 (numL 1)) 2 (numL 0) = ackL true 0 from rfl, hx] at HSL c0
    have HXX := Fact.mk hx
    clear hx
    go_wp2_with fail
    go_quiet (fail)
    go_wp2_with fail
    go_ret2
    rw [HXX.out]
    exact ⟨A, c, rfl, ⟨Out.mk' HSL.out (by omega) _⟩, below_drewN' HB2.out _⟩
/-- A header's cells. -/
def hdC (h : Hd) : List Value := [.int .u64 (h.ht : Int), .int .u64 (h.tm : Int)] ++ (h.root.map vu8 ++ (h.vals.map vu8 ++ (h.next.map vu8 ++ h.sel.map vu8)))
theorem part_range {w : World} {B o n : Nat} {cs r : List Value} (h : ∀ (j : Nat) v, cs[j]? = some v → w.cell? ⟨B, j, none⟩ = some v) (hr : (cs.drop o).take n = r) : w.rangeAt B o r := by
  intro j v hj
  rw [← hr, List.getElem?_take] at hj
  split at hj
  · rw [List.getElem?_drop] at hj; exact h _ v hj
  · cases hj
theorem hdC_parts {h : Hd} (k : h.ok) : ((hdC h).drop 2).take 32 = h.root.map vu8 ∧ ((hdC h).drop 34).take 32 = h.vals.map vu8 ∧ ((hdC h).drop 66).take 32 = h.next.map vu8 ∧ ((hdC h).drop 98).take 32 = h.sel.map vu8 := by
  have l1 : (h.root.map vu8).length = 32 := by rw [List.length_map, k.root]
  have l2 : (h.vals.map vu8).length = 32 := by rw [List.length_map, k.vals]
  have l3 : (h.next.map vu8).length = 32 := by rw [List.length_map, k.next]
  have l4 : (h.sel.map vu8).length = 32 := by rw [List.length_map, k.sel]
  unfold hdC
  refine ⟨?_, ?_, ?_, ?_⟩
  · rw [List.drop_append_of_le_length (by simp)]
    simp only [List.drop_succ_cons, List.drop_zero, List.nil_append]
    rw [List.take_append_of_le_length (by omega), List.take_of_length_le (by omega)]
  · rw [← List.append_assoc, List.drop_append, List.drop_of_length_le (by simp [k.root, k.vals, k.next])]
    rw [show 34 - ([Value.int .u64 (h.ht : Int), .int .u64 (h.tm : Int)] ++ h.root.map vu8).length = 0 by rw [List.length_append, l1]; rfl, List.drop_zero, List.nil_append, List.take_append_of_le_length (by omega), List.take_of_length_le (by omega)]
  · rw [← List.append_assoc, ← List.append_assoc, List.drop_append, List.drop_of_length_le (by simp [k.root, k.vals, k.next])]
    rw [show 66 - ([Value.int .u64 (h.ht : Int), .int .u64 (h.tm : Int)] ++ h.root.map vu8 ++ h.vals.map vu8).length = 0 by rw [List.length_append, List.length_append, l1, l2]; rfl, List.drop_zero, List.nil_append, List.take_append_of_le_length (by omega), List.take_of_length_le (by omega)]
  · rw [← List.append_assoc, ← List.append_assoc, ← List.append_assoc, List.drop_append, List.drop_of_length_le (by simp [k.root, k.vals, k.next])]
    rw [show 98 - ([Value.int .u64 (h.ht : Int), .int .u64 (h.tm : Int)] ++ h.root.map vu8 ++ h.vals.map vu8 ++ h.next.map vu8).length = 0 by rw [List.length_append, List.length_append, List.length_append, l1, l2, l3]; rfl, List.drop_zero, List.nil_append, List.take_of_length_le (by omega)]
theorem load_hash {w : World} {B o : Nat} {x : List UInt8} (hx : x.length = 32) (h : w.rangeAt B o (x.map vu8)) : (Instr.loadAt 25 (.pointer (some ⟨B, o, none⟩))).run Tryd.prog w = .ok (.agg (x.map vu8).toArray) w :=
  run_loadAt_mid (P := Tryd.prog) w B o 25 _ _ h hash_u rfl (by rw [List.length_map, hx]; kernel_rfl)
end Go.Proofs.YtjjcjdefenbnjaaDoor.ParcelB
