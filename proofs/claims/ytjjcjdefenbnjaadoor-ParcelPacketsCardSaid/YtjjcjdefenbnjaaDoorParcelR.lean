/- ferrymanref01.Packet; parcel.Commitment: contracts over any world. -/
import Derived.Test.YtjjcjdefenbnjaaDoorParcelL
import Derived.Test.YtjjcjdefenbnjaaDoorParcelM
import Derived.Test.YtjjcjdefenbnjaaDoorShaE
set_option linter.unusedVariables false
set_option linter.unusedSimpArgs false
namespace Go.Proofs.YtjjcjdefenbnjaaDoor.ParcelR
open Go.RowKit Go.Proofs.YtjjcjdefenbnjaaDoor.Lib Go.Proofs.YtjjcjdefenbnjaaDoor.LibB Go.Proofs.YtjjcjdefenbnjaaDoor.Reg Go.Proofs.YtjjcjdefenbnjaaDoor.TlvA Go.Proofs.YtjjcjdefenbnjaaDoor.TlvC Go.Proofs.YtjjcjdefenbnjaaDoor.TlvF Go.Proofs.YtjjcjdefenbnjaaDoor.TlvG Go.Proofs.YtjjcjdefenbnjaaDoor.TlvI Go.Proofs.YtjjcjdefenbnjaaDoor.PlainP Go.Proofs.YtjjcjdefenbnjaaDoor.DenomA Go.Proofs.YtjjcjdefenbnjaaDoor.ParcelA Go.Proofs.YtjjcjdefenbnjaaDoor.ParcelB Go.Proofs.YtjjcjdefenbnjaaDoor.OpenP Go.Proofs.YtjjcjdefenbnjaaDoor.ParcelL Go.Proofs.YtjjcjdefenbnjaaDoor.ParcelM
theorem up {w w' : World} {A : Option Addr} {n c : Nat} {l : List UInt8} (h : Sl rU8 w (fun k => k < w.heap.size) A n c l) (hb : Below w.heap.size w w') : Sl rU8 w' (fun k => k < w'.heap.size) A n c l := (h.move (Same.of_below hb (fun _ h => h))).mono (fun k hk => Nat.lt_of_lt_of_le hk hb.size)
theorem rput_eq (l : List UInt8) (t : UInt8) (v : List UInt8) (hv : v.length ≤ 65535) : rputL l t v = putL l t v := (putL_eq hv).symm
theorem RPut_s (w : World) (A : Option Addr) (n c : Nat) (l : List UInt8) (ti : Int) (t : UInt8) (A2 : Option Addr) (n2 c2 : Nat) (v : List UInt8) (ht : ti = (t.toNat : Int)) (h1 : Sl rU8 w (fun k => k < w.heap.size) A n c l) (h2 : Sl rU8 w (fun k => k < w.heap.size) A2 n2 c2 v) (hs : n ≤ 1000000) (hv : n2 ≤ 65535) :
    Calls Tryd.prog 22 #[.slice A n c, .int .u8 ti, .slice A2 n2 c2] w fun e w' => ∃ A' n' c', e = .returned (.slice A' n' c') ∧ Fact (Sl rU8 w' (fun k => k < w'.heap.size) A' n' c' (putL l t v)) ∧ Below w.heap.size w w' := by
  refine (RPut_calls w _ A n c l ti t A2 n2 c2 v ht h1 h2 (fun _ h => h) (by omega)).mono ?_
  rintro e w' ⟨A', c', rfl, hsl, hb⟩
  have hvl : v.length ≤ 65535 := by rw [h2.len]; exact hv
  exact ⟨A', _, c', rfl, ⟨by have h := hsl.out; rw [rput_eq l t v hvl] at h ⊢; exact h⟩, hb⟩
theorem RNum_s (w : World) (ni : Int) (n : Nat) (hn : ni = (n : Int)) (hlt : n < 18446744073709551616) :
    Calls Tryd.prog 23 #[.int .u64 ni] w fun e w' => ∃ A m c, e = .returned (.slice A m c) ∧ Fact (Sl rU8 w' (fun k => k < w'.heap.size) A m c (numL n)) ∧ Below w.heap.size w w' := by
  refine (RNum_calls w ni n hn hlt).mono ?_
  rintro e w' ⟨A, c, rfl, hs, hb⟩
  exact ⟨A, _, c, rfl, ⟨hs.out.mono (fun k hk => hk.2)⟩, hb⟩
set_option maxHeartbeats 8000000 in
set_option maxRecDepth 100000 in
theorem RPacket_bad (w : World) (p : Pk) (ch : Int) (h : ch < 0 ∨ 4 ≤ ch) : Calls Tryd.prog 15 #[.agg (pkA ch p)] w fun e w' => e = .returned (.tuple #[.slice none 0 0, .int .i64 2]) ∧ Below w.heap.size w w' := by
  unfold pkA
  by_cases h0 : ch < 0
  · have k0 : decide (ch < 0) = true := decide_eq_true h0
    clear h h0
    go_enter Tryd.func15, Tryd.ntmps15
    go_wp2_with fail
    go_ret2
    exact ⟨rfl, (Below.refl _ _).alloc (Nat.le_refl _) _⟩
  · have k0 : decide (ch < 0) = false := decide_eq_false h0
    have k1 : decide (3 < ch) = true := decide_eq_true (by omega)
    clear h h0
    go_enter Tryd.func15, Tryd.ntmps15
    go_wp2_with fail
    go_ret2
    exact ⟨rfl, (Below.refl _ _).alloc (Nat.le_refl _) _⟩
set_option maxHeartbeats 8000000 in
set_option maxRecDepth 100000 in
theorem RPacket_calls (w : World) (p : Pk) (hp : p.ok) : Calls Tryd.prog 15 #[.agg (pkC p)] w fun e w' => ∃ A n c, e = .returned (.tuple #[.slice A n c, .int .i64 0]) ∧ Fact (Sl rU8 w' (fun k => k < w'.heap.size) A n c (pkL p)) ∧ Below w.heap.size w w' := by
  have hch := hp.ch
  have HP := Fact.mk hp
  have k0 : decide ((p.ch : Int) < 0) = false := decide_eq_false (by omega)
  have k1 : decide (3 < (p.ch : Int)) = false := decide_eq_false (by omega)
  have k2 : IntKind.u64.wrap (p.ch : Int) = (p.ch : Int) := by rw [IntKind.wrap_u64]; omega
  have z1 := size_S p.den
  have z2 := size_S p.frm
  have z3 := size_S p.to
  have m1 : decide ((65535 : Int) < (p.den.length : Int)) = false := by have := hp.den; simp; omega
  have m2 : decide ((65535 : Int) < (p.frm.length : Int)) = false := by have := hp.frm; simp; omega
  have m3 : decide ((65535 : Int) < (p.to.length : Int)) = false := by have := hp.to; simp; omega
  have m1' : decide (65535 < p.den.length) = false := by have := hp.den; simp; omega
  have m2' : decide (65535 < p.frm.length) = false := by have := hp.frm; simp; omega
  have m3' : decide (65535 < p.to.length) = false := by have := hp.to; simp; omega
  have HCH := Fact.mk hch
  clear hp hch
  obtain ⟨bw4, cv4, hb4, hs4, hB4, hS4⟩ := conv_bytes p.den (by have := HP.out.den; omega)
  obtain ⟨bw6, cv6, hb6, hs6, hB6, hS6⟩ := conv_bytes p.frm (by have := HP.out.frm; omega)
  obtain ⟨bw7, cv7, hb7, hs7, hB7, hS7⟩ := conv_bytes p.to (by have := HP.out.to; omega)
  have HX4 := Fact.mk (fun W => And.intro (hs4 W) (And.intro (hB4 W) (hS4 W)))
  have HX6 := Fact.mk (fun W => And.intro (hs6 W) (And.intro (hB6 W) (hS6 W)))
  have HX7 := Fact.mk (fun W => And.intro (hs7 W) (And.intro (hB7 W) (hS7 W)))
  clear hB4 hS4 hB6 hS6 hB7 hS7 hs4 hs6 hs7
  unfold pkC
  have HC0 : Fact (∀ (j : Nat) v, (pkC p)[j]? = some v → (w.alloc (.cells (pkC p) 36)).cell? ⟨w.heap.size, j, none⟩ = some v) := ⟨fun j v hj => by
    simpa [World.cell?, World.alloc, -World.alloc_eq] using hj⟩
  have HB0 : Fact (Below w.heap.size w (w.alloc (.cells (pkC p) 36))) := ⟨(Below.refl _ _).alloc (Nat.le_refl _) _⟩
  have HZ0 : Fact (w.heap.size < (w.alloc (.cells (pkC p) 36)).heap.size) := ⟨by simp⟩
  have n1 := num_len p.ch
  have n2 := num_len p.seq
  have n3 := num_len p.tmo
  have n5 := num_len p.amt
  have dn := HP.out.den
  have fr := HP.out.frm
  have q1 := putL_len ([]) 1 (numL p.ch)
  have q2 := putL_len (putL ([]) 1 (numL p.ch)) 2 (numL p.seq)
  have q3 := putL_len (putL (putL ([]) 1 (numL p.ch)) 2 (numL p.seq)) 3 (numL p.tmo)
  have q4 := putL_len (putL (putL (putL ([]) 1 (numL p.ch)) 2 (numL p.seq)) 3 (numL p.tmo)) 4 (p.den)
  have q5 := putL_len (putL (putL (putL (putL ([]) 1 (numL p.ch)) 2 (numL p.seq)) 3 (numL p.tmo)) 4 (p.den)) 5 (numL p.amt)
  have q6 := putL_len (putL (putL (putL (putL (putL ([]) 1 (numL p.ch)) 2 (numL p.seq)) 3 (numL p.tmo)) 4 (p.den)) 5 (numL p.amt)) 6 (p.frm)
  simp only [List.length_nil] at q1
  have HLEN : Fact ((putL ([]) 1 (numL p.ch)).length ≤ 1000000 ∧ (putL (putL ([]) 1 (numL p.ch)) 2 (numL p.seq)).length ≤ 1000000 ∧ (putL (putL (putL ([]) 1 (numL p.ch)) 2 (numL p.seq)) 3 (numL p.tmo)).length ≤ 1000000 ∧ (putL (putL (putL (putL ([]) 1 (numL p.ch)) 2 (numL p.seq)) 3 (numL p.tmo)) 4 (p.den)).length ≤ 1000000 ∧ (putL (putL (putL (putL (putL ([]) 1 (numL p.ch)) 2 (numL p.seq)) 3 (numL p.tmo)) 4 (p.den)) 5 (numL p.amt)).length ≤ 1000000 ∧ (putL (putL (putL (putL (putL (putL ([]) 1 (numL p.ch)) 2 (numL p.seq)) 3 (numL p.tmo)) 4 (p.den)) 5 (numL p.amt)) 6 (p.frm)).length ≤ 1000000) := ⟨⟨by omega, by omega, by omega, by omega, by omega, by omega⟩⟩
  have HNL : Fact ((numL p.ch).length ≤ 8 ∧ (numL p.seq).length ≤ 8 ∧ (numL p.tmo).length ≤ 8 ∧ (numL p.amt).length ≤ 8) := ⟨⟨n1, n2, n3, n5⟩⟩
  clear n1 n2 n3 n5 dn fr q1 q2 q3 q4 q5 q6
  go_enter Tryd.func15, Tryd.ntmps15
  go_wp2_with (go_at_call 23; fail)
  refine (RNum_s _ _ p.ch rfl (by have := HCH.out; omega)).mono ?_
  rintro e v1 ⟨An, mn, cn, rfl, hsn, hbn⟩
  have HSN := Fact.mk hsn.out
  have HBN := Fact.mk hbn
  clear hsn hbn
  go_wp2_with (go_at_call 22; fail)
  refine (RPut_s v1 _ _ _ [] _ 1 _ _ _ (numL p.ch) rfl (Sl.nil _ _ _ _ _ (by decide)) HSN.out (by decide) (by rw [← HSN.out.len]; have := HNL.out; omega)).mono ?_
  rintro e w1 ⟨A1, n1, c1', rfl, hs, hb⟩
  have HL1 := Fact.mk hs.out
  have HBW1 : Fact (Below (w.alloc (.cells (pkC p) 36)).heap.size (w.alloc (.cells (pkC p) 36)) w1) := ⟨(HBN.out).trans (hb.mono (HBN.out).size)⟩
  have HB1 : Fact (Below w.heap.size w w1) := ⟨(HB0.out).trans (HBW1.out.mono (HB0.out).size)⟩
  have HZ1 : Fact (w.heap.size < w1.heap.size) := ⟨Nat.lt_of_lt_of_le HZ0.out HBW1.out.size⟩
  have HC1 : Fact (∀ (j : Nat) v, (pkC p)[j]? = some v → w1.cell? ⟨w.heap.size, j, none⟩ = some v) := ⟨fun j v hj => (HBW1.out.cell (p := ⟨w.heap.size, j, none⟩) HZ0.out).trans (HC0.out j v hj)⟩
  clear hs hb HSN HBN
  have c1 : w1.cell? ⟨w.heap.size, 1, none⟩ = some (.int .u64 (p.seq : Int)) := HC1.out 1 _ rfl
  go_wp2_with (go_at_call 23; fail)
  refine (RNum_s w1 _ p.seq rfl (HP.out.seq)).mono ?_
  rintro e v2 ⟨An, mn, cn, rfl, hsn, hbn⟩
  have HSN := Fact.mk hsn.out
  have HBN := Fact.mk hbn
  clear hsn hbn
  go_wp2_with (go_at_call 22; fail)
  refine (RPut_s v2 _ _ _ _ _ 2 _ _ _ (numL p.seq) rfl (up HL1.out HBN.out) HSN.out (by rw [← HL1.out.len]; have := HLEN.out; omega) (by rw [← HSN.out.len]; have := HNL.out; omega)).mono ?_
  rintro e w2 ⟨A2, n2, c2', rfl, hs, hb⟩
  have HL2 := Fact.mk hs.out
  have HBW2 : Fact (Below w1.heap.size w1 w2) := ⟨(HBN.out).trans (hb.mono (HBN.out).size)⟩
  have HB2 : Fact (Below w.heap.size w w2) := ⟨(HB1.out).trans (HBW2.out.mono (HB1.out).size)⟩
  have HZ2 : Fact (w.heap.size < w2.heap.size) := ⟨Nat.lt_of_lt_of_le HZ1.out HBW2.out.size⟩
  have HC2 : Fact (∀ (j : Nat) v, (pkC p)[j]? = some v → w2.cell? ⟨w.heap.size, j, none⟩ = some v) := ⟨fun j v hj => (HBW2.out.cell (p := ⟨w.heap.size, j, none⟩) HZ1.out).trans (HC1.out j v hj)⟩
  clear hs hb HSN HBN c1
  have c2 : w2.cell? ⟨w.heap.size, 2, none⟩ = some (.int .u64 (p.tmo : Int)) := HC2.out 2 _ rfl
  go_wp2_with (go_at_call 23; fail)
  refine (RNum_s w2 _ p.tmo rfl (HP.out.tmo)).mono ?_
  rintro e v3 ⟨An, mn, cn, rfl, hsn, hbn⟩
  have HSN := Fact.mk hsn.out
  have HBN := Fact.mk hbn
  clear hsn hbn
  go_wp2_with (go_at_call 22; fail)
  refine (RPut_s v3 _ _ _ _ _ 3 _ _ _ (numL p.tmo) rfl (up HL2.out HBN.out) HSN.out (by rw [← HL2.out.len]; have := HLEN.out; omega) (by rw [← HSN.out.len]; have := HNL.out; omega)).mono ?_
  rintro e w3 ⟨A3, n3, c3', rfl, hs, hb⟩
  have HL3 := Fact.mk hs.out
  have HBW3 : Fact (Below w2.heap.size w2 w3) := ⟨(HBN.out).trans (hb.mono (HBN.out).size)⟩
  have HB3 : Fact (Below w.heap.size w w3) := ⟨(HB2.out).trans (HBW3.out.mono (HB2.out).size)⟩
  have HZ3 : Fact (w.heap.size < w3.heap.size) := ⟨Nat.lt_of_lt_of_le HZ2.out HBW3.out.size⟩
  have HC3 : Fact (∀ (j : Nat) v, (pkC p)[j]? = some v → w3.cell? ⟨w.heap.size, j, none⟩ = some v) := ⟨fun j v hj => (HBW3.out.cell (p := ⟨w.heap.size, j, none⟩) HZ2.out).trans (HC2.out j v hj)⟩
  clear hs hb HSN HBN c2
  have c3 : w3.cell? ⟨w.heap.size, 3, none⟩ = some (.string (S p.den)) := HC3.out 3 _ rfl
  go_wp2_with (go_at_call 22; fail)
  refine (RPut_s (bw4 w3) _ _ _ _ _ 4 _ _ _ p.den rfl (up HL3.out (HX4.out w3).2.1) ((HX4.out w3).2.2.mono (fun j hj => by subst hj; rw [(HX4.out w3).1]; omega)) (by rw [← HL3.out.len]; have := HLEN.out; omega) HP.out.den).mono ?_
  rintro e w4 ⟨A4, n4, c4', rfl, hs, hb⟩
  have HL4 := Fact.mk hs.out
  have HBW4 : Fact (Below w3.heap.size w3 w4) := ⟨((HX4.out w3).2.1).trans (hb.mono ((HX4.out w3).2.1).size)⟩
  have HB4 : Fact (Below w.heap.size w w4) := ⟨(HB3.out).trans (HBW4.out.mono (HB3.out).size)⟩
  have HZ4 : Fact (w.heap.size < w4.heap.size) := ⟨Nat.lt_of_lt_of_le HZ3.out HBW4.out.size⟩
  have HC4 : Fact (∀ (j : Nat) v, (pkC p)[j]? = some v → w4.cell? ⟨w.heap.size, j, none⟩ = some v) := ⟨fun j v hj => (HBW4.out.cell (p := ⟨w.heap.size, j, none⟩) HZ3.out).trans (HC3.out j v hj)⟩
  clear hs hb c3
  have c4 : w4.cell? ⟨w.heap.size, 4, none⟩ = some (.int .u64 (p.amt : Int)) := HC4.out 4 _ rfl
  go_wp2_with (go_at_call 23; fail)
  refine (RNum_s w4 _ p.amt rfl (HP.out.amt)).mono ?_
  rintro e v5 ⟨An, mn, cn, rfl, hsn, hbn⟩
  have HSN := Fact.mk hsn.out
  have HBN := Fact.mk hbn
  clear hsn hbn
  go_wp2_with (go_at_call 22; fail)
  refine (RPut_s v5 _ _ _ _ _ 5 _ _ _ (numL p.amt) rfl (up HL4.out HBN.out) HSN.out (by rw [← HL4.out.len]; have := HLEN.out; omega) (by rw [← HSN.out.len]; have := HNL.out; omega)).mono ?_
  rintro e w5 ⟨A5, n5, c5', rfl, hs, hb⟩
  have HL5 := Fact.mk hs.out
  have HBW5 : Fact (Below w4.heap.size w4 w5) := ⟨(HBN.out).trans (hb.mono (HBN.out).size)⟩
  have HB5 : Fact (Below w.heap.size w w5) := ⟨(HB4.out).trans (HBW5.out.mono (HB4.out).size)⟩
  have HZ5 : Fact (w.heap.size < w5.heap.size) := ⟨Nat.lt_of_lt_of_le HZ4.out HBW5.out.size⟩
  have HC5 : Fact (∀ (j : Nat) v, (pkC p)[j]? = some v → w5.cell? ⟨w.heap.size, j, none⟩ = some v) := ⟨fun j v hj => (HBW5.out.cell (p := ⟨w.heap.size, j, none⟩) HZ4.out).trans (HC4.out j v hj)⟩
  clear hs hb HSN HBN c4
  have c5 : w5.cell? ⟨w.heap.size, 5, none⟩ = some (.string (S p.frm)) := HC5.out 5 _ rfl
  go_wp2_with (go_at_call 22; fail)
  refine (RPut_s (bw6 w5) _ _ _ _ _ 6 _ _ _ p.frm rfl (up HL5.out (HX6.out w5).2.1) ((HX6.out w5).2.2.mono (fun j hj => by subst hj; rw [(HX6.out w5).1]; omega)) (by rw [← HL5.out.len]; have := HLEN.out; omega) HP.out.frm).mono ?_
  rintro e w6 ⟨A6, n6, c6', rfl, hs, hb⟩
  have HL6 := Fact.mk hs.out
  have HBW6 : Fact (Below w5.heap.size w5 w6) := ⟨((HX6.out w5).2.1).trans (hb.mono ((HX6.out w5).2.1).size)⟩
  have HB6 : Fact (Below w.heap.size w w6) := ⟨(HB5.out).trans (HBW6.out.mono (HB5.out).size)⟩
  have HZ6 : Fact (w.heap.size < w6.heap.size) := ⟨Nat.lt_of_lt_of_le HZ5.out HBW6.out.size⟩
  have HC6 : Fact (∀ (j : Nat) v, (pkC p)[j]? = some v → w6.cell? ⟨w.heap.size, j, none⟩ = some v) := ⟨fun j v hj => (HBW6.out.cell (p := ⟨w.heap.size, j, none⟩) HZ5.out).trans (HC5.out j v hj)⟩
  clear hs hb c5
  have c6 : w6.cell? ⟨w.heap.size, 6, none⟩ = some (.string (S p.to)) := HC6.out 6 _ rfl
  go_wp2_with (go_at_call 22; fail)
  refine (RPut_s (bw7 w6) _ _ _ _ _ 7 _ _ _ p.to rfl (up HL6.out (HX7.out w6).2.1) ((HX7.out w6).2.2.mono (fun j hj => by subst hj; rw [(HX7.out w6).1]; omega)) (by rw [← HL6.out.len]; have := HLEN.out; omega) HP.out.to).mono ?_
  rintro e w7 ⟨A7, n7, c7', rfl, hs, hb⟩
  have HL7 := Fact.mk hs.out
  have HBW7 : Fact (Below w6.heap.size w6 w7) := ⟨((HX7.out w6).2.1).trans (hb.mono ((HX7.out w6).2.1).size)⟩
  have HB7 : Fact (Below w.heap.size w w7) := ⟨(HB6.out).trans (HBW7.out.mono (HB6.out).size)⟩
  have HZ7 : Fact (w.heap.size < w7.heap.size) := ⟨Nat.lt_of_lt_of_le HZ6.out HBW7.out.size⟩
  have HC7 : Fact (∀ (j : Nat) v, (pkC p)[j]? = some v → w7.cell? ⟨w.heap.size, j, none⟩ = some v) := ⟨fun j v hj => (HBW7.out.cell (p := ⟨w.heap.size, j, none⟩) HZ6.out).trans (HC6.out j v hj)⟩
  clear hs hb c6
  have HPL : Fact (putL (putL (putL (putL (putL (putL (putL ([]) 1 (numL p.ch)) 2 (numL p.seq)) 3 (numL p.tmo)) 4 (p.den)) 5 (numL p.amt)) 6 (p.frm)) 7 (p.to) = pkL p) := ⟨rfl⟩
  rw [HPL.out] at HL7
  go_wp2_with fail
  go_ret2
  exact ⟨A7, n7, c7', rfl, HL7, HB7.out⟩
end Go.Proofs.YtjjcjdefenbnjaaDoor.ParcelR
