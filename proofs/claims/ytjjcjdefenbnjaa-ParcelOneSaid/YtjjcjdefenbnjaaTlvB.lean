/- tlv.piece, ferrymanref01.piece: contracts over any world. -/
import Derived.Test.YtjjcjdefenbnjaaTlvA
import Derived.Deep.QuietTactic
import Derived.BigQuiet
set_option linter.unusedVariables false
set_option linter.unusedSimpArgs false
namespace Go.Proofs.Ytjjcjdefenbnjaa.TlvB
open Go.RowKit Go.Proofs.Ytjjcjdefenbnjaa.Lib Go.Proofs.Ytjjcjdefenbnjaa.TlvA

/-- Bytes with their length ahead; what is left. -/
def pieceL : List UInt8 → Option (List UInt8 × List UInt8)
  | b0 :: b1 :: r => if b0.toNat * 256 + b1.toNat ≤ r.length then some (r.take (b0.toNat * 256 + b1.toNat), r.drop (b0.toNat * 256 + b1.toNat)) else none
  | _ => none

theorem u8_lt (b : UInt8) : (b.toNat : Int) ≤ 255 := by have := b.toNat_lt; omega
theorem or_i64 (b0 b1 : UInt8) : bits .or .i64 ((b0.toNat : Int) * 256) (b1.toNat : Int) = ((b0.toNat * 256 + b1.toNat : Nat) : Int) := by
  have h0 := u8_lt b0
  have h1 := u8_lt b1
  rw [bits_join .i64 63 (by decide) (fun n h h' => by rw [IntKind.wrap_i64]; omega) 8 _ _ (by omega) (by omega) (by omega) (by omega) (by omega) (by omega)]
  omega
theorem cell1 {w : World} {ad : Addr} {v : Value} (h : w.cell? (ad.add 1) = some v) : w.cell? ⟨ad.block, ad.off + 1, none⟩ = some v := by rw [← add_pos' ad 1 (by omega)]; exact h
theorem cell0 {w : World} {ad : Addr} {v : Value} (h : w.cell? (ad.add 0) = some v) : w.cell? ad = some v := by rw [add_zero'] at h; exact h
theorem u8_i : ∃ i, Try.prog.info? 5 = some i ∧ i.size = 1 := by
  obtain ⟨i, hi, hz⟩ := Option.map_eq_some_iff.1 info_u8
  simp only [Prod.mk.injEq] at hz
  exact ⟨i, hi, hz.2.1⟩

set_option maxHeartbeats 1000000 in
set_option maxRecDepth 100000 in
theorem piece_short (w : World) (A : Option Addr) (n c : Nat) (hn : n < 2) :
    Calls Try.prog 61 #[.slice A n c] w fun e w' => e = .returned (.tuple #[.slice none 0 0, .slice none 0 0, .int .i64 4]) ∧ ∃ q, w' = w.drewN q := by
  have hb : decide (n < 2) = true := by simp; omega
  have hb' : decide ((n : Int) < 2) = true := by simp; omega
  go_enter Try.func61, Try.ntmps61
  go_wp2
  go_ret3
  exact ⟨rfl, 0, rfl⟩

set_option maxHeartbeats 1000000 in
set_option maxRecDepth 100000 in
theorem piece_any (w : World) (F : Nat → Prop) (A : Option Addr) (n c : Nat) (b0 b1 : UInt8) (r : List UInt8) (h : Sl rU8 w F A n c (b0 :: b1 :: r)) :
    Calls Try.prog 61 #[.slice A n c] w fun e w' => (if b0.toNat * 256 + b1.toNat ≤ r.length then
      ∃ A1 c1 A2 c2, e = .returned (.tuple #[.slice A1 (b0.toNat * 256 + b1.toNat) c1, .slice A2 (r.length - (b0.toNat * 256 + b1.toNat)) c2, .int .i64 0]) ∧ Fact (Sl rU8 w F A1 (b0.toNat * 256 + b1.toNat) c1 (r.take (b0.toNat * 256 + b1.toNat)) ∧ Sl rU8 w F A2 (r.length - (b0.toNat * 256 + b1.toNat)) c2 (r.drop (b0.toNat * 256 + b1.toNat)))
      else e = .returned (.tuple #[.slice none 0 0, .slice none 0 0, .int .i64 4])) ∧ ∃ q, w' = w.drewN q := by
  have hlen : r.length + 1 + 1 = n := h.len
  have hmax := h.max_
  have hle := h.le
  obtain ⟨ad, rfl, hF, hc0⟩ := h.byte (i := 0) (b := b0) rfl
  obtain ⟨_, e1, _, hc1⟩ := h.byte (i := 1) (b := b1) rfl
  injection e1 with e1
  subst e1
  have hc0 := cell0 hc0
  have hc1 := cell1 hc1
  obtain ⟨i, hi, hsz⟩ := u8_i
  obtain ⟨A', hs1, hs2⟩ := slice_from (P := Try.prog) rU8 22 5 Try.underlying22 hi hsz (some ad) n c .i64 2 (by omega) (by omega)
  have hr : Sl rU8 w F A' (n - 2) (c - 2) r := hs2 h
  simp only [Int.reduceToNat] at hs1
  have k0 := u8_lt b0
  have k1 := u8_lt b1
  have hor := or_i64 b0 b1
  generalize hm : b0.toNat * 256 + b1.toNat = m at hor ⊢
  have hm' : m ≤ 65535 := by omega
  have hb1 : decide (n < 2) = false := by simp; omega
  have hb1' : decide ((n : Int) < 2) = false := by simp; omega
  have hp0 : (0 : Int) < n := by omega
  have hp1 : (1 : Int) < n := by omega
  have hp0' : 0 < n := by omega
  have hp1' : 1 < n := by omega
  have hrl : n - 2 = r.length := by omega
  rw [hrl] at hs1 hr
  have hsz2 : r.length ≤ 9223372036854775807 := by omega
  have HR := Fact.mk hr
  have HM := Fact.mk hm
  clear hr hm hs2 hi hsz h hlen hrl
  by_cases hlt : m ≤ r.length
  · have hlt1 : decide (r.length < m) = false := by simp; omega
    have hlt2 : decide ((r.length : Int) < m) = false := by simp; omega
    obtain ⟨i, hi, hsz⟩ := u8_i
    obtain ⟨ht1, ht2⟩ := slice_to (P := Try.prog) rU8 22 5 Try.underlying22 hi A' r.length (c - 2) .i64 m (by omega) (by omega) HR.out.le
    obtain ⟨A2, hd1, hd2⟩ := slice_from (P := Try.prog) rU8 22 5 Try.underlying22 hi hsz A' r.length (c - 2) .i64 m (by omega) (by omega)
    simp only [Int.toNat_natCast] at ht1 ht2 hd1 hd2
    have H1 := Fact.mk (And.intro (ht2 HR.out) (hd2 HR.out))
    clear ht2 hd2 hi hsz
    go_enter Try.func61, Try.ntmps61
    go_wp2_with fail
    go_quiet (fail)
    go_wp2_with fail
    go_quiet (fail)
    go_wp2_with fail
    go_ret3
    exact ⟨⟨_, _, _, _, rfl, H1⟩, _, rfl⟩
  · have hlt1 : decide (r.length < m) = true := by simp; omega
    have hlt2 : decide ((r.length : Int) < m) = true := by simp; omega
    go_enter Try.func61, Try.ntmps61
    go_wp2_with fail
    go_quiet (fail)
    go_wp2_with fail
    go_ret3
    exact ⟨rfl, _, rfl⟩

set_option maxHeartbeats 1000000 in
set_option maxRecDepth 100000 in
theorem rpiece_short (w : World) (A : Option Addr) (n c : Nat) (hn : n < 2) :
    Calls Try.prog 62 #[.slice A n c] w fun e w' => e = .returned (.tuple #[.slice none 0 0, .slice none 0 0, .bool false]) ∧ ∃ q, w' = w.drewN q := by
  have hb : decide (n < 2) = true := by simp; omega
  have hb' : decide ((n : Int) < 2) = true := by simp; omega
  go_enter Try.func62, Try.ntmps62
  go_wp2_with fail
  go_quiet (fail)
  go_wp2_with fail
  go_ret3
  exact ⟨rfl, _, rfl⟩

set_option maxHeartbeats 1000000 in
set_option maxRecDepth 100000 in
theorem rpiece_any (w : World) (F : Nat → Prop) (A : Option Addr) (n c : Nat) (b0 b1 : UInt8) (r : List UInt8) (h : Sl rU8 w F A n c (b0 :: b1 :: r)) :
    Calls Try.prog 62 #[.slice A n c] w fun e w' => (if b0.toNat * 256 + b1.toNat ≤ r.length then
      ∃ A1 c1 A2 c2, e = .returned (.tuple #[.slice A1 (b0.toNat * 256 + b1.toNat) c1, .slice A2 (r.length - (b0.toNat * 256 + b1.toNat)) c2, .bool true]) ∧ Fact (Sl rU8 w F A1 (b0.toNat * 256 + b1.toNat) c1 (r.take (b0.toNat * 256 + b1.toNat)) ∧ Sl rU8 w F A2 (r.length - (b0.toNat * 256 + b1.toNat)) c2 (r.drop (b0.toNat * 256 + b1.toNat)))
      else e = .returned (.tuple #[.slice none 0 0, .slice none 0 0, .bool false])) ∧ ∃ q, w' = w.drewN q := by
  have hlen : r.length + 1 + 1 = n := h.len
  have hmax := h.max_
  have hle := h.le
  have HH := Fact.mk h
  obtain ⟨ad, rfl, hF, hc0⟩ := h.byte (i := 0) (b := b0) rfl
  obtain ⟨_, e1, _, hc1⟩ := h.byte (i := 1) (b := b1) rfl
  injection e1 with e1
  subst e1
  have hc0 := cell0 hc0
  have hc1 := cell1 hc1
  have k0 := u8_lt b0
  have k1 := u8_lt b1
  have hsum : (b0.toNat : Int) * 256 + (b1.toNat : Int) = ((b0.toNat * 256 + b1.toNat : Nat) : Int) := by omega
  generalize hm : b0.toNat * 256 + b1.toNat = m at hsum ⊢
  have hm' : m ≤ 65535 := by omega
  have hb1 : decide (n < 2) = false := by simp; omega
  have hb1' : decide ((n : Int) < 2) = false := by simp; omega
  have hp0 : (0 : Int) < n := by omega
  have hp1 : (1 : Int) < n := by omega
  have hp0' : 0 < n := by omega
  have hp1' : 1 < n := by omega
  have hw1 : IntKind.i64.wrap ((n : Int) - 2) = (n : Int) - 2 := by rw [IntKind.wrap_i64]; omega
  have HM := Fact.mk hm
  have HL := Fact.mk hlen
  clear hm h
  by_cases hlt : m ≤ r.length
  · have hlt1 : decide ((n : Int) - 2 < m) = false := by simp; omega
    obtain ⟨i, hi, hsz⟩ := u8_i
    obtain ⟨A1, ht1, ht2⟩ := slice_mid (P := Try.prog) rU8 22 5 Try.underlying22 hi hsz (some ad) n c .i64 .i64 2 (2 + (m : Int)) (by omega) (by omega) (by omega) (by omega)
    obtain ⟨A2, hd1, hd2⟩ := slice_from (P := Try.prog) rU8 22 5 Try.underlying22 hi hsz (some ad) n c .i64 (2 + (m : Int)) (by omega) (by omega)
    have e2 : (2 + (m : Int)).toNat = m + 2 := by omega
    have e3 : (2 : Int).toNat = 2 := rfl
    have e4 : n - (m + 2) = r.length - m := by omega
    have e5 : m + 2 - 2 = m := by omega
    rw [e2, e3, e5] at ht1 ht2
    rw [e2, e4] at hd1 hd2
    have hw3 : IntKind.i64.wrap (2 + (m : Int)) = 2 + (m : Int) := by rw [IntKind.wrap_i64]; omega
    have hw4 : 0 ≤ 2 + (m : Int) := by omega
    have H1 : Fact (Sl rU8 w F A1 m (c - 2) (r.take m) ∧ Sl rU8 w F A2 (r.length - m) (c - (m + 2)) (r.drop m)) := ⟨ht2 HH.out, hd2 HH.out⟩
    clear ht2 hd2 hi hsz e2 e3 e4 e5 hlen
    go_enter Try.func62, Try.ntmps62
    go_wp2_with fail
    go_quiet (fail)
    go_wp2_with fail
    go_quiet (fail)
    go_wp2_with fail
    go_quiet (fail)
    go_wp2_with fail
    go_ret3
    exact ⟨⟨_, _, _, _, rfl, H1⟩, _, rfl⟩
  · have hlt1 : decide ((n : Int) - 2 < m) = true := by simp; omega
    clear hlen
    go_enter Try.func62, Try.ntmps62
    go_wp2_with fail
    go_quiet (fail)
    go_wp2_with fail
    go_ret3
    exact ⟨rfl, _, rfl⟩

theorem piece_len {l v rest : List UInt8} (h : pieceL l = some (v, rest)) : v.length ≤ 65535 ∧ v.length + rest.length + 2 = l.length := by
  unfold pieceL at h
  split at h
  · rename_i b0 b1 r
    split at h
    · rename_i hle
      simp only [Option.some.injEq, Prod.mk.injEq] at h
      obtain ⟨rfl, rfl⟩ := h
      have := b0.toNat_lt
      have := b1.toNat_lt
      simp
      omega
    · cases h
  · cases h

theorem piece_some (w : World) (F : Nat → Prop) (A : Option Addr) (n c : Nat) (l v rest : List UInt8) (hp : pieceL l = some (v, rest)) (h : Sl rU8 w F A n c l) :
    Calls Try.prog 61 #[.slice A n c] w fun e w' => ∃ A1 c1 A2 c2, e = .returned (.tuple #[.slice A1 v.length c1, .slice A2 rest.length c2, .int .i64 0]) ∧ Fact (Sl rU8 w F A1 v.length c1 v ∧ Sl rU8 w F A2 rest.length c2 rest) ∧ ∃ q, w' = w.drewN q := by
  match l, hp, h with
  | [], hp, _ => cases hp
  | [_], hp, _ => cases hp
  | b0 :: b1 :: r, hp, h =>
    have hp0 := hp
    simp only [pieceL] at hp
    split at hp
    · rename_i hle
      simp only [Option.some.injEq, Prod.mk.injEq] at hp
      obtain ⟨rfl, rfl⟩ := hp
      refine (piece_any w F A n c b0 b1 r h).mono ?_
      intro e w' hh
      rw [if_pos hle] at hh
      obtain ⟨⟨A1, c1, A2, c2, he, hs⟩, hq⟩ := hh
      exact ⟨A1, c1, A2, c2, by rw [he, List.length_take, List.length_drop, Nat.min_eq_left hle], by rw [List.length_take, List.length_drop, Nat.min_eq_left hle]; exact hs, hq⟩
    · cases hp
theorem piece_none (w : World) (F : Nat → Prop) (A : Option Addr) (n c : Nat) (l : List UInt8) (hp : pieceL l = none) (h : Sl rU8 w F A n c l) :
    Calls Try.prog 61 #[.slice A n c] w fun e w' => e = .returned (.tuple #[.slice none 0 0, .slice none 0 0, .int .i64 4]) ∧ ∃ q, w' = w.drewN q := by
  match l, hp, h with
  | [], _, h => exact piece_short w A n c (by have := h.len; simp at this; omega)
  | [_], _, h => exact piece_short w A n c (by have := h.len; simp at this; omega)
  | b0 :: b1 :: r, hp, h =>
    simp only [pieceL] at hp
    split at hp
    · cases hp
    · rename_i hle
      refine (piece_any w F A n c b0 b1 r h).mono ?_
      intro e w' hh
      rw [if_neg hle] at hh
      exact hh
theorem rpiece_some (w : World) (F : Nat → Prop) (A : Option Addr) (n c : Nat) (l v rest : List UInt8) (hp : pieceL l = some (v, rest)) (h : Sl rU8 w F A n c l) :
    Calls Try.prog 62 #[.slice A n c] w fun e w' => ∃ A1 c1 A2 c2, e = .returned (.tuple #[.slice A1 v.length c1, .slice A2 rest.length c2, .bool true]) ∧ Fact (Sl rU8 w F A1 v.length c1 v ∧ Sl rU8 w F A2 rest.length c2 rest) ∧ ∃ q, w' = w.drewN q := by
  match l, hp, h with
  | [], hp, _ => cases hp
  | [_], hp, _ => cases hp
  | b0 :: b1 :: r, hp, h =>
    have hp0 := hp
    simp only [pieceL] at hp
    split at hp
    · rename_i hle
      simp only [Option.some.injEq, Prod.mk.injEq] at hp
      obtain ⟨rfl, rfl⟩ := hp
      refine (rpiece_any w F A n c b0 b1 r h).mono ?_
      intro e w' hh
      rw [if_pos hle] at hh
      obtain ⟨⟨A1, c1, A2, c2, he, hs⟩, hq⟩ := hh
      exact ⟨A1, c1, A2, c2, by rw [he, List.length_take, List.length_drop, Nat.min_eq_left hle], by rw [List.length_take, List.length_drop, Nat.min_eq_left hle]; exact hs, hq⟩
    · cases hp
theorem rpiece_none (w : World) (F : Nat → Prop) (A : Option Addr) (n c : Nat) (l : List UInt8) (hp : pieceL l = none) (h : Sl rU8 w F A n c l) :
    Calls Try.prog 62 #[.slice A n c] w fun e w' => e = .returned (.tuple #[.slice none 0 0, .slice none 0 0, .bool false]) ∧ ∃ q, w' = w.drewN q := by
  match l, hp, h with
  | [], _, h => exact rpiece_short w A n c (by have := h.len; simp at this; omega)
  | [_], _, h => exact rpiece_short w A n c (by have := h.len; simp at this; omega)
  | b0 :: b1 :: r, hp, h =>
    simp only [pieceL] at hp
    split at hp
    · cases hp
    · rename_i hle
      refine (rpiece_any w F A n c b0 b1 r h).mono ?_
      intro e w' hh
      rw [if_neg hle] at hh
      exact hh
end Go.Proofs.Ytjjcjdefenbnjaa.TlvB
