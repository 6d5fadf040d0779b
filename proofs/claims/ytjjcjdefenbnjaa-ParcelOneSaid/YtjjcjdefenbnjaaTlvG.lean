/- tlv.Value, ferrymanref01.Value, ferrymanref01.Put, the awake call of chapter 2: contracts over any world. -/
import Derived.Test.YtjjcjdefenbnjaaTlvF
set_option linter.unusedVariables false
set_option linter.unusedSimpArgs false
namespace Go.Proofs.Ytjjcjdefenbnjaa.TlvG
open Go.RowKit Go.Proofs.Ytjjcjdefenbnjaa.Lib Go.Proofs.Ytjjcjdefenbnjaa.Reg Go.Proofs.Ytjjcjdefenbnjaa.TlvA Go.Proofs.Ytjjcjdefenbnjaa.TlvB Go.Proofs.Ytjjcjdefenbnjaa.TlvF

/-- What bytes are worth. -/
def valL (l : List UInt8) : Nat := l.foldl (fun a b => a * 256 + b.toNat) 0
theorem valL_snoc (l : List UInt8) (b : UInt8) : valL (l ++ [b]) = valL l * 256 + b.toNat := by simp [valL]
theorem fold_lt (l : List UInt8) : ∀ a : Nat, l.foldl (fun a b => a * 256 + b.toNat) a + 1 ≤ (a + 1) * 256 ^ l.length := by
  induction l with
  | nil => intro a; simp
  | cons b l ih =>
    intro a
    have h1 := ih (a * 256 + b.toNat)
    have h2 := b.toNat_lt
    have h3 : (a * 256 + b.toNat + 1) * 256 ^ l.length ≤ ((a + 1) * 256) * 256 ^ l.length := Nat.mul_le_mul_right _ (by omega)
    simp only [List.foldl_cons, List.length_cons, Nat.pow_succ]
    rw [Nat.mul_comm (256 ^ l.length) 256, ← Nat.mul_assoc]
    omega
theorem valL_lt (l : List UInt8) : valL l < 256 ^ l.length := by
  have := fold_lt l 0
  simp only [Nat.zero_add, Nat.one_mul] at this
  exact this
theorem valL_lt7 (l : List UInt8) (h : l.length ≤ 7) : valL l < 72057594037927936 :=
  Nat.lt_of_lt_of_le (valL_lt l) (Nat.le_trans (Nat.pow_le_pow_right (by omega) h) (by decide))
theorem valL_take {l : List UInt8} {k : Nat} {b : UInt8} (h : l[k]? = some b) : valL (l.take (k + 1)) = valL (l.take k) * 256 + b.toNat := by
  obtain ⟨hl, hv⟩ := List.getElem?_eq_some_iff.1 h
  subst hv
  rw [List.take_succ_eq_append_getElem hl, valL_snoc]
theorem or_u64 (m : Nat) (hm : m < 72057594037927936) (c : UInt8) : bits .or .u64 ((m : Int) * 256) (c.toNat : Int) = ((m * 256 + c.toNat : Nat) : Int) := by
  have h1 := u8_lt c
  rw [bits_join .u64 64 (by decide) (fun n h h' => by rw [IntKind.wrap_u64]; omega) 8 _ _ (by omega) (by omega) (by omega) (by omega) (by omega) (by omega)]
  omega
/-- Bytes of a number: no more than eight, none of nought ahead. -/
def isNum (l : List UInt8) : Bool := decide (l.length ≤ 8) && l.head? != some 0

set_option maxHeartbeats 1000000 in
set_option maxRecDepth 100000 in
theorem Value_long (w : World) (A : Option Addr) (n c : Nat) (hn : 8 < n) (hm : n ≤ 9223372036854775807) :
    Calls Try.prog 23 #[.slice A n c] w fun e w' => e = .returned (.tuple #[.int .u64 0, .int .i64 7]) ∧ w' = w := by
  have h1 : decide (8 < n) = true := by simp; omega
  have h2 : decide ((8 : Int) < n) = true := by simp; omega
  go_enter Try.func23, Try.ntmps23
  go_wp2_with fail
  go_ret2
  exact ⟨rfl, rfl⟩
set_option maxHeartbeats 1000000 in
set_option maxRecDepth 100000 in
theorem RValue_long (w : World) (A : Option Addr) (n c : Nat) (hn : 8 < n) (hm : n ≤ 9223372036854775807) :
    Calls Try.prog 24 #[.slice A n c] w fun e w' => e = .returned (.tuple #[.int .u64 0, .bool false]) ∧ w' = w := by
  have h1 : decide (8 < n) = true := by simp; omega
  have h2 : decide ((8 : Int) < n) = true := by simp; omega
  go_enter Try.func24, Try.ntmps24
  go_wp2_with fail
  go_ret2
  exact ⟨rfl, rfl⟩
set_option maxHeartbeats 1000000 in
set_option maxRecDepth 100000 in
theorem Value_nought (w : World) (F : Nat → Prop) (A : Option Addr) (n c : Nat) (r : List UInt8) (h : Sl rU8 w F A n c (0 :: r)) (hn : n ≤ 8) :
    Calls Try.prog 23 #[.slice A n c] w fun e w' => e = .returned (.tuple #[.int .u64 0, .int .i64 7]) ∧ w' = w := by
  have hp : 0 < n := by have := h.len; simp at this; omega
  have h1 : decide (8 < n) = false := by simp; omega
  have h2 : decide ((8 : Int) < n) = false := by simp; omega
  have h3 : decide (0 < n) = true := by simp; omega
  have h4 : decide ((0 : Int) < n) = true := by simp; omega
  obtain ⟨ad, rfl, hfa, hcell⟩ := h.byte (i := 0) (b := 0) rfl
  have hcell : w.cell? ad = some (.int .u8 0) := cell0 hcell
  have hp' : (0 : Int) < n := by omega
  clear h
  go_enter Try.func23, Try.ntmps23
  go_wp2_with fail
  go_ret2
  exact ⟨rfl, rfl⟩
set_option maxHeartbeats 1000000 in
set_option maxRecDepth 100000 in
theorem RValue_nought (w : World) (F : Nat → Prop) (A : Option Addr) (n c : Nat) (r : List UInt8) (h : Sl rU8 w F A n c (0 :: r)) (hn : n ≤ 8) :
    Calls Try.prog 24 #[.slice A n c] w fun e w' => e = .returned (.tuple #[.int .u64 0, .bool false]) ∧ w' = w := by
  have hp : 0 < n := by have := h.len; simp at this; omega
  have h1 : decide (8 < n) = false := by simp; omega
  have h2 : decide ((8 : Int) < n) = false := by simp; omega
  have h3 : decide (0 < n) = true := by simp; omega
  have h4 : decide ((0 : Int) < n) = true := by simp; omega
  obtain ⟨ad, rfl, hfa, hcell⟩ := h.byte (i := 0) (b := 0) rfl
  have hcell : w.cell? ad = some (.int .u8 0) := cell0 hcell
  have hp' : (0 : Int) < n := by omega
  clear h
  go_enter Try.func24, Try.ntmps24
  go_wp2_with fail
  go_ret2
  exact ⟨rfl, rfl⟩

set_option maxHeartbeats 1000000 in
set_option maxRecDepth 100000 in
theorem Value_right (w : World) (F : Nat → Prop) (A : Option Addr) (n c : Nat) (l : List UInt8) (h : Sl rU8 w F A n c l) (hn : n ≤ 8) (h0 : l.head? ≠ some 0) :
    Calls Try.prog 23 #[.slice A n c] w fun e w' => e = .returned (.tuple #[.int .u64 (valL l : Int), .int .i64 0]) ∧ w' = w := by
  have h1 : decide (8 < n) = false := by simp; omega
  have h2 : decide ((8 : Int) < n) = false := by simp; omega
  have H := Fact.mk h
  rcases Nat.eq_zero_or_pos n with hz | hp
  · subst hz
    obtain rfl : l = [] := List.eq_nil_of_length_eq_zero h.len
    clear h h0
    go_enter Try.func23, Try.ntmps23
    go_wp2_with fail
    go_loopg [4, 23] 0 (fun kq m i wr => m = .int .u64 0 ∧ i = .int .i64 0 ∧ wr = w)
    case atStart => exact ⟨rfl, rfl, rfl⟩
    case round =>
      obtain ⟨rfl, rfl, rfl⟩ := hrel
      go_wp2_with fail
      go_ret2
      exact ⟨rfl, rfl⟩
  · match l, h, h0 with
    | [], h, _ => have := h.len; simp at this; omega
    | t :: r, h, h0 =>
      have h3 : decide (0 < n) = true := by simp; omega
      have h4 : decide ((0 : Int) < n) = true := by simp; omega
      obtain ⟨ad, rfl, hfa, hcell⟩ := h.byte (i := 0) (b := t) rfl
      have hcell := cell0 hcell
      have hp' : (0 : Int) < n := by omega
      have hz : ((t.toNat : Int) == 0) = false := by
        rw [beq_eq_false_iff_ne]
        intro h
        exact h0 (by rw [UInt8.toNat_inj.1 (show t.toNat = (0 : UInt8).toNat by simpa using h)]; rfl)
      have hl : n = (t :: r).length := h.len.symm
      have HL := Fact.mk hl
      have HH := Fact.mk h
      clear h h0 hl H
      go_enter Try.func23, Try.ntmps23
      go_wp2_with fail
      go_loopg [4, 23] n (fun kq m i wr => ∃ (k a : Nat), m = .int .u64 (a : Int) ∧ i = .int .i64 (k : Int) ∧ wr = w ∧ Fact (k + kq = n) ∧ Fact (a = valL ((t :: r).take k)))
      case atStart => exact ⟨0, 0, rfl, rfl, rfl, ⟨by omega⟩, ⟨rfl⟩⟩
      case round =>
        obtain ⟨k, a, rfl, rfl, rfl, HK, HA⟩ := hrel
        by_cases hlt : k < n
        · obtain ⟨b, hb⟩ : ∃ b, (t :: r)[k]? = some b := ⟨_, List.getElem?_eq_getElem (by rw [← HL.out]; exact hlt)⟩
          obtain ⟨ad', e, _, hck⟩ := HH.out.byte hb
          injection e with e
          subst e
          have ha : a < 72057594037927936 := by rw [HA.out]; exact valL_lt7 _ (by rw [List.length_take]; omega)
          have hor := or_u64 a ha b
          have hv := valL_take hb
          have hb1 := u8_lt b
          have HV := Fact.mk hv
          have HB := Fact.mk hb
          clear hv hb
          go_wp2_with fail
          go_roundg (n - (k + 1))
          case measure => have := HK.out; omega
          case rel => exact ⟨k + 1, a * 256 + b.toNat, rfl, by go_num, rfl, ⟨by omega⟩, ⟨by rw [HV.out, HA.out]⟩⟩
        · go_wp2_with fail
          go_ret2
          have e : (t :: r).take k = t :: r := List.take_of_length_le (by rw [← HL.out]; omega)
          have e2 : valL (t :: r) = a := by rw [HA.out, e]
          exact ⟨by rw [e2]; rfl, rfl⟩

set_option maxHeartbeats 1000000 in
set_option maxRecDepth 100000 in
theorem RValue_right (w : World) (F : Nat → Prop) (A : Option Addr) (n c : Nat) (l : List UInt8) (h : Sl rU8 w F A n c l) (hn : n ≤ 8) (h0 : l.head? ≠ some 0) :
    Calls Try.prog 24 #[.slice A n c] w fun e w' => e = .returned (.tuple #[.int .u64 (valL l : Int), .bool true]) ∧ w' = w := by
  have h1 : decide (8 < n) = false := by simp; omega
  have h2 : decide ((8 : Int) < n) = false := by simp; omega
  have H := Fact.mk h
  rcases Nat.eq_zero_or_pos n with hz | hp
  · subst hz
    obtain rfl : l = [] := List.eq_nil_of_length_eq_zero h.len
    clear h h0
    go_enter Try.func24, Try.ntmps24
    go_wp2_with fail
    go_loopg [4, 5] 0 (fun kq m i wr => m = .int .u64 0 ∧ i = .int .i64 0 ∧ wr = w)
    case atStart => exact ⟨rfl, rfl, rfl⟩
    case round =>
      obtain ⟨rfl, rfl, rfl⟩ := hrel
      go_wp2_with fail
      go_ret2
      exact ⟨rfl, rfl⟩
  · match l, h, h0 with
    | [], h, _ => have := h.len; simp at this; omega
    | t :: r, h, h0 =>
      have h3 : decide (0 < n) = true := by simp; omega
      have h4 : decide ((0 : Int) < n) = true := by simp; omega
      obtain ⟨ad, rfl, hfa, hcell⟩ := h.byte (i := 0) (b := t) rfl
      have hcell := cell0 hcell
      have hp' : (0 : Int) < n := by omega
      have hz : ((t.toNat : Int) == 0) = false := by
        rw [beq_eq_false_iff_ne]
        intro h
        exact h0 (by rw [UInt8.toNat_inj.1 (show t.toNat = (0 : UInt8).toNat by simpa using h)]; rfl)
      have hl : n = (t :: r).length := h.len.symm
      have HL := Fact.mk hl
      have HH := Fact.mk h
      clear h h0 hl H
      go_enter Try.func24, Try.ntmps24
      go_wp2_with fail
      go_loopg [4, 5] n (fun kq m i wr => ∃ (k a : Nat), m = .int .u64 (a : Int) ∧ i = .int .i64 (k : Int) ∧ wr = w ∧ Fact (k + kq = n) ∧ Fact (a = valL ((t :: r).take k)))
      case atStart => exact ⟨0, 0, rfl, rfl, rfl, ⟨by omega⟩, ⟨rfl⟩⟩
      case round =>
        obtain ⟨k, a, rfl, rfl, rfl, HK, HA⟩ := hrel
        by_cases hlt : k < n
        · obtain ⟨b, hb⟩ : ∃ b, (t :: r)[k]? = some b := ⟨_, List.getElem?_eq_getElem (by rw [← HL.out]; exact hlt)⟩
          obtain ⟨ad', e, _, hck⟩ := HH.out.byte hb
          injection e with e
          subst e
          have ha : a < 72057594037927936 := by rw [HA.out]; exact valL_lt7 _ (by rw [List.length_take]; omega)
          have hv := valL_take hb
          have hb1 := u8_lt b
          have HV := Fact.mk hv
          have HB := Fact.mk hb
          clear hv hb
          go_wp2_with fail
          go_roundg (n - (k + 1))
          case measure => have := HK.out; omega
          case rel => exact ⟨k + 1, a * 256 + b.toNat, by go_num, by go_num, rfl, ⟨by omega⟩, ⟨by rw [HV.out, HA.out]⟩⟩
        · go_wp2_with fail
          go_ret2
          have e : (t :: r).take k = t :: r := List.take_of_length_le (by rw [← HL.out]; omega)
          have e2 : valL (t :: r) = a := by rw [HA.out, e]
          exact ⟨by rw [e2]; rfl, rfl⟩
end Go.Proofs.Ytjjcjdefenbnjaa.TlvG
