/- ferrymanref01.Eight, Num; tlv.Num; tlv.Value, ferrymanref01.Value: contracts over any world. -/
import Derived.Test.YtkmcjokoinoahaaDoorTlvE
set_option linter.unusedVariables false
set_option linter.unusedSimpArgs false
namespace Go.Proofs.YtkmcjokoinoahaaDoor.TlvF
open Go.RowKit Go.Proofs.YtkmcjokoinoahaaDoor.Lib Go.Proofs.YtkmcjokoinoahaaDoor.Reg Go.Proofs.YtkmcjokoinoahaaDoor.TlvA Go.Proofs.YtkmcjokoinoahaaDoor.TlvB

/-- The digit of weight 256^k. -/
def dig (n k : Nat) : UInt8 := lo (n / 256 ^ k)
/-- A number's eight bytes. -/
def eightL (n : Nat) : List UInt8 := [dig n 7, dig n 6, dig n 5, dig n 4, dig n 3, dig n 2, dig n 1, dig n 0]
theorem eight_len (n : Nat) : (eightL n).length = 8 := rfl
theorem eight_get (n k : Nat) (h : k < 8) : (eightL n)[k]? = some (dig n (7 - k)) := by
  match k, h with
  | 0, _ | 1, _ | 2, _ | 3, _ | 4, _ | 5, _ | 6, _ | 7, _ => rfl
theorem eight_take (n k : Nat) (h : k < 8) : (eightL n).take (k + 1) = (eightL n).take k ++ [dig n (7 - k)] := by
  rw [List.take_add_one, eight_get n k h]; rfl
/-- As few bytes as may be. -/
def numL (n : Nat) : List UInt8 := (eightL n).dropWhile (· == 0)
theorem pow256 (k : Nat) : (2 : Nat) ^ (8 * k) = 256 ^ k := by rw [Nat.pow_mul]

theorem dig_int (n k : Nat) : (n : Int) / 2 ^ (8 * k) % 256 = ((dig n k).toNat : Int) := by
  unfold dig
  rw [lo_int, Int.pow_mul, Int.natCast_ediv, Int.natCast_pow]
  rfl
theorem dig_int' (n k : Nat) (h : k < 8) : (n : Int) / 2 ^ (56 - 8 * k) % 256 = ((dig n (7 - k)).toNat : Int) := by
  rw [show 56 - 8 * k = 8 * (7 - k) by omega]
  exact dig_int n (7 - k)
theorem drop_snoc (xs : List UInt8) (c : UInt8) : (xs ++ [c]).dropWhile (· == 0) = if xs.dropWhile (· == 0) = [] then (if c = 0 then [] else [c]) else xs.dropWhile (· == 0) ++ [c] := by
  induction xs with
  | nil => simp [List.dropWhile]; split <;> simp_all
  | cons x xs ih =>
    by_cases h : x = 0
    · subst h; simpa [List.dropWhile] using ih
    · have hx : (x == 0) = false := by simpa using h
      simp [List.dropWhile, hx]
theorem num_len (n : Nat) : (numL n).length ≤ 8 := by
  unfold numL
  exact Nat.le_trans (List.dropWhile_sublist _).length_le (Nat.le_of_eq (eight_len n))

set_option maxHeartbeats 1000000 in
set_option maxRecDepth 100000 in
theorem Eight_calls (w : World) (ni : Int) (n : Nat) (hn : ni = (n : Int)) (hlt : n < 18446744073709551616) :
    Calls Tryd.prog 90 #[.int .u64 ni] w fun e w' => ∃ v, e = .returned v ∧ Fact (Ow rU8 5 w' w.heap.size (fun _ => False) v (eightL n)) ∧ Below w.heap.size w w' := by
  have HBr := Fact.mk (Below.refl w.heap.size w)
  subst hn
  go_enter Tryd.func90, Tryd.ntmps90
  go_wp2_with fail
  go_loopg [3, 4] 8 (fun kq out i wr => ∃ (k : Nat), i = .int .i64 (k : Int) ∧ Fact (k + kq = 8) ∧ Fact (Ow rU8 5 wr w.heap.size (fun _ => False) out ((eightL n).take k)) ∧ Fact (Below w.heap.size w wr))
  case atStart => exact ⟨0, rfl, ⟨by omega⟩, ⟨Ow.nil _ _ _ _ _⟩, HBr⟩
  case round =>
    obtain ⟨k, rfl, HK, HO, HB⟩ := hrel
    by_cases hlt : k < 8
    · have HLT := Fact.mk hlt
      go_wp2_with (at_builtin
                   refine wpList_app rU8 (w0 := w) w.heap.size rfl (.tmp 9) (.tmp 16) 129 5 (.int .u8 0) 1 rfl Tryd.underlying129 info_u8 rfl (by decide) (by decide) (fun _ => False) (fun k => k = wr.heap.size) u3 ((eightL n).take k) [dig n (7 - k)] _ 1 1 rfl rfl
                     (HO.out.below ((Below.refl _ _).alloc (Nat.le_refl _) _) (fun _ h => h.elim)) (Sl.boxB wr _ (by rw [dig_int' n k HLT.out]; rfl) rfl (by omega)) (HB.out.alloc HB.out.size _) (by have := HB.out.size; simp; omega) (by rw [List.length_take, eight_len]; omega) (fun _ h => h.elim) (fun _ _ h => h) ?_
                   intro v2 w2 ho2 hb2 hg2 hat2
                   have HO2 := Fact.mk ho2
                   have HB2 := Fact.mk hb2
                   clear ho2 hb2 hg2 hat2)
      go_roundg (8 - (k + 1))
      case measure => have := HK.out; omega
      case rel => exact ⟨k + 1, by go_num, ⟨by omega⟩, ⟨by rw [eight_take n k hlt]; exact HO2.out⟩, HB2⟩
    · go_wp2_with fail
      go_ret
      have : (eightL n).take k = eightL n := List.take_of_length_le (by rw [eight_len]; omega)
      exact ⟨_, rfl, ⟨by have h := HO.out; rw [this] at h; exact h⟩, HB.out⟩

set_option maxHeartbeats 1000000 in
set_option maxRecDepth 100000 in
theorem RNum_calls (w : World) (ni : Int) (n : Nat) (hn : ni = (n : Int)) (hlt : n < 18446744073709551616) :
    Calls Tryd.prog 81 #[.int .u64 ni] w fun e w' => ∃ A c, e = .returned (.slice A (numL n).length c) ∧ Fact (Sl rU8 w' (fun k => w.heap.size ≤ k ∧ k < w'.heap.size) A (numL n).length c (numL n)) ∧ Below w.heap.size w w' := by
  go_enter Tryd.func81, Tryd.ntmps81
  have HN := Fact.mk hn
  clear hn
  go_wp2_with (go_at_call 90; refine (Eight_calls _ _ n HN.out hlt).mono ?_; rintro e w1 ⟨v1, rfl, HO, hb⟩; have HB := Fact.mk hb; clear hb; obtain ⟨A1, c1, hv, hs⟩ := HO.out.sl; subst hv; have HS : Fact (Sl rU8 w1 (fun k => w.heap.size ≤ k ∧ k < w1.heap.size) A1 (eightL n).length c1 (eightL n)) := ⟨hs.mono (fun k hk => hk.elim False.elim (fun h => HO.out.lt k h))⟩; clear hs)
  simp only [eight_len] at HS
  go_loopg [3] 8 (fun kq b wr => ∃ (A' : Option Addr) (n' c' : Nat) (l' : List UInt8), b = .slice A' n' c' ∧ n' ≤ kq ∧ kq ≤ 8 ∧ wr = w1 ∧ Fact (Sl rU8 w1 (fun k => w.heap.size ≤ k ∧ k < w1.heap.size) A' n' c' l') ∧ Fact (l'.dropWhile (· == 0) = numL n))
  case atStart => exact ⟨A1, 8, c1, eightL n, rfl, by omega, by omega, rfl, HS, ⟨rfl⟩⟩
  case round =>
    obtain ⟨A', n', c', l', rfl, hk, hk8, rfl, HS', HD⟩ := hrel
    match l', HS', HD with
    | [], HS', HD =>
      obtain rfl : n' = 0 := HS'.out.len.symm
      go_wp2_with fail
      go_ret
      have hd : numL n = [] := HD.out.symm
      exact ⟨A', c', by rw [hd]; rfl, ⟨by rw [hd]; exact HS'.out⟩, HB.out⟩
    | t :: r, HS', HD =>
      have hlen : r.length + 1 = n' := HS'.out.len
      have hp : 0 < n' := by omega
      have hp' : (0 : Int) < n' := by omega
      obtain ⟨ad, rfl, hfa, hcell⟩ := HS'.out.byte (i := 0) (b := t) rfl
      have hcell := cell0 hcell
      obtain ⟨i, hi, hsz⟩ := u8_i
      obtain ⟨A2, hs1, hs2⟩ := slice_from (P := Tryd.prog) rU8 129 5 Tryd.underlying129 hi hsz (some ad) n' c' .i64 1 (by omega) (by omega)
      have HS2 := Fact.mk (hs2 HS'.out)
      simp only [Int.reduceToNat] at hs1 HS2
      clear hs2 hi hsz
      have HL := Fact.mk hlen
      clear hlen
      by_cases ht : t = 0
      · have hz : ((t.toNat : Int) == 0) = true := by rw [ht]; rfl
        have HT := Fact.mk ht
        clear ht
        go_wp2_with fail
        go_roundg (n' - 1)
        case measure => omega
        case rel => exact ⟨A2, n' - 1, c' - 1, r, rfl, by omega, by omega, rfl, HS2, ⟨by rw [← HD.out, HT.out]; rfl⟩⟩
      · have hz : ((t.toNat : Int) == 0) = false := by
          rw [beq_eq_false_iff_ne]
          intro h
          exact ht (UInt8.toNat_inj.1 (by simpa using h))
        have HT := Fact.mk ht
        clear ht
        go_wp2_with fail
        go_ret
        have hd : t :: r = numL n := by rw [← HD.out, List.dropWhile_cons_of_neg (by simpa using HT.out)]
        have hl : (numL n).length = n' := by rw [← hd]; exact HL.out
        exact ⟨some ad, c', by rw [hl]; rfl, ⟨by rw [hl, ← hd]; exact HS'.out⟩, HB.out⟩

set_option maxHeartbeats 1000000 in
set_option maxRecDepth 100000 in
theorem Num_calls (w : World) (ni : Int) (n : Nat) (hn : ni = (n : Int)) (hlt : n < 18446744073709551616) :
    Calls Tryd.prog 99 #[.int .u64 ni] w fun e w' => ∃ v, e = .returned v ∧ Fact (Ow rU8 5 w' w.heap.size (fun _ => False) v (numL n)) ∧ Below w.heap.size w w' := by
  have HBr := Fact.mk (Below.refl w.heap.size w)
  subst hn
  go_enter Tryd.func99, Tryd.ntmps99
  go_wp2_with fail
  go_loopg [3, 4] 8 (fun kq out i wr => ∃ (k : Nat) (acc : List UInt8), i = .int .i64 ((kq : Int) - 1) ∧ kq ≤ 8 ∧ acc.length ≤ 8 ∧ Fact (k + kq = 8) ∧ Fact (acc = ((eightL n).take k).dropWhile (· == 0)) ∧ Fact (Ow rU8 5 wr w.heap.size (fun _ => False) out acc) ∧ Fact (Below w.heap.size w wr))
  case atStart => exact ⟨0, [], rfl, by omega, by simp, ⟨by omega⟩, ⟨rfl⟩, ⟨Ow.nil _ _ _ _ _⟩, HBr⟩
  case round =>
    obtain ⟨k, acc, rfl, hk8, hal, HK, HA, HO, HB⟩ := hrel
    obtain ⟨A1, c1, hv, hs⟩ := HO.out.sl
    subst hv
    clear hs
    match gk, hk8, HK with
    | 0, _, HK =>
      go_wp2_with fail
      go_ret
      have e : acc = numL n := by rw [HA.out, List.take_of_length_le (by rw [eight_len]; have := HK.out; omega)]; rfl
      exact ⟨_, rfl, ⟨by rw [← e]; exact HO.out⟩, HB.out⟩
    | j + 1, hk8, HK =>
      have hd := dig_int n j
      have HE : Fact ((eightL n).take (k + 1) = (eightL n).take k ++ [dig n j]) := ⟨by rw [eight_take n k (by have := HK.out; omega), show 7 - k = j by have := HK.out; omega]⟩
      have HD : Fact (((eightL n).take (k + 1)).dropWhile (· == 0) = if acc = [] then (if dig n j = 0 then [] else [dig n j]) else acc ++ [dig n j]) := ⟨by rw [HE.out, drop_snoc, ← HA.out]⟩
      have hlen : (((eightL n).take (k + 1)).dropWhile (· == 0)).length ≤ 8 := Nat.le_trans (List.dropWhile_sublist _).length_le (by rw [List.length_take, eight_len]; omega)
      have HLEN := Fact.mk hlen
      clear HE hlen
      by_cases h0 : dig n j = 0
      · have hd0 : (n : Int) / 2 ^ (8 * j) % 256 = 0 := by rw [hd, h0]; rfl
        have H0 := Fact.mk h0
        clear hd h0
        by_cases ha : acc = []
        · subst ha
          go_wp2_with fail
          go_roundg j
          case measure => omega
          case rel => exact ⟨k + 1, [], by go_num, by omega, by simp, ⟨by have := HK.out; omega⟩, ⟨by rw [HD.out]; simp [H0.out]⟩, HO, HB⟩
        · have hp : decide (0 < acc.length) = true := by simpa using List.length_pos_iff.2 ha
          have hp' : decide ((0 : Int) < acc.length) = true := by simpa using List.length_pos_iff.2 ha
          have HNE := Fact.mk ha
          clear ha
          go_wp2_with (at_builtin; refine wpList_app rU8 (w0 := w) w.heap.size rfl (.tmp 22) (.tmp 24) 129 5 (.int .u8 0) 1 rfl Tryd.underlying129 info_u8 rfl (by decide) (by decide) (fun _ => False) (fun k => k = wr.heap.size) (.slice A1 acc.length c1) acc [dig n j] _ 1 1 rfl rfl (HO.out.below ((Below.refl _ _).alloc (Nat.le_refl _) _) (fun _ h => h.elim)) (Sl.boxB wr _ (by rw [H0.out]; rfl) rfl (by omega)) (HB.out.alloc HB.out.size _) (by have := HB.out.size; simp; omega) (by omega) (fun _ h => h.elim) (fun _ _ h => h) ?_; intro v2 w2 ho2 hb2 hg2 hat2; have HO2 := Fact.mk ho2; have HB2 := Fact.mk hb2; clear ho2 hb2 hg2 hat2)
          go_roundg j
          case measure => omega
          case rel => exact ⟨k + 1, acc ++ [dig n j], by go_num, by omega, by have h := HLEN.out; rw [HD.out, if_neg HNE.out] at h; exact h, ⟨by have := HK.out; omega⟩, ⟨by rw [HD.out, if_neg HNE.out]⟩, HO2, HB2⟩
      · have hz : (((dig n j).toNat : Int) == 0) = false := by
          rw [beq_eq_false_iff_ne]
          intro h
          exact h0 (UInt8.toNat_inj.1 (by simpa using h))
        have hz' : (((dig n j).toNat : Int) != 0) = true := by simpa using hz
        have H0 := Fact.mk h0
        clear h0
        go_wp2_with (at_builtin; refine wpList_app rU8 (w0 := w) w.heap.size rfl (.tmp 22) (.tmp 24) 129 5 (.int .u8 0) 1 rfl Tryd.underlying129 info_u8 rfl (by decide) (by decide) (fun _ => False) (fun k => k = wr.heap.size) (.slice A1 acc.length c1) acc [dig n j] _ 1 1 rfl rfl (HO.out.below ((Below.refl _ _).alloc (Nat.le_refl _) _) (fun _ h => h.elim)) (Sl.boxB wr _ (rfl) rfl (by omega)) (HB.out.alloc HB.out.size _) (by have := HB.out.size; simp; omega) (by omega) (fun _ h => h.elim) (fun _ _ h => h) ?_; intro v2 w2 ho2 hb2 hg2 hat2; have HO2 := Fact.mk ho2; have HB2 := Fact.mk hb2; clear ho2 hb2 hg2 hat2)
        go_roundg j
        case measure => omega
        case rel => exact ⟨k + 1, acc ++ [dig n j], by go_num, by omega, by have h := HLEN.out; rw [HD.out, if_neg H0.out] at h; split at h <;> simp_all, ⟨by have := HK.out; omega⟩, ⟨by rw [HD.out, if_neg H0.out]; split <;> simp_all⟩, HO2, HB2⟩
end Go.Proofs.YtkmcjokoinoahaaDoor.TlvF
