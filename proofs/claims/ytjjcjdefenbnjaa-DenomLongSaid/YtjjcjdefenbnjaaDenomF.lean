/- denom.Escrow, ferrymanlaw13.Name, Awake: contracts over any world. -/
import Derived.Test.YtjjcjdefenbnjaaDenomE
set_option linter.unusedVariables false
set_option linter.unusedSimpArgs false
namespace Go.Proofs.Ytjjcjdefenbnjaa.DenomF
open Go.RowKit Go.Proofs.Ytjjcjdefenbnjaa.Lib Go.Proofs.Ytjjcjdefenbnjaa.Reg Go.Proofs.Ytjjcjdefenbnjaa.DenomA Go.Proofs.Ytjjcjdefenbnjaa.DenomB Go.Proofs.Ytjjcjdefenbnjaa.DenomC Go.Proofs.Ytjjcjdefenbnjaa.DenomD Go.Proofs.Ytjjcjdefenbnjaa.DenomE
def escL (c : Nat) : List UInt8 := [101, 115, 99, 114, 111, 119, 45, UInt8.ofNat (48 + c)]
set_option maxHeartbeats 1000000 in
set_option maxRecDepth 100000 in
theorem Escrow_calls (w : World) (c : Nat) (hc : c < 10) : Calls Try.prog 49 #[.int .i64 (c : Int)] w fun e w' => e = .returned (.string (S (escL c))) ∧ Below w.heap.size w w' := by
  have e0 : IntKind.u64.wrap (c : Int) = c := by rw [IntKind.wrap_u64]; omega
  have e1 : ((c : Int)).tmod 10 = c := by rw [Int.tmod_eq_emod_of_nonneg (by omega)]; omega
  have e1' : (c : Int) % 10 = c := by omega
  have e2 : IntKind.u64.wrap (48 + (c : Int)) = 48 + (c : Int) := by rw [IntKind.wrap_u64]; omega
  have e3 : IntKind.u8.wrap (48 + (c : Int)) = 48 + (c : Int) := by rw [IntKind.wrap_u8]; omega
  obtain ⟨b, hb⟩ : ∃ b : UInt8, UInt8.ofNat (48 + c) = b := ⟨_, rfl⟩
  have hbn : (b.toNat : Int) = 48 + (c : Int) := by rw [← hb, UInt8.toNat_ofNat']; omega
  have hstr : (convert 22 9 (.slice (some ⟨w.heap.size, 0, none⟩) 1 1)).run Try.prog (w.alloc (.cells #[.int .u8 (48 + (c : Int))] 5)) = .ok (.string (S [b])) (w.alloc (.cells #[.int .u8 (48 + (c : Int))] 5)) :=
    run_str _ _ _ Try.underlying22 Try.underlying5 Try.underlying9 (Sl.boxB (xs := [b]) w _ (by simp [vu8, hbn]) rfl (by omega))
  have ha1 : Op.stringOp .add ⟨#[101, 115, 99, 114, 111, 119, 45]⟩ (S [b]) = pure (.string (S [101, 115, 99, 114, 111, 119, 45, b])) := add_run [101, 115, 99, 114, 111, 119, 45] [b] (by simp)
  have hp : escL c = [101, 115, 99, 114, 111, 119, 45, b] := by unfold escL; rw [hb]
  rw [hp]
  clear hp hb hbn
  go_enter Try.func49, Try.ntmps49
  go_wp2_with fail
  go_ret
  exact ⟨rfl, (Below.refl _ _).alloc (Nat.le_refl _) _⟩
/-- What a number says in a name. -/
def nameAt (x : Nat) : List UInt8 := if x % 8 = 7 then [47] else if x % 8 = 6 then [99, 104, UInt8.ofNat (48 + x / 8 % 4), 47] else if x % 8 = 5 then [UInt8.ofNat (48 + x / 8 % 10)] else [UInt8.ofNat (97 + x / 8 % 26)]
def nameL (l : List UInt8) : List UInt8 := (l.take 46).flatMap fun x => nameAt x.toNat
theorem nameAt_len (x : Nat) : (nameAt x).length ≤ 4 := by
  unfold nameAt
  split
  · simp
  · split
    · simp
    · split <;> simp
theorem nameL_len' (l : List UInt8) (k : Nat) : ((l.take k).flatMap fun x => nameAt x.toNat).length ≤ 4 * k := by
  induction k generalizing l with
  | zero => simp
  | succ k ih =>
    cases l with
    | nil => simp
    | cons x r =>
      rw [List.take_succ_cons, List.flatMap_cons, List.length_append]
      have := nameAt_len x.toNat
      have := ih r
      omega
set_option maxHeartbeats 2000000 in
set_option maxRecDepth 100000 in
theorem Name_calls (w : World) (F : Nat → Prop) (A : Option Addr) (n c : Nat) (l : List UInt8) (h : Sl rU8 w F A n c l) (hF : ∀ k, F k → k < w.heap.size) :
    Calls Try.prog 44 #[.slice A n c] w fun e w' => e = .returned (.string (S (nameL l))) ∧ Below w.heap.size w w' := by
  have hlen : l.length = n := h.len
  have hmx : n ≤ 9223372036854775807 := Nat.le_trans h.le h.max_
  have HF := Fact.mk hF
  have H := Fact.mk h
  have HL := Fact.mk hlen
  have HBr := Fact.mk (Below.refl w.heap.size w)
  clear h hF hlen
  go_enter Try.func44, Try.ntmps44
  go_wp2_with fail
  go_loopg [3, 8] n (fun kq s i wr => ∃ (k : Nat) (x : List UInt8), s = .string (S x) ∧ i = .int .i64 (k : Int) ∧ Fact (k + kq = n) ∧ Fact (k ≤ 46) ∧ Fact (x = (l.take k).flatMap fun y => nameAt y.toNat) ∧ Fact (Below w.heap.size w wr))
  case atStart => exact ⟨0, [], rfl, rfl, ⟨by omega⟩, ⟨by omega⟩, ⟨by simp⟩, HBr⟩
  case round =>
    obtain ⟨k, x, rfl, rfl, HK, HK46, HX, HB⟩ := hrel
    have hk46 := HK46.out
    have hxl : x.length ≤ 184 := by rw [HX.out]; have := nameL_len' l k; omega
    by_cases hlt : k < n
    · obtain ⟨y, hy⟩ : ∃ x, l[k]? = some x := ⟨_, List.getElem?_eq_getElem (by rw [HL.out]; exact hlt)⟩
      obtain ⟨ad, rfl, hf, hcell⟩ := H.out.byte hy
      have hcell' : wr.cell? (ad.add k) = some (.int .u8 (y.toNat : Int)) := (cell_same (by rw [block_add]; exact HB.out.block _ (HF.out _ hf))).trans hcell
      have HTK : Fact ((l.take (k + 1)).flatMap (fun y => nameAt y.toNat) = x ++ nameAt y.toNat) := ⟨by
        obtain ⟨hl', hv'⟩ := List.getElem?_eq_some_iff.1 hy
        rw [List.take_succ_eq_append_getElem hl', hv', List.flatMap_append, ← HX.out]
        simp⟩
      have hc8 := y.toNat_lt
      generalize y.toNat = v at hcell' HTK hc8
      clear hcell hy hf
      by_cases hk : 45 < k
      · have kk : decide ((45 : Int) < k) = true := decide_eq_true (by omega)
        have kk' : decide (45 < k) = true := decide_eq_true hk
        have he : x = nameL l := by unfold nameL; rw [HX.out, show k = 46 by omega]
        clear hk
        go_wp2_with fail
        go_ret
        rw [he]
        exact ⟨rfl, HB.out⟩
      · have kk : decide ((45 : Int) < k) = false := decide_eq_false (by omega)
        have kk' : decide (45 < k) = false := decide_eq_false hk
        have t8 : ((v : Int)).tmod 8 = ((v % 8 : Nat) : Int) := by rw [Int.tmod_eq_emod_of_nonneg (by omega)]; omega
        have m8 : (v : Int) % 8 = ((v % 8 : Nat) : Int) := by omega
        have d8 : ((v : Int)).tdiv 8 = ((v / 8 : Nat) : Int) := by rw [Int.tdiv_eq_ediv_of_nonneg (by omega)]; omega
        have q8 : (v : Int) / 8 = ((v / 8 : Nat) : Int) := by omega
        have HVL := Fact.mk hc8
        have HKN := Fact.mk hk
        clear hk
        by_cases h7 : v % 8 = 7
        · have HNA : Fact (nameAt v = [47]) := ⟨by unfold nameAt; rw [if_pos h7]⟩
          have ha1 : Op.stringOp .add (S x) ⟨#[47]⟩ = pure (.string (S (x ++ [47]))) := add_run x [47] (by simp; omega)
          rw [h7] at t8 m8
          have e7 : ((7 : Nat) : Int) = 7 := rfl
          rw [e7] at t8 m8
          go_wp2_with fail
          go_roundg (n - (k + 1))
          case measure => have := HK.out; omega
          case rel => exact ⟨k + 1, _, rfl, by go_num, ⟨by omega⟩, ⟨by have := HKN.out; omega⟩, ⟨by rw [HTK.out, HNA.out]⟩, HB⟩
        · obtain ⟨u, hu⟩ : ∃ u, v % 8 = u := ⟨_, rfl⟩
          rw [hu] at t8 m8
          have u7 : ((u : Int) == 7) = false := by simp; omega
          by_cases h6 : u = 6
          · have HNA0 : Fact (nameAt v = [99, 104, UInt8.ofNat (48 + v / 8 % 4), 47]) := ⟨by unfold nameAt; rw [if_neg h7, if_pos (by omega)]⟩
            have u6 : ((u : Int) == 6) = true := by simp; omega
            obtain ⟨b, hb⟩ : ∃ b : UInt8, UInt8.ofNat (48 + v / 8 % 4) = b := ⟨_, rfl⟩
            have hbn : (b.toNat : Int) = 48 + ((v / 8 % 4 : Nat) : Int) := by rw [← hb, UInt8.toNat_ofNat']; omega
            have t2 : (((v / 8 : Nat) : Int)).tmod 4 = ((v / 8 % 4 : Nat) : Int) := by rw [Int.tmod_eq_emod_of_nonneg (by omega)]; omega
            have m2 : ((v / 8 : Nat) : Int) % 4 = ((v / 8 % 4 : Nat) : Int) := by omega
            obtain ⟨z, hz⟩ : ∃ z, v / 8 % 4 = z := ⟨_, rfl⟩
            obtain ⟨v8, hv8⟩ : ∃ z, v / 8 = z := ⟨_, rfl⟩
            have hzl : z < 4 := by omega
            rw [hz] at hbn t2 m2
            rw [hv8] at t2 m2 d8 q8
            have e3 : IntKind.u8.wrap (48 + (z : Int)) = 48 + (z : Int) := by rw [IntKind.wrap_u8]; omega
            have hstr : (convert 22 9 (.slice (some ⟨wr.heap.size, 0, none⟩) 1 1)).run Try.prog (wr.alloc (.cells #[.int .u8 (48 + (z : Int))] 5)) = .ok (.string (S [b])) (wr.alloc (.cells #[.int .u8 (48 + (z : Int))] 5)) :=
              run_str _ _ _ Try.underlying22 Try.underlying5 Try.underlying9 (Sl.boxB (xs := [b]) wr _ (by simp [vu8, hbn]) rfl (by omega))
            have HBA : Fact (Below w.heap.size w (wr.alloc (.cells #[.int .u8 (48 + (z : Int))] 5))) := ⟨HB.out.alloc HB.out.size _⟩
            have HNA : Fact (nameAt v = [99, 104, b, 47]) := ⟨by rw [HNA0.out, hz, ← hb, hz]⟩
            have ha1 : Op.stringOp .add ⟨#[99, 104]⟩ (S [b]) = pure (.string (S [99, 104, b])) := add_run [99, 104] [b] (by simp)
            have ha2 : Op.stringOp .add (S [99, 104, b]) ⟨#[47]⟩ = pure (.string (S [99, 104, b, 47])) := add_run [99, 104, b] [47] (by simp)
            have ha3 : Op.stringOp .add (S x) (S [99, 104, b, 47]) = pure (.string (S (x ++ [99, 104, b, 47]))) := add_run x [99, 104, b, 47] (by simp; omega)
            clear hz hv8 hb hbn h6 hu h7
            go_wp2_with fail
            go_roundg (n - (k + 1))
            case measure => have := HK.out; omega
            case rel => exact ⟨k + 1, _, rfl, by go_num, ⟨by omega⟩, ⟨by have := HKN.out; omega⟩, ⟨by rw [HTK.out, HNA.out]⟩, HBA⟩
          · have u6 : ((u : Int) == 6) = false := by simp; omega
            by_cases h5 : u = 5
            · have HNA0 : Fact (nameAt v = [UInt8.ofNat (48 + v / 8 % 10)]) := ⟨by unfold nameAt; rw [if_neg h7, if_neg (by omega), if_pos (by omega)]⟩
              have u5 : ((u : Int) == 5) = true := by simp; omega
              obtain ⟨b, hb⟩ : ∃ b : UInt8, UInt8.ofNat (48 + v / 8 % 10) = b := ⟨_, rfl⟩
              have hbn : (b.toNat : Int) = 48 + ((v / 8 % 10 : Nat) : Int) := by rw [← hb, UInt8.toNat_ofNat']; omega
              have t2 : (((v / 8 : Nat) : Int)).tmod 10 = ((v / 8 % 10 : Nat) : Int) := by rw [Int.tmod_eq_emod_of_nonneg (by omega)]; omega
              have m2 : ((v / 8 : Nat) : Int) % 10 = ((v / 8 % 10 : Nat) : Int) := by omega
              obtain ⟨z, hz⟩ : ∃ z, v / 8 % 10 = z := ⟨_, rfl⟩
              obtain ⟨v8, hv8⟩ : ∃ z, v / 8 = z := ⟨_, rfl⟩
              have hzl : z < 10 := by omega
              rw [hz] at hbn t2 m2
              rw [hv8] at t2 m2 d8 q8
              have e3 : IntKind.u8.wrap (48 + (z : Int)) = 48 + (z : Int) := by rw [IntKind.wrap_u8]; omega
              have hstr : (convert 22 9 (.slice (some ⟨wr.heap.size, 0, none⟩) 1 1)).run Try.prog (wr.alloc (.cells #[.int .u8 (48 + (z : Int))] 5)) = .ok (.string (S [b])) (wr.alloc (.cells #[.int .u8 (48 + (z : Int))] 5)) :=
                run_str _ _ _ Try.underlying22 Try.underlying5 Try.underlying9 (Sl.boxB (xs := [b]) wr _ (by simp [vu8, hbn]) rfl (by omega))
              have HBA : Fact (Below w.heap.size w (wr.alloc (.cells #[.int .u8 (48 + (z : Int))] 5))) := ⟨HB.out.alloc HB.out.size _⟩
              have HNA : Fact (nameAt v = [b]) := ⟨by rw [HNA0.out, hz, ← hb, hz]⟩
              have ha3 : Op.stringOp .add (S x) (S [b]) = pure (.string (S (x ++ [b]))) := add_run x [b] (by simp; omega)
              clear hz hv8 hb hbn h5 h6 hu h7
              go_wp2_with fail
              go_roundg (n - (k + 1))
              case measure => have := HK.out; omega
              case rel => exact ⟨k + 1, _, rfl, by go_num, ⟨by omega⟩, ⟨by have := HKN.out; omega⟩, ⟨by rw [HTK.out, HNA.out]⟩, HBA⟩
            · have HNA0 : Fact (nameAt v = [UInt8.ofNat (97 + v / 8 % 26)]) := ⟨by unfold nameAt; rw [if_neg h7, if_neg (by omega), if_neg (by omega)]⟩
              have u5 : ((u : Int) == 5) = false := by simp; omega
              obtain ⟨b, hb⟩ : ∃ b : UInt8, UInt8.ofNat (97 + v / 8 % 26) = b := ⟨_, rfl⟩
              have hbn : (b.toNat : Int) = 97 + ((v / 8 % 26 : Nat) : Int) := by rw [← hb, UInt8.toNat_ofNat']; omega
              have t2 : (((v / 8 : Nat) : Int)).tmod 26 = ((v / 8 % 26 : Nat) : Int) := by rw [Int.tmod_eq_emod_of_nonneg (by omega)]; omega
              have m2 : ((v / 8 : Nat) : Int) % 26 = ((v / 8 % 26 : Nat) : Int) := by omega
              obtain ⟨z, hz⟩ : ∃ z, v / 8 % 26 = z := ⟨_, rfl⟩
              obtain ⟨v8, hv8⟩ : ∃ z, v / 8 = z := ⟨_, rfl⟩
              have hzl : z < 26 := by omega
              rw [hz] at hbn t2 m2
              rw [hv8] at t2 m2 d8 q8
              have e3 : IntKind.u8.wrap (97 + (z : Int)) = 97 + (z : Int) := by rw [IntKind.wrap_u8]; omega
              have hstr : (convert 22 9 (.slice (some ⟨wr.heap.size, 0, none⟩) 1 1)).run Try.prog (wr.alloc (.cells #[.int .u8 (97 + (z : Int))] 5)) = .ok (.string (S [b])) (wr.alloc (.cells #[.int .u8 (97 + (z : Int))] 5)) :=
                run_str _ _ _ Try.underlying22 Try.underlying5 Try.underlying9 (Sl.boxB (xs := [b]) wr _ (by simp [vu8, hbn]) rfl (by omega))
              have HBA : Fact (Below w.heap.size w (wr.alloc (.cells #[.int .u8 (97 + (z : Int))] 5))) := ⟨HB.out.alloc HB.out.size _⟩
              have HNA : Fact (nameAt v = [b]) := ⟨by rw [HNA0.out, hz, ← hb, hz]⟩
              have ha3 : Op.stringOp .add (S x) (S [b]) = pure (.string (S (x ++ [b]))) := add_run x [b] (by simp; omega)
              clear hz hv8 hb hbn h5 h6 hu h7
              go_wp2_with fail
              go_roundg (n - (k + 1))
              case measure => have := HK.out; omega
              case rel => exact ⟨k + 1, _, rfl, by go_num, ⟨by omega⟩, ⟨by have := HKN.out; omega⟩, ⟨by rw [HTK.out, HNA.out]⟩, HBA⟩
    · have he : x = nameL l := by unfold nameL; rw [HX.out, List.take_of_length_le (by have := HL.out; have := HK.out; omega), List.take_of_length_le (by have := HL.out; have := HK.out; omega)]
      go_wp2_with fail
      go_ret
      rw [he]
      exact ⟨rfl, HB.out⟩
def name0 : List UInt8 := [97, 116, 111, 109]
set_option maxHeartbeats 1000000 in
set_option maxRecDepth 100000 in
theorem Awake_calls (w : World) : Calls Try.prog 41 #[] w fun e w' => e = .returned (.bool true) ∧ Below w.heap.size w w' := by
  have tl := toList_S
  go_enter Try.func41, Try.ntmps41
  go_wp2_with (go_at_call 45; fail)
  refine (There_calls _ 0 [97, 116, 111, 109] (by simp)).mono ?_
  rintro e w1 ⟨rfl, hb⟩
  have HB1 := Fact.mk hb
  clear hb
  rw [show thereL 0 [97, 116, 111, 109] = ([99, 104, 48, 47, 97, 116, 111, 109], 0) by decide +kernel]
  go_wp2_with (go_at_call 45; fail)
  refine (There_calls _ 0 [99, 104, 48, 47, 97, 116, 111, 109] (by simp)).mono ?_
  rintro e w2 ⟨rfl, hb⟩
  have HB2 : Fact (Below w.heap.size w w2) := ⟨HB1.out.trans (hb.mono HB1.out.size)⟩
  clear hb
  rw [show thereL 0 [99, 104, 48, 47, 97, 116, 111, 109] = ([97, 116, 111, 109], 0) by decide +kernel]
  go_wp2_with (go_at_call 45; fail)
  refine (There_calls _ 1 [99, 104, 48, 47, 97, 116, 111, 109] (by simp)).mono ?_
  rintro e w3 ⟨rfl, hb⟩
  have HB3 : Fact (Below w.heap.size w w3) := ⟨HB2.out.trans (hb.mono HB2.out.size)⟩
  clear hb
  rw [show thereL 1 [99, 104, 48, 47, 97, 116, 111, 109] = ([99, 104, 49, 47, 99, 104, 48, 47, 97, 116, 111, 109], 0) by decide +kernel]
  go_wp2_with (go_at_call 49; fail)
  refine (Escrow_calls _ 2 (by omega)).mono ?_
  rintro e w4 ⟨rfl, hb⟩
  have HB4 : Fact (Below w.heap.size w w4) := ⟨HB3.out.trans (hb.mono HB3.out.size)⟩
  clear hb
  rw [show escL 2 = [101, 115, 99, 114, 111, 119, 45, 50] from rfl]
  go_wp2_with fail
  go_ret
  exact ⟨rfl, HB4.out⟩
end Go.Proofs.Ytjjcjdefenbnjaa.DenomF
