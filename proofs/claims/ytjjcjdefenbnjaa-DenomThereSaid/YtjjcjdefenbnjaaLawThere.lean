/- DenomThere: for every input the law answers true; what was in memory before is as it was. -/
import Derived.Test.YtjjcjdefenbnjaaLawChecks
set_option linter.unusedVariables false
set_option linter.unusedSimpArgs false
namespace Go.Proofs.Ytjjcjdefenbnjaa.LawThere
open Go.RowKit Go.Proofs.Ytjjcjdefenbnjaa.Lib Go.Proofs.Ytjjcjdefenbnjaa.Reg Go.Proofs.Ytjjcjdefenbnjaa.DenomA Go.Proofs.Ytjjcjdefenbnjaa.DenomB Go.Proofs.Ytjjcjdefenbnjaa.DenomC Go.Proofs.Ytjjcjdefenbnjaa.DenomD Go.Proofs.Ytjjcjdefenbnjaa.DenomE Go.Proofs.Ytjjcjdefenbnjaa.DenomF Go.Proofs.Ytjjcjdefenbnjaa.LawChecks
theorem box_two (W : World) (a b : Value) (e : TypeId) {k : Nat} (hk : k < 2) : (W.alloc (.cells #[a, b] e)).cell? ((⟨W.heap.size, 0, none⟩ : Addr).add k) = some (if k = 0 then a else b) := by
  match k, hk with
  | 0, _ => rw [add_zero']; go_simp
  | 1, _ => rw [add_pos' _ 1 (by omega)]; go_simp
set_option maxHeartbeats 4000000 in
set_option maxRecDepth 100000 in
theorem DenomThere_calls (w : World) (F : Nat → Prop) (ch : Int) (hc0 : -9223372036854775808 ≤ ch) (hc1 : ch ≤ 9223372036854775807) (s : ByteArray) (A : Option Addr) (n c : Nat) (l : List UInt8) (h : Sl rU8 w F A n c l) (hF : ∀ k, F k → k < w.heap.size) :
    Calls Try.prog 12 #[.int .i64 ch, .string s, .slice A n c] w fun e w' => e = .returned (.bool true) ∧ Below w.heap.size w w' := by
  obtain ⟨x, rfl⟩ := of_S s
  have sz := size_S x
  obtain ⟨m, hm⟩ : ∃ m, x.length = m := ⟨_, rfl⟩
  rw [hm] at sz
  have HF := Fact.mk hF
  have H := Fact.mk h
  clear h hF
  by_cases hb5 : 500 < m
  · have k1 : decide ((500 : Int) < m) = true := decide_eq_true (by omega)
    have k1' : decide (500 < m) = true := decide_eq_true hb5
    go_enter Try.func12, Try.ntmps12
    go_wp2_with (go_at_call 41; refine (Awake_calls _).mono ?_; rintro e w1 ⟨rfl, hb⟩; have HB1 := Fact.mk hb; clear hb)
    go_ret
    exact ⟨rfl, HB1.out⟩
  · have k1 : decide ((500 : Int) < m) = false := decide_eq_false (by omega)
    have k1' : decide (500 < m) = false := decide_eq_false hb5
    have HXM := Fact.mk hm
    have HM5 := Fact.mk hb5
    clear hm hb5
    obtain ⟨u, hu⟩ : ∃ u : Nat, IntKind.u64.wrap ch = (u : Int) := ⟨(IntKind.u64.wrap ch).toNat, by rw [IntKind.wrap_u64]; omega⟩
    obtain ⟨r, hr⟩ : ∃ r : Nat, u % 4 = r := ⟨_, rfl⟩
    have t4 : ((u : Int)).tmod 4 = (r : Int) := by rw [Int.tmod_eq_emod_of_nonneg (by omega)]; omega
    have m4 : (u : Int) % 4 = (r : Int) := by omega
    have i4 : IntKind.i64.wrap (r : Int) = (r : Int) := by rw [IntKind.wrap_i64]; omega
    have u4 : IntKind.u64.wrap (r : Int) = (r : Int) := by rw [IntKind.wrap_u64]; omega
    clear hr
    go_enter Try.func12, Try.ntmps12
    go_wp2_with (first
      | (go_at_call 41; refine (Awake_calls _).mono ?_; rintro e w1 ⟨rfl, hb⟩; have HB1 := Fact.mk hb; clear hb)
      | (go_at_call 44; fail))
    refine (Name_calls _ F A n c l (H.out.move (Same.of_below HB1.out HF.out)) (fun k hk => by have := HF.out k hk; have := HB1.out.size; omega)).mono ?_
    rintro e w2 ⟨rfl, hb⟩
    have HB2 : Fact (Below w.heap.size w w2) := ⟨HB1.out.trans (hb.mono HB1.out.size)⟩
    have HNL := Fact.mk (nameL_len l)
    clear hb
    generalize nameL l = y at HNL ⊢
    go_wp2_with fail
    have HBOX : Fact (∀ k, k < 2 → ∃ z : List UInt8, z.length ≤ 500 ∧ (w2.alloc (.cells #[.string (S x), .string (S y)] 9)).cell? ((⟨w2.heap.size, 0, none⟩ : Addr).add k) = some (.string (S z))) := ⟨fun k hk => by
      rw [box_two _ _ _ _ hk]
      by_cases h0 : k = 0
      · rw [if_pos h0]; exact ⟨x, by have := HXM.out; have := HM5.out; omega, rfl⟩
      · rw [if_neg h0]; exact ⟨y, by have := HNL.out; omega, rfl⟩⟩
    have HBB : Fact (Below w.heap.size w (w2.alloc (.cells #[.string (S x), .string (S y)] 9))) := ⟨HB2.out.alloc HB2.out.size _⟩
    have hbs : (w2.alloc (.cells #[.string (S x), .string (S y)] 9)).heap.size = w2.heap.size + 1 := by simp
    have HBK : Fact ((⟨w2.heap.size, 0, none⟩ : Addr).block < (w2.alloc (.cells #[.string (S x), .string (S y)] 9)).heap.size) := ⟨by rw [hbs]; exact Nat.lt_succ_self _⟩
    clear hbs
    generalize w2.alloc (.cells #[.string (S x), .string (S y)] 9) = wb at HBOX HBB HBK ⊢
    generalize (⟨w2.heap.size, 0, none⟩ : Addr) = adb at HBOX HBK ⊢
    go_loopg [29] 2 (fun kq i wr => ∃ (k : Nat), i = .int .i64 (k : Int) ∧ Fact (k + kq = 2) ∧ Fact (Below wb.heap.size wb wr))
    case atStart => exact ⟨0, rfl, ⟨by omega⟩, ⟨Below.refl _ _⟩⟩
    case round =>
      obtain ⟨k, rfl, HK, HBR⟩ := hrel
      by_cases hlt : k < 2
      · obtain ⟨z, hzl, hcz⟩ := HBOX.out k hlt
        have hcz' : wr.cell? (adb.add k) = some (.string (S z)) := (cell_same (by rw [block_add]; exact HBR.out.block _ HBK.out)).trans hcz
        have kd : decide ((k : Int) < 2) = true := decide_eq_true (by omega)
        have kd' : decide (k < 2) = true := decide_eq_true hlt
        have HLT := Fact.mk hlt
        clear hcz
        go_wp2_with fail
        have HBOX2 : Fact (∀ j, j < 2 → ∃ d : Int, (wr.alloc (.cells #[.int .i64 ch, .int .i64 (r : Int)] 3)).cell? ((⟨wr.heap.size, 0, none⟩ : Addr).add j) = some (.int .i64 d)) := ⟨fun j hj => by
          rw [box_two _ _ _ _ hj]
          by_cases h0 : j = 0
          · rw [if_pos h0]; exact ⟨_, rfl⟩
          · rw [if_neg h0]; exact ⟨_, rfl⟩⟩
        have HBB2 : Fact (Below wb.heap.size wb (wr.alloc (.cells #[.int .i64 ch, .int .i64 (r : Int)] 3))) := ⟨HBR.out.alloc HBR.out.size _⟩
        have HBK2 : Fact ((⟨wr.heap.size, 0, none⟩ : Addr).block < (wr.alloc (.cells #[.int .i64 ch, .int .i64 (r : Int)] 3)).heap.size) := ⟨by rw [size_alloc']; exact Nat.lt_succ_self _⟩
        generalize wr.alloc (.cells #[.int .i64 ch, .int .i64 (r : Int)] 3) = wi at HBOX2 HBB2 HBK2 ⊢
        generalize (⟨wr.heap.size, 0, none⟩ : Addr) = adi at HBOX2 HBK2 ⊢
        go_loopg [40] 2 (fun jq i ws => ∃ (j : Nat), i = .int .i64 (j : Int) ∧ Fact (j + jq = 2) ∧ Fact (Below wi.heap.size wi ws))
        case atStart => exact ⟨0, rfl, ⟨by omega⟩, ⟨Below.refl _ _⟩⟩
        case round =>
          obtain ⟨j, rfl, HJ, HBS⟩ := hrel
          by_cases hlj : j < 2
          · obtain ⟨d, hcd⟩ := HBOX2.out j hlj
            have hcd' : wr.cell? (adi.add j) = some (.int .i64 d) := (cell_same (by rw [block_add]; exact HBS.out.block _ HBK2.out)).trans hcd
            clear hcd
            go_wp2_with (go_at_call 45; fail)
            have HZL : Fact (z.length ≤ 9223372036854775806) := ⟨by omega⟩
            have HS0 : Fact (Below wi.heap.size wi wr) := HBS
            have tl := toList_S
            refine (There_calls _ d z HZL.out).mono ?_
            rintro e w3 ⟨rfl, hb⟩
            have HS1 : Fact (Below wi.heap.size wi w3) := ⟨HS0.out.trans (hb.mono HS0.out.size)⟩
            clear hb
            go_wp2_with (go_at_call 46; fail)
            refine (RThere_calls _ d z HZL.out).mono ?_
            rintro e w4 ⟨rfl, hb⟩
            have HS2 : Fact (Below wi.heap.size wi w4) := ⟨HS1.out.trans (hb.mono HS1.out.size)⟩
            clear hb
            generalize thereL d z = th
            obtain ⟨th1, th2⟩ := th
            go_wp2_with (go_at_call 47; fail)
            refine (Back_calls _ d z HZL.out).mono ?_
            rintro e w5 ⟨rfl, hb⟩
            have HS3 : Fact (Below wi.heap.size wi w5) := ⟨HS2.out.trans (hb.mono HS2.out.size)⟩
            clear hb
            go_wp2_with (go_at_call 48; fail)
            refine (RBack_calls _ d z HZL.out).mono ?_
            rintro e w6 ⟨rfl, hb⟩
            have HS4 : Fact (Below wi.heap.size wi w6) := ⟨HS3.out.trans (hb.mono HS3.out.size)⟩
            clear hb
            generalize backL d z = bk
            obtain ⟨bk1, bk2⟩ := bk
            go_wp2_with fail
            go_roundg (2 - (j + 1))
            case measure => have := HJ.out; omega
            case rel => exact ⟨j + 1, by go_num, ⟨by omega⟩, HS4⟩
          · go_wp2_with fail
            go_roundg (2 - (k + 1))
            case measure => have := HK.out; have := HLT.out; omega
            case rel => exact ⟨k + 1, by go_num, ⟨by have := HLT.out; omega⟩, ⟨HBB2.out.trans (HBS.out.mono HBB2.out.size)⟩⟩
      · have hk2 : k = 2 := by have := HK.out; omega
        go_wp2_with fail
        go_ret
        exact ⟨rfl, HBB.out.trans (HBR.out.mono HBB.out.size)⟩
end Go.Proofs.Ytjjcjdefenbnjaa.LawThere
