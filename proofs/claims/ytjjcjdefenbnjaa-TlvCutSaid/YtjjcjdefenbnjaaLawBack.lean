/- TlvBack: for every input the law answers true; what was in memory before is as it was. -/
import Derived.Test.YtjjcjdefenbnjaaPlainT
import Derived.Test.YtjjcjdefenbnjaaTlvI
import Derived.Test.YtjjcjdefenbnjaaLawOne
import Derived.Test.YtjjcjdefenbnjaaLibB
import Derived.WalkSpells
set_option linter.unusedVariables false
set_option linter.unusedSimpArgs false
namespace Go.Proofs.Ytjjcjdefenbnjaa.LawBack
open Go.RowKit Go.Proofs.Ytjjcjdefenbnjaa.Lib Go.Proofs.Ytjjcjdefenbnjaa.LibB Go.Proofs.Ytjjcjdefenbnjaa.TlvA Go.Proofs.Ytjjcjdefenbnjaa.TlvB Go.Proofs.Ytjjcjdefenbnjaa.TlvC Go.Proofs.Ytjjcjdefenbnjaa.TlvD Go.Proofs.Ytjjcjdefenbnjaa.TlvE Go.Proofs.Ytjjcjdefenbnjaa.TlvH Go.Proofs.Ytjjcjdefenbnjaa.TlvI Go.Proofs.Ytjjcjdefenbnjaa.PlainT Go.Proofs.Ytjjcjdefenbnjaa.LawOne

/-- Fields of rising tags below m: put one behind the other, the list of them and the bytes. -/
structure Good (W : List (UInt8 × List UInt8)) (k : Nat) : Prop where
  ok : ∀ f ∈ W, f.2 ≠ [] ∧ f.2.length ≤ 65535
  up : W.Pairwise fun f g => f.1.toNat < g.1.toNat
  lt : ∀ f ∈ W, f.1.toNat < 2 * k + 1
  few : W.length ≤ k
  len : (puts W).length ≤ 303 * k
theorem Good.nil : Good [] 0 := ⟨by simp, List.Pairwise.nil, by simp, by simp, by simp [puts]⟩
theorem puts_snoc (W : List (UInt8 × List UInt8)) (t : UInt8) (v : List UInt8) : puts (W ++ [(t, v)]) = puts W ++ [t, lo (v.length / 256), lo v.length] ++ v := by
  unfold puts
  rw [List.flatMap_append]
  simp
theorem lo_odd {k : Nat} (hk : k < 100) : (lo (2 * k + 1)).toNat = 2 * k + 1 := by simp [lo]; omega
theorem Good.more {W : List (UInt8 × List UInt8)} {k : Nat} (h : Good W k) : Good W (k + 1) := ⟨h.ok, h.up, fun f hf => by have := h.lt f hf; omega, by have := h.few; omega, by have := h.len; omega⟩
theorem Good.snoc {W : List (UInt8 × List UInt8)} {k : Nat} (h : Good W k) (hk : k < 100) {v : List UInt8} (hv : v ≠ []) (hl : v.length ≤ 300) : Good (W ++ [(lo (2 * k + 1), v)]) (k + 1) := by
  refine ⟨?_, ?_, ?_, ?_, ?_⟩
  · intro f hf
    rcases List.mem_append.1 hf with hf | hf
    · exact h.ok f hf
    · rw [List.mem_singleton.1 hf]; exact ⟨hv, by simp only; omega⟩
  · rw [List.pairwise_append]
    refine ⟨h.up, by simp, ?_⟩
    intro a ha b hb
    rw [List.mem_singleton.1 hb]
    have := h.lt a ha
    simp only
    rw [lo_odd hk]
    omega
  · intro f hf
    rcases List.mem_append.1 hf with hf | hf
    · have := h.lt f hf; omega
    · rw [List.mem_singleton.1 hf]; simp only; rw [lo_odd hk]; omega
  · simp; exact h.few
  · rw [puts_snoc]
    have := h.len
    simp only [List.length_append, List.length_cons, List.length_nil]
    omega
theorem Good.back {W : List (UInt8 × List UInt8)} {k : Nat} (h : Good W k) : parseG (puts W) (-1) = (W, 0) := parse_puts W (-1) h.ok h.up (fun f _ => by omega)

set_option maxHeartbeats 4000000 in
set_option maxRecDepth 100000 in
theorem TlvBack_calls (w : World) (F : Nat → Prop) (A : Option Addr) (n c : Nat) (l : List (UInt8 × List UInt8)) (h : Sl fld w F A n c l) (hF : ∀ k, F k → k < w.heap.size) :
    Calls Try.prog 8 #[.slice A n c] w fun e w' => e = .returned (.bool true) ∧ Below w.heap.size w w' := by
  have hlen : l.length = n := h.len
  have hmx : n ≤ 9223372036854775807 := Nat.le_trans h.le h.max_
  have HF := Fact.mk hF
  have H := Fact.mk h
  have HL := Fact.mk hlen
  clear h hF hlen
  go_enter Try.func8, Try.ntmps8
  go_wp2_with (go_at_call 19; refine (Awake_calls _).mono ?_; rintro e w1 ⟨rfl, hb⟩; have HB1 := Fact.mk hb; clear hb)
  go_loopg [3, 4, 15] n (fun kq x y i wr => ∃ (k : Nat) (Ax : Option Addr) (nx cx : Nat) (W : List (UInt8 × List UInt8)), x = .slice Ax nx cx ∧ i = .int .i64 (k : Int) ∧ Fact (k + kq = n) ∧ Fact (k ≤ 100) ∧ Fact (nx = (puts W).length) ∧ Fact (Sl rU8 wr (fun k => k < wr.heap.size ∧ some k ≠ y.ownBlock) Ax nx cx (puts W)) ∧ Fact (OwX fld 47 wr w.heap.size y W) ∧ Fact (Good W k) ∧ Fact (Below w.heap.size w wr))
  case atStart => exact ⟨0, none, 0, 0, [], rfl, rfl, ⟨by omega⟩, ⟨by omega⟩, ⟨rfl⟩, ⟨Sl.nil _ _ _ _ _ (by omega)⟩, ⟨OwX.nil _ _ _ _⟩, ⟨Good.nil⟩, HB1⟩
  case round =>
    obtain ⟨k, Ax, nx, cx, W, rfl, rfl, HK, HK100, HN, HS, HO, HG, HB⟩ := hrel
    obtain ⟨Ao, co, rfl, hso⟩ := HO.out.sl
    have HSO := Fact.mk hso
    have HSL : Fact (Sl rU8 wr (fun k => k < wr.heap.size) Ax nx cx (puts W)) := ⟨HS.out.mono (fun _ hk => hk.1)⟩
    have hmW : W.length ≤ 100 := by have h1 := HG.out.few; have h2 := HK100.out; omega
    have hk100 := HK100.out
    clear hso
    by_cases hlt : k < n
    · obtain ⟨⟨t, v⟩, hx⟩ : ∃ x, l[k]? = some x := ⟨_, List.getElem?_eq_getElem (by rw [HL.out]; exact hlt)⟩
      obtain ⟨ad, A3, c3, rfl, hf, hc1, hc2, hsv⟩ := fld_at H.out hx
      have hc1' : wr.cell? (ad.add (k * 2)) = some (.int .u8 (t.toNat : Int)) := (cell_same (by rw [block_add]; exact HB.out.block _ (HF.out _ hf))).trans hc1
      have hc2' : wr.cell? ⟨(ad.add (k * 2)).block, (ad.add (k * 2)).off + 1, none⟩ = some (.slice A3 v.length c3) := (cell_same (by simp only [block_add]; exact HB.out.block _ (HF.out _ hf))).trans hc2
      have HSV : Fact (Sl rU8 wr F A3 v.length c3 v) := ⟨hsv.move (Same.of_below HB.out HF.out)⟩
      have hvm : v.length ≤ 9223372036854775807 := Nat.le_trans hsv.le hsv.max_
      clear hc1 hc2 hsv hx hf
      by_cases hk : 100 ≤ k
      · have kk : decide (100 ≤ k) = true := by simp; omega
        have kk' : decide ((100 : Int) ≤ k) = true := by simp; omega
        clear hk
        go_wp2_with (go_at_call 33; fail)
        have hbk := HG.out.back
        have HGB := Fact.mk hbk
        have hnx : nx ≤ 30300 := by have h1 := HG.out.len; have h2 := HN.out; omega
        refine (Parse_calls _ (fun k => k < wr.heap.size) Ax nx cx (puts W) (HSL.out.move (Same.alloc (Same.refl _ _) (fun _ h => h) _)) (fun k hk => by simp; omega) (by omega)).mono ?_
        rintro e w2 ⟨v2, rfl, HO2, hb⟩
        rw [HGB.out] at HO2
        simp only [HGB.out]
        obtain ⟨Ap, cp, hv2, hsp⟩ := HO2.out.sl
        simp only at hv2 hsp
        subst hv2
        have HSP := Fact.mk hsp
        have HBQ : Fact (Below wr.heap.size wr w2) := ⟨((Below.refl _ _).alloc (Nat.le_refl _) _).trans (hb.mono (by simp))⟩
        have HB2 : Fact (Below w.heap.size w w2) := ⟨HB.out.trans (HBQ.out.mono HB.out.size)⟩
        clear hb hsp hbk HO2
        go_wp2_with (go_at_call 35; refine (SameFields_eq _ (fun k => k < w2.heap.size) Ap Ao W.length cp co W HSP.out (((HSO.out.move (Same.of_below HBQ.out (fun _ h => h)))).mono (fun k hk => by have := HBQ.out.size; omega)) (by omega)).mono ?_; rintro e w3 ⟨rfl, q, rfl⟩)
        go_ret
        exact ⟨rfl, below_drewN' HB2.out _⟩
      · have kk : decide (100 ≤ k) = false := by simp; omega
        have kk' : decide ((100 : Int) ≤ k) = false := by simp; omega
        by_cases hvl : 300 < v.length
        · have kv : decide (300 < v.length) = true := by simp; omega
          have kv' : decide ((300 : Int) < v.length) = true := by simp; omega
          clear hvl
          go_wp2_with (go_at_call 33; fail)
          have hbk := HG.out.back
          have HGB := Fact.mk hbk
          have hnx : nx ≤ 30300 := by have h1 := HG.out.len; have h2 := HN.out; omega
          refine (Parse_calls _ (fun k => k < wr.heap.size) Ax nx cx (puts W) (HSL.out.move (Same.alloc (Same.refl _ _) (fun _ h => h) _)) (fun k hk => by simp; omega) (by omega)).mono ?_
          rintro e w2 ⟨v2, rfl, HO2, hb⟩
          rw [HGB.out] at HO2
          simp only [HGB.out]
          obtain ⟨Ap, cp, hv2, hsp⟩ := HO2.out.sl
          simp only at hv2 hsp
          subst hv2
          have HSP := Fact.mk hsp
          have HBQ : Fact (Below wr.heap.size wr w2) := ⟨((Below.refl _ _).alloc (Nat.le_refl _) _).trans (hb.mono (by simp))⟩
          have HB2 : Fact (Below w.heap.size w w2) := ⟨HB.out.trans (HBQ.out.mono HB.out.size)⟩
          clear hb hsp hbk HO2
          go_wp2_with (go_at_call 35; refine (SameFields_eq _ (fun k => k < w2.heap.size) Ap Ao W.length cp co W HSP.out (((HSO.out.move (Same.of_below HBQ.out (fun _ h => h)))).mono (fun k hk => by have := HBQ.out.size; omega)) (by omega)).mono ?_; rintro e w3 ⟨rfl, q, rfl⟩)
          go_ret
          exact ⟨rfl, below_drewN' HB2.out _⟩
        · have kv : decide (300 < v.length) = false := by simp; omega
          have kv' : decide ((300 : Int) < v.length) = false := by simp; omega
          have hnx : nx ≤ 30300 := by have h1 := HG.out.len; have h2 := HN.out; omega
          have hw1 : IntKind.i64.wrap (2 * (k : Int)) = 2 * (k : Int) := by rw [IntKind.wrap_i64]; omega
          have hw2 : IntKind.i64.wrap (2 * (k : Int) + 1) = 2 * (k : Int) + 1 := by rw [IntKind.wrap_i64]; omega
          have hw3 : IntKind.u8.wrap (2 * (k : Int) + 1) = ((lo (2 * k + 1)).toNat : Int) := by rw [lo_odd (by omega), IntKind.wrap_u8]; omega
          have HLT : Fact (k < 100 ∧ v.length ≤ 300) := ⟨by omega⟩
          clear hvl hk
          go_wp2_with (go_at_call 20; fail)
          refine (Put_calls' _ (fun k => k < wr.heap.size) Ax nx cx (puts W) _ (lo (2 * k + 1)) A3 v.length c3 v rfl (HSL.out.move (Same.alloc (Same.refl _ _) (fun _ h => h) _)) ((HSV.out.move (Same.alloc (Same.refl _ _) (fun k hk => by have := HF.out k hk; have := HB.out.size; omega) _)).mono (fun k hk => by have := HF.out k hk; have := HB.out.size; omega)) (fun k hk => by simp; omega) (by have := HLT.out; omega)).mono ?_
          rintro e w3 ⟨A4, c4, rfl, HO4, hb⟩
          rw [putE_zero (by have := HLT.out; omega)]
          have hcv : w3.cell? ⟨wr.heap.size, 1, none⟩ = some (.slice A3 v.length c3) := (cell_same (hb.block _ (by simp))).trans (by go_simp)
          have HB3 : Fact (Below wr.heap.size wr w3) := ⟨((Below.refl _ _).alloc (Nat.le_refl _) _).trans (hb.mono (by simp))⟩
          have HO3 : Fact (OwX fld 47 w3 w.heap.size (.slice Ao W.length co) W) := ⟨HO.out.below HB3.out⟩
          have HBW3 : Fact (Below w.heap.size w w3) := ⟨HB.out.trans (HB3.out.mono HB.out.size)⟩
          by_cases hv0 : v = []
          · have kz : decide (0 < v.length) = false := by subst hv0; rfl
            have kz' : decide ((0 : Int) < v.length) = false := by subst hv0; rfl
            have hpe : putL (puts W) (lo (2 * k + 1)) v = puts W := by subst hv0; exact putL_nil
            rw [hpe] at HO4 ⊢
            have HS4 : Fact (Sl rU8 w3 (fun b => b < w3.heap.size ∧ some b ≠ (Value.slice Ao W.length co).ownBlock) A4 (puts W).length c4 (puts W)) := ⟨HO4.out.slF.mono (fun b hb => ⟨hb.2, fun he => by have h3 := (HO.out.lt b he.symm).2; have h4 := hb.1; simp at h4; omega⟩)⟩
            clear hpe hv0 hb HO4
            go_wp2_with fail
            go_roundg (n - (k + 1))
            case measure => have := HK.out; omega
            case rel => exact ⟨k + 1, A4, _, c4, W, rfl, by go_num, ⟨by omega⟩, ⟨by have := HLT.out; omega⟩, ⟨rfl⟩, HS4, HO3, ⟨HG.out.more⟩, HBW3⟩
          · have kz : decide (0 < v.length) = true := by simp; exact List.length_pos_iff.2 hv0
            have kz' : decide ((0 : Int) < v.length) = true := by simp; exact List.length_pos_iff.2 hv0
            have hpe : putL (puts W) (lo (2 * k + 1)) v = puts (W ++ [(lo (2 * k + 1), v)]) := by rw [puts_snoc, putL_some (by have := HLT.out; omega) hv0]
            rw [hpe] at HO4 ⊢
            have HS4 : Fact (Sl rU8 w3 (fun b => b < w3.heap.size ∧ some b ≠ (Value.slice Ao W.length co).ownBlock) A4 (puts (W ++ [(lo (2 * k + 1), v)])).length c4 (puts (W ++ [(lo (2 * k + 1), v)]))) := ⟨HO4.out.slF.mono (fun b hb => ⟨hb.2, fun he => by have h3 := (HO.out.lt b he.symm).2; have h4 := hb.1; simp at h4; omega⟩)⟩
            generalize hq : (puts (W ++ [(lo (2 * k + 1), v)])).length = q4 at HS4 ⊢
            have HQ := Fact.mk hq
            have HG2 : Fact (Good (W ++ [(lo (2 * k + 1), v)]) (k + 1)) := ⟨HG.out.snoc HLT.out.1 hv0 HLT.out.2⟩
            have HK3 : Fact (fld.K w3 (fun b => b < w3.heap.size ∧ some b ≠ (Value.slice Ao W.length co).ownBlock) (lo (2 * k + 1), v) [.int .u8 ((lo (2 * k + 1)).toNat : Int), .slice A3 v.length c3]) := ⟨⟨[vu8 (lo (2 * k + 1))], [.slice A3 v.length c3], rfl, rfl, A3, c3, rfl, by
              refine (HSV.out.move (Same.of_below HB3.out (fun b hb => by have := HF.out b hb; have := HB.out.size; omega))).mono ?_
              intro b hb
              have h1 := HF.out b hb
              have h2 := HBW3.out.size
              exact ⟨by omega, fun he => by have h3 := (HO3.out.lt b he.symm).1; omega⟩⟩⟩
            clear hpe hv0 hb HO4 hq
            go_wp2_with (first
              | (at_builtin
                 go_must (refine wpList_pushL (w0 := w) fld w.heap.size rfl (.tmp 46) (.tmp 54) 45 47 (.agg #[.int .u8 0, .slice none 0 0]) 32 rfl Try.underlying45 info_fld rfl (by decide) (by decide) (Value.slice Ao W.length co) W (lo (2 * k + 1), v) #[.int .u8 ((lo (2 * k + 1)).toNat : Int), .slice A3 v.length c3] _ rfl rfl HO3.out HK3.out HBW3.out HBW3.out.size (by omega) ?_)
                 intro v2 w4 ho4 hb4 hz4
                 have HO5 := Fact.mk ho4
                 have HB5 := Fact.mk hb4
                 have HS5 := Fact.mk (hz4.sl HS4.out)
                 clear ho4 hb4 hz4))
            go_roundg (n - (k + 1))
            case measure => have := HK.out; omega
            case rel => exact ⟨k + 1, A4, _, c4, _, rfl, by go_num, ⟨by omega⟩, ⟨by have := HLT.out; omega⟩, ⟨HQ.out.symm⟩, HS5, HO5, HG2, HB5⟩
    · have hk : k = n := by have := HK.out; omega
      go_wp2_with (go_at_call 33; fail)
      have hbk := HG.out.back
      have HGB := Fact.mk hbk
      have hnx : nx ≤ 30300 := by have h1 := HG.out.len; have h2 := HN.out; omega
      refine (Parse_calls _ (fun k => k < wr.heap.size) Ax nx cx (puts W) HSL.out (fun k hk => hk) (by omega)).mono ?_
      rintro e w2 ⟨v2, rfl, HO2, hb⟩
      rw [HGB.out] at HO2
      simp only [HGB.out]
      obtain ⟨Ap, cp, hv2, hsp⟩ := HO2.out.sl
      simp only at hv2 hsp
      subst hv2
      have HSP := Fact.mk hsp
      have HBQ : Fact (Below wr.heap.size wr w2) := ⟨hb⟩
      have HB2 : Fact (Below w.heap.size w w2) := ⟨HB.out.trans (HBQ.out.mono HB.out.size)⟩
      clear hb hsp hbk HO2
      go_wp2_with (go_at_call 35; refine (SameFields_eq _ (fun k => k < w2.heap.size) Ap Ao W.length cp co W HSP.out (((HSO.out.move (Same.of_below HBQ.out (fun _ h => h)))).mono (fun k hk => by have := HBQ.out.size; omega)) (by omega)).mono ?_; rintro e w3 ⟨rfl, q, rfl⟩)
      go_ret
      exact ⟨rfl, below_drewN' HB2.out _⟩
end Go.Proofs.Ytjjcjdefenbnjaa.LawBack
