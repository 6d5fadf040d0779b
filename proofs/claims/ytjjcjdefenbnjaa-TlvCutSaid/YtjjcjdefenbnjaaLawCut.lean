/- TlvCut: for every input the law answers true; what was in memory before is as it was. -/
import Derived.Test.YtjjcjdefenbnjaaPlainC
import Derived.Test.YtjjcjdefenbnjaaTlvI
import Derived.Test.YtjjcjdefenbnjaaLawBack
import Derived.Test.YtjjcjdefenbnjaaMapB
import Derived.WalkSpells
set_option linter.unusedVariables false
set_option linter.unusedSimpArgs false
namespace Go.Proofs.Ytjjcjdefenbnjaa.LawCut
open Go.RowKit Go.Proofs.Ytjjcjdefenbnjaa.Lib Go.Proofs.Ytjjcjdefenbnjaa.MapB Go.Proofs.Ytjjcjdefenbnjaa.TlvA Go.Proofs.Ytjjcjdefenbnjaa.TlvB Go.Proofs.Ytjjcjdefenbnjaa.TlvC Go.Proofs.Ytjjcjdefenbnjaa.TlvD Go.Proofs.Ytjjcjdefenbnjaa.TlvE Go.Proofs.Ytjjcjdefenbnjaa.TlvH Go.Proofs.Ytjjcjdefenbnjaa.TlvI Go.Proofs.Ytjjcjdefenbnjaa.PlainT Go.Proofs.Ytjjcjdefenbnjaa.PlainC Go.Proofs.Ytjjcjdefenbnjaa.LawOne
open Go.Proofs.Ytjjcjdefenbnjaa.LawBack (puts_snoc)

structure Good (W : List (UInt8 × List UInt8)) (k : Nat) : Prop where
  ok : ∀ f ∈ W, f.2 ≠ [] ∧ f.2.length ≤ 65535
  up : W.Pairwise fun f g => f.1.toNat < g.1.toNat
  lt : ∀ f ∈ W, f.1.toNat < k
  len : (puts W).length ≤ 203 * k
theorem Good.nil : Good [] 0 := ⟨by simp, List.Pairwise.nil, by simp, by simp [puts]⟩
theorem lo_low {k : Nat} (hk : k < 20) : (lo k).toNat = k := by simp [lo]; omega
theorem Good.more {W : List (UInt8 × List UInt8)} {k : Nat} (h : Good W k) : Good W (k + 1) := ⟨h.ok, h.up, fun f hf => by have := h.lt f hf; omega, by have := h.len; omega⟩
theorem Good.snoc {W : List (UInt8 × List UInt8)} {k : Nat} (h : Good W k) (hk : k < 20) {v : List UInt8} (hv : v ≠ []) (hl : v.length ≤ 200) : Good (W ++ [(lo k, v)]) (k + 1) := by
  refine ⟨?_, ?_, ?_, ?_⟩
  · intro f hf
    rcases List.mem_append.1 hf with hf | hf
    · exact h.ok f hf
    · rw [List.mem_singleton.1 hf]; exact ⟨hv, by simp only; omega⟩
  · rw [List.pairwise_append]
    refine ⟨h.up, by simp, ?_⟩
    intro a ha b hb
    rw [List.mem_singleton.1 hb]
    have := h.lt a ha
    simp only
    rw [lo_low hk]
    omega
  · intro f hf
    rcases List.mem_append.1 hf with hf | hf
    · have := h.lt f hf; omega
    · rw [List.mem_singleton.1 hf]; simp only; rw [lo_low hk]; omega
  · rw [puts_snoc]
    have := h.len
    simp only [List.length_append, List.length_cons, List.length_nil]
    omega
theorem Good.cut {W : List (UInt8 × List UInt8)} {k : Nat} (h : Good W k) (m : Nat) (hm : m ≤ (puts W).length) : (parseG ((puts W).take m) (-1)).2 = if bnd W m then 0 else 4 := parse_cut W (-1) m h.ok h.up (fun f _ => by omega) hm
def bndZ (W : List (UInt8 × List UInt8)) (c : Int) : Bool := decide (0 ≤ c) && bnd W c.toNat
theorem bndZ_nil : (fun c : Int => false || c == 0) = bndZ [] := by
  funext c
  rw [Bool.eq_iff_iff]
  simp [bndZ, bnd]
  omega
theorem bndZ_same (W : List (UInt8 × List UInt8)) : (fun c : Int => bndZ W c || c == ((puts W).length : Int)) = bndZ W := by
  funext c
  by_cases hc : c = ((puts W).length : Int)
  · subst hc
    have : bndZ W ((puts W).length : Int) = true := by simp [bndZ, bnd_end]
    rw [this]
    rfl
  · simp [hc]
theorem bndZ_snoc (W : List (UInt8 × List UInt8)) (f : UInt8 × List UInt8) : (fun c : Int => bndZ W c || c == ((puts (W ++ [f])).length : Int)) = bndZ (W ++ [f]) := by
  funext c
  have hl : (puts (W ++ [f])).length = (puts W).length + (3 + f.2.length) := by
    rw [puts_snoc W f.1 f.2]
    simp only [List.length_append, List.length_cons, List.length_nil]
    omega
  unfold bndZ
  rw [bnd_snoc, hl]
  by_cases hc : 0 ≤ c
  · have he : (c == (((puts W).length + (3 + f.2.length) : Nat) : Int)) = (c.toNat == (puts W).length + (3 + f.2.length)) := by rw [Bool.eq_iff_iff]; simp; omega
    rw [he]
    simp [hc]
  · have he : (c == (((puts W).length + (3 + f.2.length) : Nat) : Int)) = false := by simp; omega
    rw [he]
    simp [hc]
theorem zero_bool (w : World) : (zeroValue 4).run Try.prog w = .ok (.bool false) w := by kernel_rfl

set_option maxHeartbeats 4000000 in
set_option maxRecDepth 100000 in
theorem TlvCut_calls (w : World) (F : Nat → Prop) (A : Option Addr) (n c : Nat) (l : List (UInt8 × List UInt8)) (cut : Int) (hc0 : 0 ≤ cut) (hc1 : cut ≤ 65535) (h : Sl fld w F A n c l) (hF : ∀ k, F k → k < w.heap.size) :
    Calls Try.prog 9 #[.slice A n c, .int .u16 cut] w fun e w' => e = .returned (.bool true) ∧ Below w.heap.size w w' := by
  have hlen : l.length = n := h.len
  have hmx : n ≤ 9223372036854775807 := Nat.le_trans h.le h.max_
  have HF := Fact.mk hF
  have H := Fact.mk h
  have HL := Fact.mk hlen
  have hmm := @run_makeMap Try.prog
  clear h hF hlen
  go_enter Try.func9, Try.ntmps9
  go_wp2_with (first
    | (go_at_call 19; refine (Awake_calls _).mono ?_; rintro e w1 ⟨rfl, hb⟩; have HB1 := Fact.mk hb; clear hb)
    | (refine wpList_setStore rfl (.tmp 14) (.const (.int .i64 0)) (.const (.bool true)) 57 (.inr rfl) 3 4 Try.underlying57 Try.underlying3 Try.underlying4 w1.heap.size 0 _ rfl (SetM.made _ _ _ _) (by omega) 0 rfl rfl (by omega) ?_
       intro w2 hs2 hg2
       rw [bndZ_nil] at hs2
       have HM2 := Fact.mk hs2
       have hws : w1.heap.size < w2.heap.size := hs2.lt
       have HB2 : Fact (Below w.heap.size w w2) := ⟨(HB1.out.alloc HB1.out.size _).grown hg2 (by have := HB1.out.size; simp; omega) (by intro k hk; injection hk with hk; have := HB1.out.size; omega)⟩
       have HMB : Fact (w.heap.size ≤ w1.heap.size) := ⟨HB1.out.size⟩
       clear hs2 hg2))
  generalize w1.heap.size = mb at HM2 HMB hws ⊢
  clear hws
  go_loopg [5, 18] n (fun kq x i wr => ∃ (k : Nat) (Ax : Option Addr) (nx cx : Nat) (W : List (UInt8 × List UInt8)), x = .slice Ax nx cx ∧ i = .int .i64 (k : Int) ∧ Fact (k + kq = n) ∧ Fact (k ≤ 20) ∧ Fact (nx = (puts W).length) ∧ Fact (Sl rU8 wr (fun k => k < wr.heap.size ∧ k ≠ mb) Ax nx cx (puts W)) ∧ Fact (SetM Try.prog 3 4 wr mb (k + 1) (bndZ W)) ∧ Fact (Good W k) ∧ Fact (Below w.heap.size w wr))
  case atStart => exact ⟨0, none, 0, 0, [], rfl, rfl, ⟨by omega⟩, ⟨by omega⟩, ⟨rfl⟩, ⟨Sl.nil _ _ _ _ _ (by omega)⟩, HM2, ⟨Good.nil⟩, HB2⟩
  case round =>
    obtain ⟨k, Ax, nx, cx, W, rfl, rfl, HK, HK20, HN, HS, HM, HG, HB⟩ := hrel
    have hk20 := HK20.out
    have hnx : nx ≤ 4060 := by have h1 := HG.out.len; have h2 := HN.out; omega
    have hlx := HS.out.le
    have hmxx := HS.out.max_
    have HSL : Fact (Sl rU8 wr (fun k => k < wr.heap.size) Ax nx cx (puts W)) := ⟨HS.out.mono (fun _ hk => hk.1)⟩
    by_cases hlt : k < n
    · obtain ⟨⟨t, v⟩, hx⟩ : ∃ x, l[k]? = some x := ⟨_, List.getElem?_eq_getElem (by rw [HL.out]; exact hlt)⟩
      obtain ⟨ad, A3, c3, rfl, hf, hc1', hc2', hsv⟩ := fld_at H.out hx
      have hca : wr.cell? (ad.add (k * 2)) = some (.int .u8 (t.toNat : Int)) := (cell_same (by rw [block_add]; exact HB.out.block _ (HF.out _ hf))).trans hc1'
      have hcb : wr.cell? ⟨(ad.add (k * 2)).block, (ad.add (k * 2)).off + 1, none⟩ = some (.slice A3 v.length c3) := (cell_same (by simp only [block_add]; exact HB.out.block _ (HF.out _ hf))).trans hc2'
      have HSV : Fact (Sl rU8 wr F A3 v.length c3 v) := ⟨hsv.move (Same.of_below HB.out HF.out)⟩
      have hvm : v.length ≤ 9223372036854775807 := Nat.le_trans hsv.le hsv.max_
      clear hc1' hc2' hsv hx hf
      by_cases hk : 20 ≤ k
      · have kk : decide (20 ≤ k) = true := by simp; omega
        have kk' : decide ((20 : Int) ≤ k) = true := by simp; omega
        clear hk
        obtain ⟨r, hr1, hr2, hr3⟩ : ∃ r : Nat, cut.tmod ((nx : Int) + 1) = (r : Int) ∧ r ≤ nx ∧ r ≤ 65535 := by
          refine ⟨(cut % ((nx : Int) + 1)).toNat, ?_, ?_, ?_⟩
          · rw [Int.tmod_eq_emod_of_nonneg hc0]
            have := Int.emod_nonneg cut (show (nx : Int) + 1 ≠ 0 by omega)
            omega
          · have := Int.emod_lt_of_pos cut (show (0 : Int) < (nx : Int) + 1 by omega)
            omega
          · have := Int.emod_lt_of_pos cut (show (0 : Int) < (nx : Int) + 1 by omega)
            omega
        have hr1' : cut % ((nx : Int) + 1) = (r : Int) := by rw [← Int.tmod_eq_emod_of_nonneg hc0]; exact hr1
        have hz0 : ((nx : Int) + 1 == 0) = false := by simp; omega
        have hz1 : ¬ (nx : Int) + 1 = 0 := by omega
        have hw1 : IntKind.i64.wrap ((nx : Int) + 1) = (nx : Int) + 1 := by rw [IntKind.wrap_i64]; omega
        have hw2 : IntKind.i64.wrap (r : Int) = (r : Int) := by rw [IntKind.wrap_i64]; omega
        have hw3 : IntKind.i64.wrap cut = cut := by rw [IntKind.wrap_i64]; omega
        have hsl : ∀ WW : World, (Instr.slice 22 (.slice Ax nx cx) none (some (.int .i64 (r : Int))) none).run Try.prog WW = .ok (.slice Ax r cx) WW := by
          obtain ⟨iz, hi, hszz⟩ := u8_i
          have h := (slice_to (P := Try.prog) rU8 22 5 Try.underlying22 hi Ax nx cx .i64 (r : Int) (by omega) (by omega) hlx).1
          rw [show ((r : Int)).toNat = r by omega] at h
          exact h
        go_wp2_with (go_at_call 33; fail)
        have hbk := HG.out.cut r (by have := HN.out; omega)
        refine (Parse_calls _ (fun k => k < wr.heap.size) Ax r cx ((puts W).take r) ((HSL.out.move (Same.alloc (Same.refl _ _) (fun _ h => h) _)).take_ hr2) (fun k hk => by simp; omega) (by omega)).mono ?_
        rintro e w2 ⟨v2, rfl, HO2, hb⟩
        rw [hbk]
        have HBQ : Fact (Below wr.heap.size wr w2) := ⟨((Below.refl _ _).alloc (Nat.le_refl _) _).trans (hb.mono (by simp))⟩
        have HB2 : Fact (Below w.heap.size w w2) := ⟨HB.out.trans (HBQ.out.mono HB.out.size)⟩
        have HM2 : SetM Try.prog 3 4 w2 mb (k + 1) (bndZ W) := HM.out.below HBQ.out HM.out.lt
        have hlk := HM2.lookup Try.underlying57 Try.underlying3 Try.underlying4 (zero_bool w2) (a := (r : Int)) (by omega)
        have hbz : bndZ W (r : Int) = bnd W r := by simp [bndZ]
        rw [hbz] at hlk
        clear hb hbk HO2 HM2 hbz
        cases hbd : bnd W r
        · rw [hbd] at hlk
          simp only [Bool.false_eq_true, if_false]
          clear hbd
          go_wp2_with fail
          go_ret
          exact ⟨rfl, HB2.out⟩
        · rw [hbd] at hlk
          simp only [if_true]
          clear hbd
          go_wp2_with fail
          go_ret
          exact ⟨rfl, HB2.out⟩
      · have kk : decide (20 ≤ k) = false := by simp; omega
        have kk' : decide ((20 : Int) ≤ k) = false := by simp; omega
        by_cases hvl : 200 < v.length
        · have kv : decide (200 < v.length) = true := by simp; omega
          have kv' : decide ((200 : Int) < v.length) = true := by simp; omega
          clear hvl
          obtain ⟨r, hr1, hr2, hr3⟩ : ∃ r : Nat, cut.tmod ((nx : Int) + 1) = (r : Int) ∧ r ≤ nx ∧ r ≤ 65535 := by
            refine ⟨(cut % ((nx : Int) + 1)).toNat, ?_, ?_, ?_⟩
            · rw [Int.tmod_eq_emod_of_nonneg hc0]
              have := Int.emod_nonneg cut (show (nx : Int) + 1 ≠ 0 by omega)
              omega
            · have := Int.emod_lt_of_pos cut (show (0 : Int) < (nx : Int) + 1 by omega)
              omega
            · have := Int.emod_lt_of_pos cut (show (0 : Int) < (nx : Int) + 1 by omega)
              omega
          have hr1' : cut % ((nx : Int) + 1) = (r : Int) := by rw [← Int.tmod_eq_emod_of_nonneg hc0]; exact hr1
          have hz0 : ((nx : Int) + 1 == 0) = false := by simp; omega
          have hz1 : ¬ (nx : Int) + 1 = 0 := by omega
          have hw1 : IntKind.i64.wrap ((nx : Int) + 1) = (nx : Int) + 1 := by rw [IntKind.wrap_i64]; omega
          have hw2 : IntKind.i64.wrap (r : Int) = (r : Int) := by rw [IntKind.wrap_i64]; omega
          have hw3 : IntKind.i64.wrap cut = cut := by rw [IntKind.wrap_i64]; omega
          have hsl : ∀ WW : World, (Instr.slice 22 (.slice Ax nx cx) none (some (.int .i64 (r : Int))) none).run Try.prog WW = .ok (.slice Ax r cx) WW := by
            obtain ⟨iz, hi, hszz⟩ := u8_i
            have h := (slice_to (P := Try.prog) rU8 22 5 Try.underlying22 hi Ax nx cx .i64 (r : Int) (by omega) (by omega) hlx).1
            rw [show ((r : Int)).toNat = r by omega] at h
            exact h
          go_wp2_with (go_at_call 33; fail)
          have hbk := HG.out.cut r (by have := HN.out; omega)
          refine (Parse_calls _ (fun k => k < wr.heap.size) Ax r cx ((puts W).take r) ((HSL.out.move (Same.alloc (Same.refl _ _) (fun _ h => h) _)).take_ hr2) (fun k hk => by simp; omega) (by omega)).mono ?_
          rintro e w2 ⟨v2, rfl, HO2, hb⟩
          rw [hbk]
          have HBQ : Fact (Below wr.heap.size wr w2) := ⟨((Below.refl _ _).alloc (Nat.le_refl _) _).trans (hb.mono (by simp))⟩
          have HB2 : Fact (Below w.heap.size w w2) := ⟨HB.out.trans (HBQ.out.mono HB.out.size)⟩
          have HM2 : SetM Try.prog 3 4 w2 mb (k + 1) (bndZ W) := HM.out.below HBQ.out HM.out.lt
          have hlk := HM2.lookup Try.underlying57 Try.underlying3 Try.underlying4 (zero_bool w2) (a := (r : Int)) (by omega)
          have hbz : bndZ W (r : Int) = bnd W r := by simp [bndZ]
          rw [hbz] at hlk
          clear hb hbk HO2 HM2 hbz
          cases hbd : bnd W r
          · rw [hbd] at hlk
            simp only [Bool.false_eq_true, if_false]
            clear hbd
            go_wp2_with fail
            go_ret
            exact ⟨rfl, HB2.out⟩
          · rw [hbd] at hlk
            simp only [if_true]
            clear hbd
            go_wp2_with fail
            go_ret
            exact ⟨rfl, HB2.out⟩
        · have kv : decide (200 < v.length) = false := by simp; omega
          have kv' : decide ((200 : Int) < v.length) = false := by simp; omega
          have hw3 : IntKind.u8.wrap (k : Int) = ((lo k).toNat : Int) := by rw [lo_low (by omega), IntKind.wrap_u8]; omega
          have HLT : Fact (k < 20 ∧ v.length ≤ 200) := ⟨by omega⟩
          clear hvl hk
          go_wp2_with (go_at_call 20; fail)
          refine (Put_calls' _ (fun k => k < wr.heap.size) Ax nx cx (puts W) _ (lo k) A3 v.length c3 v rfl (HSL.out.move (Same.alloc (Same.refl _ _) (fun _ h => h) _)) ((HSV.out.move (Same.alloc (Same.refl _ _) (fun k hk => by have := HF.out k hk; have := HB.out.size; omega) _)).mono (fun k hk => by have := HF.out k hk; have := HB.out.size; omega)) (fun k hk => by simp; omega) (by have := HLT.out; omega)).mono ?_
          rintro e w3 ⟨A4, c4, rfl, HO4, hb⟩
          rw [putE_zero (by have := HLT.out; omega)]
          have HB3 : Fact (Below wr.heap.size wr w3) := ⟨((Below.refl _ _).alloc (Nat.le_refl _) _).trans (hb.mono (by simp))⟩
          have HBW3 : Fact (Below w.heap.size w w3) := ⟨HB.out.trans (HB3.out.mono HB.out.size)⟩
          have HM3 : Fact (SetM Try.prog 3 4 w3 mb (k + 1) (bndZ W)) := ⟨HM.out.below HB3.out HM.out.lt⟩
          obtain ⟨W2, hW2, HG2, hSS⟩ : ∃ W2, putL (puts W) (lo k) v = puts W2 ∧ Fact (Good W2 (k + 1)) ∧ (fun c : Int => bndZ W c || c == ((puts W2).length : Int)) = bndZ W2 := by
            by_cases hv0 : v = []
            · exact ⟨W, by subst hv0; exact putL_nil, ⟨HG.out.more⟩, bndZ_same W⟩
            · exact ⟨W ++ [(lo k, v)], by rw [puts_snoc, putL_some (by have := HLT.out; omega) hv0], ⟨HG.out.snoc HLT.out.1 hv0 HLT.out.2⟩, bndZ_snoc W _⟩
          rw [hW2] at HO4 ⊢
          have HS4 : Fact (Sl rU8 w3 (fun b => b < w3.heap.size ∧ b ≠ mb) A4 (puts W2).length c4 (puts W2)) := ⟨HO4.out.slF.mono (fun b hb => ⟨hb.2, by have h3 := HM.out.lt; have h4 := hb.1; simp at h4; omega⟩)⟩
          have hql : (puts W2).length ≤ 4060 := by have := HG2.out.len; have := HLT.out; omega
          generalize hq : (puts W2).length = q4 at HS4 hSS hql ⊢
          have HQ := Fact.mk hq
          have HSS := Fact.mk hSS
          clear hW2 hb HO4 hq hSS
          go_wp2_with (first
            | (at_mapUpdate
               refine wpList_setStore rfl (.tmp 40) (.tmp 42) (.const (.bool true)) 57 (.inl rfl) 3 4 Try.underlying57 Try.underlying3 Try.underlying4 mb (k + 1) _ rfl HM3.out (by omega) (q4 : Int) rfl rfl (by omega) ?_
               intro w4 hs4 hg4
               rw [HSS.out] at hs4
               have HM4 := Fact.mk hs4
               have HB4 : Fact (Below w.heap.size w w4) := ⟨HBW3.out.grown hg4 HBW3.out.size (by intro k hk; injection hk with hk; have := HMB.out; omega)⟩
               have HS5 : Fact (Sl rU8 w4 (fun b => b < w4.heap.size ∧ b ≠ mb) A4 q4 c4 (puts W2)) := ⟨(HS4.out.move (Same.of_grown hg4 (fun b hb => ⟨hb.1, fun he => by injection he with he; exact hb.2 he⟩))).mono (fun b hb => ⟨by have := hg4.size; omega, hb.2⟩)⟩
               clear hs4 hg4))
          go_roundg (n - (k + 1))
          case measure => have := HK.out; omega
          case rel => exact ⟨k + 1, A4, _, c4, W2, rfl, by go_num, ⟨by omega⟩, ⟨by have := HLT.out; omega⟩, ⟨HQ.out.symm⟩, HS5, HM4, HG2, HB4⟩
    · have hk : k = n := by have := HK.out; omega
      obtain ⟨r, hr1, hr2, hr3⟩ : ∃ r : Nat, cut.tmod ((nx : Int) + 1) = (r : Int) ∧ r ≤ nx ∧ r ≤ 65535 := by
        refine ⟨(cut % ((nx : Int) + 1)).toNat, ?_, ?_, ?_⟩
        · rw [Int.tmod_eq_emod_of_nonneg hc0]
          have := Int.emod_nonneg cut (show (nx : Int) + 1 ≠ 0 by omega)
          omega
        · have := Int.emod_lt_of_pos cut (show (0 : Int) < (nx : Int) + 1 by omega)
          omega
        · have := Int.emod_lt_of_pos cut (show (0 : Int) < (nx : Int) + 1 by omega)
          omega
      have hr1' : cut % ((nx : Int) + 1) = (r : Int) := by rw [← Int.tmod_eq_emod_of_nonneg hc0]; exact hr1
      have hz0 : ((nx : Int) + 1 == 0) = false := by simp; omega
      have hz1 : ¬ (nx : Int) + 1 = 0 := by omega
      have hw1 : IntKind.i64.wrap ((nx : Int) + 1) = (nx : Int) + 1 := by rw [IntKind.wrap_i64]; omega
      have hw2 : IntKind.i64.wrap (r : Int) = (r : Int) := by rw [IntKind.wrap_i64]; omega
      have hw3 : IntKind.i64.wrap cut = cut := by rw [IntKind.wrap_i64]; omega
      have hsl : ∀ WW : World, (Instr.slice 22 (.slice Ax nx cx) none (some (.int .i64 (r : Int))) none).run Try.prog WW = .ok (.slice Ax r cx) WW := by
        obtain ⟨iz, hi, hszz⟩ := u8_i
        have h := (slice_to (P := Try.prog) rU8 22 5 Try.underlying22 hi Ax nx cx .i64 (r : Int) (by omega) (by omega) hlx).1
        rw [show ((r : Int)).toNat = r by omega] at h
        exact h
      go_wp2_with (go_at_call 33; fail)
      have hbk := HG.out.cut r (by have := HN.out; omega)
      refine (Parse_calls _ (fun k => k < wr.heap.size) Ax r cx ((puts W).take r) (HSL.out.take_ hr2) (fun k hk => hk) (by omega)).mono ?_
      rintro e w2 ⟨v2, rfl, HO2, hb⟩
      rw [hbk]
      have HBQ : Fact (Below wr.heap.size wr w2) := ⟨hb⟩
      have HB2 : Fact (Below w.heap.size w w2) := ⟨HB.out.trans (HBQ.out.mono HB.out.size)⟩
      have HM2 : SetM Try.prog 3 4 w2 mb (k + 1) (bndZ W) := HM.out.below HBQ.out HM.out.lt
      have hlk := HM2.lookup Try.underlying57 Try.underlying3 Try.underlying4 (zero_bool w2) (a := (r : Int)) (by omega)
      have hbz : bndZ W (r : Int) = bnd W r := by simp [bndZ]
      rw [hbz] at hlk
      clear hb hbk HO2 HM2 hbz
      cases hbd : bnd W r
      · rw [hbd] at hlk
        simp only [Bool.false_eq_true, if_false]
        clear hbd
        go_wp2_with fail
        go_ret
        exact ⟨rfl, HB2.out⟩
      · rw [hbd] at hlk
        simp only [if_true]
        clear hbd
        go_wp2_with fail
        go_ret
        exact ⟨rfl, HB2.out⟩
end Go.Proofs.Ytjjcjdefenbnjaa.LawCut
