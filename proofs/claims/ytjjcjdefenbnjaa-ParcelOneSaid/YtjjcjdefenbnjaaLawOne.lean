/- TlvOne: for every input the law answers true; what was in memory before is as it was. -/
import Derived.Test.YtjjcjdefenbnjaaPlainT
import Derived.Test.YtjjcjdefenbnjaaTlvI
set_option linter.unusedVariables false
set_option linter.unusedSimpArgs false
namespace Go.Proofs.Ytjjcjdefenbnjaa.LawOne
open Go.RowKit Go.Proofs.Ytjjcjdefenbnjaa.Lib Go.Proofs.Ytjjcjdefenbnjaa.TlvA Go.Proofs.Ytjjcjdefenbnjaa.TlvB Go.Proofs.Ytjjcjdefenbnjaa.TlvC Go.Proofs.Ytjjcjdefenbnjaa.TlvD Go.Proofs.Ytjjcjdefenbnjaa.TlvE Go.Proofs.Ytjjcjdefenbnjaa.TlvH Go.Proofs.Ytjjcjdefenbnjaa.TlvI Go.Proofs.Ytjjcjdefenbnjaa.PlainT

theorem puts_put {l : List (UInt8 × List UInt8)} {k : Nat} {t : UInt8} {v : List UInt8} (h : l[k]? = some (t, v)) (hv : v ≠ []) (hl : v.length ≤ 65535) : puts (l.take (k + 1)) = putL (puts (l.take k)) t v := by
  rw [puts_take h, putL_some (by omega) hv]
theorem packL_len (l : List (List UInt8)) : l.length ≤ (packL l).length := by
  induction l with
  | nil => exact Nat.le_refl _
  | cons v r ih =>
    have he : packL (v :: r) = [lo (v.length / 256), lo v.length] ++ v ++ packL r := by simp [packL]
    rw [he]
    simp only [List.length_append, List.length_cons, List.length_nil]
    omega
theorem puts_len (l : List (UInt8 × List UInt8)) : l.length ≤ (puts l).length := by
  induction l with
  | nil => exact Nat.le_refl _
  | cons f r ih =>
    have he : puts (f :: r) = [f.1, lo (f.2.length / 256), lo f.2.length] ++ f.2 ++ puts r := by simp [puts]
    rw [he]
    simp only [List.length_append, List.length_cons, List.length_nil]
    omega
theorem putE_zero {n : Nat} (h : n ≤ 65535) : putE n = 0 := by unfold putE; rw [if_neg (by omega)]

set_option maxHeartbeats 2000000 in
set_option maxRecDepth 100000 in
theorem TlvOne_calls (w : World) (F : Nat → Prop) (A : Option Addr) (n c : Nat) (l : List UInt8) (h : Sl rU8 w F A n c l) (hF : ∀ k, F k → k < w.heap.size) :
    Calls Try.prog 16 #[.slice A n c] w fun e w' => e = .returned (.bool true) ∧ Below w.heap.size w w' := by
  have hlen : l.length = n := h.len
  have hmx : n ≤ 9223372036854775807 := Nat.le_trans h.le h.max_
  have HF := Fact.mk hF
  have H := Fact.mk h
  have HL := Fact.mk hlen
  clear h hF hlen
  by_cases hbig : 2000 < n
  · have kb : decide (2000 < n) = true := by simp; omega
    have kb' : decide ((2000 : Int) < n) = true := by simp; omega
    go_enter Try.func16, Try.ntmps16
    go_wp2_with (go_at_call 19; refine (Awake_calls _).mono ?_; rintro e w1 ⟨rfl, hb⟩; have HB1 := Fact.mk hb; clear hb)
    go_ret
    exact ⟨rfl, HB1.out⟩
  · have kb : decide (2000 < n) = false := by simp; omega
    have kb' : decide ((2000 : Int) < n) = false := by simp; omega
    have hn : n ≤ 2000 := by omega
    clear hbig
    go_enter Try.func16, Try.ntmps16
    go_wp2_with (first
      | (go_at_call 19; refine (Awake_calls _).mono ?_; rintro e w1 ⟨rfl, hb⟩; have HB1 := Fact.mk hb; clear hb)
      | (go_at_call 33; fail))
    refine (Parse_calls _ F A n c l (H.out.move (Same.of_below HB1.out HF.out)) (fun k hk => by have := HF.out k hk; have := HB1.out.size; omega) (by omega)).mono ?_
    rintro e w2 ⟨v2, rfl, HO2, hb⟩
    have HB2 : Fact (Below w.heap.size w w2) := ⟨HB1.out.trans (hb.mono HB1.out.size)⟩
    obtain ⟨Ap, cp, hv2, hsp⟩ := HO2.out.sl
    subst hv2
    have HSP := Fact.mk hsp
    have HX : Fact ((parseG l (-1)).2 = 0 → puts (parseG l (-1)).1 = l ∧ ∀ f ∈ (parseG l (-1)).1, f.2 ≠ [] ∧ f.2.length ≤ 65535) := ⟨parse_one l (-1)⟩
    clear hb hsp HO2 HB1
    generalize parseG l (-1) = res at HX HSP ⊢
    obtain ⟨fs, er⟩ := res
    simp only at HX HSP
    by_cases he : er = 0
    · subst he
      obtain ⟨hp, hle⟩ := HX.out rfl
      have hfl : fs.length ≤ 2000 := by have h1 := puts_len fs; rw [hp] at h1; have := HL.out; omega
      have HP := Fact.mk hp
      have HLE := Fact.mk hle
      clear hp hle HX
      go_wp2_with fail
      go_loopg [5, 26] fs.length (fun kq x i wr => ∃ (k : Nat) (Ax : Option Addr) (nx cx : Nat), x = .slice Ax nx cx ∧ i = .int .i64 (k : Int) ∧ Fact (k + kq = fs.length) ∧ Fact (nx = (puts (fs.take k)).length) ∧ Fact (Sl rU8 wr (fun k => k < wr.heap.size) Ax nx cx (puts (fs.take k))) ∧ Fact (Below w2.heap.size w2 wr))
      case atStart => exact ⟨0, none, 0, 0, rfl, rfl, ⟨by omega⟩, ⟨rfl⟩, ⟨Sl.nil _ _ _ _ _ (by omega)⟩, ⟨Below.refl _ _⟩⟩
      case round =>
        obtain ⟨k, Ax, nx, cx, rfl, rfl, HK, HN, HS, HB⟩ := hrel
        by_cases hlt : k < fs.length
        · obtain ⟨⟨t, v⟩, hx⟩ : ∃ x, fs[k]? = some x := ⟨_, List.getElem?_eq_getElem hlt⟩
          obtain ⟨ad, A3, c3, rfl, hf, hc1, hc2, hsv⟩ := fld_at HSP.out hx
          obtain ⟨hv0, hvl⟩ := HLE.out _ (List.mem_of_getElem? hx)
          simp only at hv0 hvl
          have hc1' : wr.cell? (ad.add (k * 2)) = some (.int .u8 (t.toNat : Int)) := (cell_same (by rw [block_add]; exact HB.out.block _ hf)).trans hc1
          have hc2' : wr.cell? ⟨(ad.add (k * 2)).block, (ad.add (k * 2)).off + 1, none⟩ = some (.slice A3 v.length c3) := (cell_same (by simp only [block_add]; exact HB.out.block _ hf)).trans hc2
          have HSV : Fact (Sl rU8 wr (fun k => k < w2.heap.size) A3 v.length c3 v) := ⟨hsv.move (Same.of_below HB.out (fun _ h => h))⟩
          have hpk := puts_put hx hv0 hvl
          have hpl := puts_le (l := fs) (k + 1)
          rw [HP.out, HL.out] at hpl
          have hpl2 := puts_le (l := fs) k
          rw [HP.out, HL.out] at hpl2
          have HPK := Fact.mk hpk
          clear hc1 hc2 hsv hx hf hpk hv0
          go_wp2_with (go_at_call 20; fail)
          refine (Put_calls' _ (fun k => k < wr.heap.size) Ax nx cx (puts (fs.take k)) _ t A3 v.length c3 v rfl (HS.out.move (Same.alloc (Same.refl _ _) (fun _ h => h) _)) ((HSV.out.move (Same.alloc (Same.refl _ _) (fun k hk => by have := HB.out.size; omega) _)).mono (fun k hk => by have := HB.out.size; omega)) (fun k hk => by simp; omega) (by have := HN.out; omega)).mono ?_
          rintro e w3 ⟨A4, c4, rfl, HO4, hb⟩
          rw [putE_zero hvl]
          rw [← HPK.out] at HO4 ⊢
          have HS4 : Fact (Sl rU8 w3 (fun k => k < w3.heap.size) A4 (puts (fs.take (k + 1))).length c4 (puts (fs.take (k + 1)))) := ⟨HO4.out.slF.mono (fun _ hk => hk.2)⟩
          have HB4 : Fact (Below w2.heap.size w2 w3) := ⟨HB.out.trans (((Below.refl _ _).alloc (Nat.le_refl _) _).trans (hb.mono (by simp)) |>.mono HB.out.size)⟩
          clear hb HO4
          go_wp2_with fail
          go_roundg (fs.length - (k + 1))
          case measure => have := HK.out; omega
          case rel => exact ⟨k + 1, A4, _, c4, rfl, by go_num, ⟨by omega⟩, ⟨rfl⟩, HS4, HB4⟩
        · have hk : fs.take k = fs := List.take_of_length_le (by omega)
          have HS2 : Fact (Sl rU8 wr (fun k => k < wr.heap.size) Ax nx cx l) := ⟨by have h := HS.out; rw [hk, HP.out] at h; exact h⟩
          have HBW : Fact (Below w.heap.size w wr) := ⟨HB2.out.trans (HB.out.mono HB2.out.size)⟩
          have hstr1 := run_str (P := Try.prog) 22 5 9 Try.underlying22 Try.underlying5 Try.underlying9 HS2.out
          have hstr2 := run_str (P := Try.prog) 22 5 9 Try.underlying22 Try.underlying5 Try.underlying9 (H.out.move (Same.of_below HBW.out HF.out))
          go_wp2_with (go_at_call 37; fail)
          refine (Unpack_calls _ F A n c l (H.out.move (Same.of_below HBW.out HF.out)) (fun k hk => by have := HF.out k hk; have := HBW.out.size; omega) (by omega)).mono ?_
          rintro e w3 ⟨v3, rfl, HO3, hb⟩
          have HB3 : Fact (Below w.heap.size w w3) := ⟨HBW.out.trans (hb.mono HBW.out.size)⟩
          obtain ⟨Au, cu, hv3, hsu⟩ := HO3.out.sl
          subst hv3
          have HSU := Fact.mk hsu
          have HXU : Fact ((unpackG l).2 = 0 → packL (unpackG l).1 = l ∧ ∀ v ∈ (unpackG l).1, v.length ≤ 65535) := ⟨unpack_one l⟩
          clear hb hsu HO3
          generalize unpackG l = ru at HXU HSU ⊢
          obtain ⟨us, eu⟩ := ru
          simp only at HXU HSU
          by_cases hu : eu = 0
          · subst hu
            obtain ⟨hp, hle⟩ := HXU.out rfl
            have hul : us.length ≤ 2000 := by have h1 := packL_len us; rw [hp] at h1; have := HL.out; omega
            have HP2 := Fact.mk hp
            have HLE2 := Fact.mk hle
            clear hp hle
            go_wp2_with (go_at_call 36; fail)
            refine (Pack_calls _ (fun k => k < w3.heap.size) Au us.length cu us HSU.out (fun _ h => h) (by omega) (by rw [HP2.out]; have := HL.out; omega) HLE2.out).mono ?_
            rintro e w4 ⟨v4, rfl, HO4, hb⟩
            have HB4 : Fact (Below w.heap.size w w4) := ⟨HB3.out.trans (hb.mono HB3.out.size)⟩
            rw [HP2.out] at HO4
            obtain ⟨Ay, cy, hv4, hsy⟩ := HO4.out.sl
            subst hv4
            have hstr3 := run_str (P := Try.prog) 22 5 9 Try.underlying22 Try.underlying5 Try.underlying9 hsy
            have hstr4 := run_str (P := Try.prog) 22 5 9 Try.underlying22 Try.underlying5 Try.underlying9 (H.out.move (Same.of_below HB4.out HF.out))
            clear hb hsy HO4
            go_wp2_with fail
            go_ret
            exact ⟨rfl, HB4.out⟩
          · have hu1 : (eu == 0) = false := by simpa using hu
            clear hu
            go_wp2_with fail
            go_ret
            exact ⟨rfl, HB3.out⟩
    · have he1 : (er == 0) = false := by simpa using he
      clear he
      go_wp2_with (go_at_call 37; fail)
      refine (Unpack_calls _ F A n c l (H.out.move (Same.of_below HB2.out HF.out)) (fun k hk => by have := HF.out k hk; have := HB2.out.size; omega) (by omega)).mono ?_
      rintro e w3 ⟨v3, rfl, HO3, hb⟩
      have HB3 : Fact (Below w.heap.size w w3) := ⟨HB2.out.trans (hb.mono HB2.out.size)⟩
      obtain ⟨Au, cu, hv3, hsu⟩ := HO3.out.sl
      subst hv3
      have HSU := Fact.mk hsu
      have HXU : Fact ((unpackG l).2 = 0 → packL (unpackG l).1 = l ∧ ∀ v ∈ (unpackG l).1, v.length ≤ 65535) := ⟨unpack_one l⟩
      clear hb hsu HO3
      generalize unpackG l = ru at HXU HSU ⊢
      obtain ⟨us, eu⟩ := ru
      simp only at HXU HSU
      by_cases hu : eu = 0
      · subst hu
        obtain ⟨hp, hle⟩ := HXU.out rfl
        have hul : us.length ≤ 2000 := by have h1 := packL_len us; rw [hp] at h1; have := HL.out; omega
        have HP := Fact.mk hp
        have HLE := Fact.mk hle
        clear hp hle
        go_wp2_with (go_at_call 36; fail)
        refine (Pack_calls _ (fun k => k < w3.heap.size) Au us.length cu us HSU.out (fun _ h => h) (by omega) (by rw [HP.out]; have := HL.out; omega) HLE.out).mono ?_
        rintro e w4 ⟨v4, rfl, HO4, hb⟩
        have HB4 : Fact (Below w.heap.size w w4) := ⟨HB3.out.trans (hb.mono HB3.out.size)⟩
        rw [HP.out] at HO4
        obtain ⟨Ay, cy, hv4, hsy⟩ := HO4.out.sl
        subst hv4
        have hstr1 := run_str (P := Try.prog) 22 5 9 Try.underlying22 Try.underlying5 Try.underlying9 hsy
        have hstr2 := run_str (P := Try.prog) 22 5 9 Try.underlying22 Try.underlying5 Try.underlying9 (H.out.move (Same.of_below HB4.out HF.out))
        clear hb hsy HO4
        go_wp2_with fail
        go_ret
        exact ⟨rfl, HB4.out⟩
      · have hu1 : (eu == 0) = false := by simpa using hu
        clear hu
        go_wp2_with fail
        go_ret
        exact ⟨rfl, HB3.out⟩
end Go.Proofs.Ytjjcjdefenbnjaa.LawOne
