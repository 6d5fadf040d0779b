/- ferrymanlaw04.Turned: bytes with some turned, or left out: some bytes, no more than there were, in memory of the call's own. A contract over any world. -/
import Derived.Test.YtjjcjdefenbnjaaParcelM
import Derived.ArgAppend
import Derived.Deep.Upon
import Derived.StillTailTactics
import Derived.Laws.Shifts
set_option linter.unusedVariables false
set_option linter.unusedSimpArgs false
namespace Go.Proofs.Ytjjcjdefenbnjaa.Turned
open Go.RowKit Go.Proofs.Ytjjcjdefenbnjaa.Lib Go.Proofs.Ytjjcjdefenbnjaa.Reg Go.Proofs.Ytjjcjdefenbnjaa.TlvA Go.Proofs.Ytjjcjdefenbnjaa.TlvB
/-- Bytes in a block of the call's own, whatever lies behind them. -/
def Rw (base : Nat) (w : World) (A : Option Addr) (m c : Nat) (l : List UInt8) : Prop :=
  m ≤ c ∧ c ≤ 9223372036854775807 ∧ l.length = m ∧ (0 < m → ∃ g cur, A = some ⟨g, 0, none⟩ ∧ base ≤ g ∧ w.heap[g]? = some (.cells cur 5 (0, 0)) ∧ m ≤ cur.size ∧ cur.toList.take m = l.map vu8)
theorem Rw.of_ow {base base' : Nat} {w : World} {v : Value} {l : List UInt8} (h : Ow rU8 5 w base (fun _ => False) v l) (hb : base' ≤ base) : ∃ A c, v = .slice A l.length c ∧ Rw base' w A l.length c l := by
  obtain ⟨cells, ho, he⟩ := h
  rcases ho.2 with ⟨rfl, hn⟩ | ⟨g, cap, cur, rfl, hg, hh, hnc, hcm, hcs, ht⟩
  · exact ⟨none, 0, by rw [hn], by omega, by omega, rfl, fun h => by omega⟩
  · have hc : cells = l.map vu8 := by
      have hl : cells.length = l.length := by rw [he.1]; exact Nat.mul_one _
      apply List.ext_getElem?
      intro i
      by_cases hi : i < l.length
      · have h1 := he.2 i _ (List.getElem?_eq_getElem hi)
        have h2 : (cells.drop (i * 1)).take 1 = [vu8 l[i]] := h1
        rw [Nat.mul_one, List.drop_eq_getElem_cons (by omega)] at h2
        simp only [List.take_succ_cons, List.take_zero, List.cons.injEq, and_true] at h2
        rw [List.getElem?_eq_getElem (by omega), h2, List.getElem?_map, List.getElem?_eq_getElem hi]
        rfl
      · rw [List.getElem?_eq_none (by omega), List.getElem?_eq_none (by simp; omega)]
    have hrs : rU8.sz = 1 := rfl
    rw [hrs, Nat.mul_one] at hcs ht
    exact ⟨_, cap, rfl, hnc, by simpa [maxLen] using hcm, rfl, fun _ => ⟨g, cur, rfl, Nat.le_trans hb hg, hh, by omega, by rw [ht, hc]⟩⟩
section
variable {base : Nat} {w w' : World} {A : Option Addr} {m c : Nat} {l : List UInt8}
theorem Rw.move (h : Rw base w A m c l) (hw : w'.heap = w.heap) : Rw base w' A m c l := by
  refine ⟨h.1, h.2.1, h.2.2.1, fun hm => ?_⟩
  obtain ⟨g, cur, e1, e2, e3, e4⟩ := h.2.2.2 hm
  exact ⟨g, cur, e1, e2, by rw [hw]; exact e3, e4⟩
theorem Rw.cell (h : Rw base w A m c l) {k : Nat} (hk : k < m) : ∃ g cur b, A = some ⟨g, 0, none⟩ ∧ base ≤ g ∧ w.heap[g]? = some (.cells cur 5 (0, 0)) ∧ l[k]? = some b ∧ w.cell? ⟨g, k, none⟩ = some (.int .u8 (b.toNat : Int)) ∧ w.frozen? ⟨g, k, none⟩ = false := by
  obtain ⟨g, cur, e1, e2, e3, e4, e5⟩ := h.2.2.2 (by omega)
  have hl := h.2.2.1
  refine ⟨g, cur, l[k]'(by omega), e1, e2, e3, List.getElem?_eq_getElem _, ?_, ParcelM.row_free e3⟩
  refine ParcelM.row_cell e3 ?_
  have h1 : (cur.toList.take m)[k]? = (l.map vu8)[k]? := by rw [e5]
  rw [List.getElem?_take, if_pos hk, List.getElem?_map, List.getElem?_eq_getElem (show k < l.length by omega), Array.getElem?_toList] at h1
  exact h1
theorem Rw.sl (h : Rw base w A m c l) : Sl rU8 w (fun k => base ≤ k ∧ k < w.heap.size) A m c l := by
  refine ⟨h.1, h.2.1, h.2.2.1, fun hm => ?_⟩
  obtain ⟨g, cur, e1, e2, e3, e4, e5⟩ := h.2.2.2 hm
  refine ⟨⟨g, 0, none⟩, e1, ⟨e2, Go.lt_of_block e3⟩, fun i x hi => ?_⟩
  refine ⟨[vu8 x], rfl, fun j u hj => ?_⟩
  match j, hj with
  | 0, hj =>
    injection hj with hj
    subst hj
    have him : i < m := by have := (List.getElem?_eq_some_iff.1 hi).1; have := h.2.2.1; omega
    obtain ⟨g', _, b, f1, _, _, f4, f5, _⟩ := h.cell him
    rw [e1] at f1
    injection f1 with f1
    injection f1 with f1
    subst f1
    rw [hi] at f4
    injection f4 with f4
    subst f4
    have ha : (⟨g, 0, none⟩ : Addr).add (i * rU8.sz + 0) = ⟨g, i, none⟩ := by rw [add_plain']; congr 1; exact Nat.mul_one i
    rw [ha]
    exact f5
theorem Rw.take (h : Rw base w A m c l) {k c' : Nat} (hk : k ≤ m) (hc : k ≤ c') (hc' : c' ≤ 9223372036854775807) : Rw base w A k c' (l.take k) := by
  refine ⟨hc, hc', by rw [List.length_take, h.2.2.1]; omega, fun hk0 => ?_⟩
  obtain ⟨g, cur, e1, e2, e3, e4, e5⟩ := h.2.2.2 (by omega)
  refine ⟨g, cur, e1, e2, e3, by omega, ?_⟩
  rw [List.map_take, ← e5, List.take_take, Nat.min_eq_left hk]
theorem Rw.set {g k : Nat} (h : Rw base w (some ⟨g, 0, none⟩) m c l) (hk : k < m) (b : UInt8) : Rw base (w.setCell ⟨g, k, none⟩ (vu8 b)) (some ⟨g, 0, none⟩) m c (l.set k b) := by
  refine ⟨h.1, h.2.1, by rw [List.length_set, h.2.2.1], fun hm => ?_⟩
  obtain ⟨g', cur, e1, e2, e3, e4, e5⟩ := h.2.2.2 hm
  injection e1 with e1
  injection e1 with e1
  subst e1
  refine ⟨g, cur.setIfInBounds k (vu8 b), rfl, e2, ParcelM.row_set _ e3, by simpa using e4, ?_⟩
  rw [Array.toList_setIfInBounds, List.map_set, ← e5, List.take_set]
end
theorem slice_hm {P : Program} (t e : TypeId) {i : TypeInfo} (ht : P.underlying t = some (.slice e)) (hi : P.info? e = some i) (A : Option Addr) (n c : Nat) (p : Nat) (hp : p ≤ c) (W : World) :
    (Instr.slice t (.slice A n c) none (some (.int .i64 (p : Int))) (some (.int .i64 (p : Int)))).run P W = .ok (.slice A p p) W := by
  have hel : P.elem t = e := by simp [Program.elem, ht]
  have hu : P.underlying t = some (.slice (P.elem t)) := by rw [hel]; exact ht
  have ha : (A.map fun x => x.add 0) = A := by cases A <;> simp [Addr.add]
  rw [run_slice_hm W t A n c hu .i64 .i64 p p (by omega) (by omega) (by omega), hel]
  simp [sizeOf, typeInfo, hi, sliced, Result.andThen, ha]
theorem byte_any {z : Int} (h : (Lit.int .u8 z).wf = true) : ∃ b : UInt8, z = (b.toNat : Int) := ⟨UInt8.ofNat z.toNat, (Open.byte_of z h).symm⟩
theorem i64_cell {w : World} {F : Nat → Prop} {A : Option Addr} {n c : Nat} {l : List Int64} (h : Sl rI64 w F A n c l) {i : Nat} (hi : i < n) : ∃ ad x, A = some ad ∧ F ad.block ∧ w.cell? (ad.add i) = some (.int .i64 (Int64.toInt x)) := by
  have hl : i < l.length := by rw [h.len]; exact hi
  obtain ⟨ad, cs, e, hb, hk, hcell⟩ := h.at_ (List.getElem?_eq_getElem hl)
  have hk' : cs = [.int .i64 (Int64.toInt l[i])] := hk
  subst hk'
  refine ⟨ad, l[i], e, hb, ?_⟩
  have := hcell 0 _ rfl
  simpa [rI64, Rep.flat] using this
set_option maxHeartbeats 4000000 in
set_option maxRecDepth 100000 in
theorem Turned_calls (w : World) (F : Nat → Prop) (hF : ∀ k, F k → k < w.heap.size) (A : Option Addr) (n c : Nat) (l : List UInt8) (h : Sl rU8 w F A n c l) (A1 : Option Addr) (n1 c1 : Nat) (xs : List Int64) (h1 : Sl rI64 w F A1 n1 c1 xs) (A2 : Option Addr) (n2 c2 : Nat) (bs : List UInt8) (h2 : Sl rU8 w F A2 n2 c2 bs) (hn : n ≤ 1000000) :
    Calls Try.prog 58 #[.slice A n c, .slice A1 n1 c1, .slice A2 n2 c2] w fun e w' => ∃ A' m c' l', e = .returned (.slice A' m c') ∧ Fact (m ≤ n) ∧ Fact (Rw w.heap.size w' A' m c' l') ∧ Below w.heap.size w w' := by
  have HF := Fact.mk hF
  have HA := Fact.mk h
  have H1 := Fact.mk h1
  have H2 := Fact.mk h2
  have HN := Fact.mk hn
  have hm1 : (n1 : Int) ≤ 9223372036854775807 := by have := Nat.le_trans h1.le h1.max_; omega
  have hm2 : (n2 : Int) ≤ 9223372036854775807 := by have := Nat.le_trans h2.le h2.max_; omega
  have HL : Fact (l.length = n) := ⟨h.len⟩
  clear h h1 h2 hF hn
  go_enter Try.func58, Try.ntmps58
  go_wp2_with (at_builtin
               have HO0 : Fact (Ow rU8 5 (w.alloc (.cells #[] 5)) w.heap.size (fun _ => False) (.slice (some ⟨w.heap.size, 0, none⟩) 0 0) []) := ⟨Ow.litB (xs := []) (cells := #[]) (n := 0) w w.heap.size 5 (Nat.le_refl _) rfl rfl (by decide)⟩
               refine wpList_app rU8 (w0 := w) w.heap.size rfl (.tmp 10) (.tmp 11) 22 5 (.int .u8 0) 1 rfl Try.underlying22 info_u8 rfl (by decide) (by decide) (fun _ => False) F _ [] l _ _ _ rfl rfl HO0.out (HA.out.move (Same.of_below ((Below.refl _ _).alloc (Nat.le_refl _) _) HF.out)) ((Below.refl _ _).alloc (Nat.le_refl _) _) (by simp) (by have := HN.out; simp; omega) (fun _ h => h.elim) (fun _ _ h => h) ?_
               intro v3 w3 ho3 hb3 hg3 hat3
               obtain ⟨A3, c3, hv3, hr3⟩ := Rw.of_ow ho3 (Nat.le_refl _)
               subst hv3
               have HR3 := Fact.mk hr3
               have HB3 := Fact.mk hb3
               clear ho3 hb3 hg3 hat3 HO0 hr3)
  go_loopg [7, 8] 4 (fun kq o i wr => ∃ (k m c' : Nat) (A' : Option Addr) (l' : List UInt8), i = .int .i64 (k : Int) ∧ o = .slice A' m c' ∧ Fact (k + kq = 4) ∧ Fact (m ≤ n) ∧ Fact (Rw w.heap.size wr A' m c' l') ∧ Fact (Below w.heap.size w wr))
  case atStart => exact ⟨0, _, c3, A3, [] ++ l, rfl, by simp, ⟨rfl⟩, ⟨by rw [← HL.out]; simp⟩, HR3, HB3⟩
  case round =>
    clear HR3 HB3
    obtain ⟨k, m, c', A', l', rfl, rfl, HK, HM, HR, HB⟩ := hrel
    have hk4 : (k : Int) ≤ 4 := by have := HK.out; omega
    by_cases hall : k < n1 ∧ k < n2 ∧ k < 4 ∧ 0 < m
    · obtain ⟨g1, g2, g3, g4⟩ := hall
      obtain ⟨ad1, x, rfl, hfa1, hx⟩ := i64_cell H1.out g1
      obtain ⟨b, hb⟩ : ∃ b, bs[k]? = some b := ⟨_, List.getElem?_eq_getElem (by rw [H2.out.len]; exact g2)⟩
      obtain ⟨ad2, rfl, hfa2, hy⟩ := H2.out.byte hb
      have hx' : wr.cell? (ad1.add k) = some (.int .i64 (Int64.toInt x)) := (cell_same (HB.out.block _ (by rw [block_add]; exact HF.out _ hfa1))).trans hx
      have hy' : wr.cell? (ad2.add k) = some (.int .u8 (b.toNat : Int)) := (cell_same (HB.out.block _ (by rw [block_add]; exact HF.out _ hfa2))).trans hy
      have HY : Fact (ad2.block < w.heap.size) := ⟨HF.out _ hfa2⟩
      have t1 : decide (k < n1) = true := by simpa using g1
      have t2 : decide (k < n2) = true := by simpa using g2
      have t3 : decide (k < 4) = true := by simpa using g3
      have t4 : decide (0 < m) = true := by simpa using g4
      have u1 : decide ((k : Int) < n1) = true := by simp; omega
      have u2 : decide ((k : Int) < n2) = true := by simp; omega
      have u3 : decide ((k : Int) < 4) = true := by simp; omega
      have u4 : decide ((0 : Int) < m) = true := by simp; omega
      have i1 : (k : Int) < n1 := by omega
      have i2 : (k : Int) < n2 := by omega
      obtain ⟨z, hz⟩ : ∃ z : Nat, IntKind.u64.wrap (Int64.toInt x) = (z : Int) := ⟨(IntKind.u64.wrap (Int64.toInt x)).toNat, by rw [IntKind.wrap_u64]; omega⟩
      have hm6 : m ≤ 1000000 := Nat.le_trans HM.out HN.out
      have hwm : IntKind.u64.wrap (m : Int) = (m : Int) := by rw [IntKind.wrap_u64]; omega
      obtain ⟨p, hp⟩ : ∃ p, z % m = p := ⟨_, rfl⟩
      have hpm : p < m := by rw [← hp]; exact Nat.mod_lt _ g4
      have hpz : (z : Int) % (m : Int) = (p : Int) := by rw [← hp]; simp
      have hpt : (z : Int).tmod (m : Int) = (p : Int) := by rw [Int.tmod_eq_emod_of_nonneg (by omega)]; exact hpz
      have hwp : IntKind.i64.wrap (p : Int) = (p : Int) := by rw [IntKind.wrap_i64]; omega
      have hm0 : ((m : Int) == 0) = false := by simp; omega
      obtain ⟨r, hr, hr9⟩ : ∃ r : Nat, (b.toNat : Int) % 9 = (r : Int) ∧ r < 9 := ⟨b.toNat % 9, by omega, by omega⟩
      have hrt : (b.toNat : Int).tmod 9 = (r : Int) := by rw [Int.tmod_eq_emod_of_nonneg (by omega)]; exact hr
      have hrw : IntKind.u8.wrap (r : Int) = (r : Int) := by rw [IntKind.wrap_u8]; omega
      have HPM := Fact.mk hpm
      have HM6 := Fact.mk hm6
      have HR9 := Fact.mk hr9
      have G4 := Fact.mk g4
      have G3 := Fact.mk g3
      clear hx hy hb hp g1 g2 g3 g4 hfa1 hfa2 hpm hm6
      by_cases h8 : r = 8
      · subst h8
        have e8 : (((8 : Nat) : Int) == 8) = true := rfl
        obtain ⟨p1, hp1⟩ : ∃ p1, p + 1 = p1 := ⟨_, rfl⟩
        have hwp1 : IntKind.i64.wrap ((p : Int) + 1) = (p1 : Int) := by rw [IntKind.wrap_i64]; have := HPM.out; have := HM6.out; omega
        obtain ⟨i, hi, hsz⟩ := TlvB.u8_i
        have hcc := HR.out.1
        have hs3 := slice_hm (P := Try.prog) 22 5 Try.underlying22 hi A' m c' p (by have := HPM.out; omega)
        obtain ⟨A5, hs5, hs6⟩ := slice_from (P := Try.prog) rU8 22 5 Try.underlying22 hi hsz A' m c' .i64 (p1 : Int) (by omega) (by have := HPM.out; omega)
        simp only [Int.toNat_natCast] at hs5 hs6
        have HS6 : Fact (Sl rU8 wr.drew (fun k => w.heap.size ≤ k ∧ k < wr.heap.size) A5 (m - p1) (c' - p1) (l'.drop p1)) := ⟨hs6 (HR.out.sl.move (fun _ _ => rfl))⟩
        have HP1 := Fact.mk hp1
        obtain ⟨q, hq⟩ : ∃ q, m - p1 = q := ⟨_, rfl⟩
        rw [hq] at hs5 HS6
        have HQ := Fact.mk hq
        have HTK : Fact (Rw w.heap.size wr.drew A' p p (l'.take p)) := ⟨(HR.out.take (Nat.le_of_lt HPM.out) (Nat.le_refl _) (by have := HPM.out; have := HR.out.1; have := HR.out.2.1; omega)).move rfl⟩
        have HAP : Fact (∃ v' w' lq, (Builtin.append_ #[22, 22] 22 #[.slice A' p p, .slice A5 q (c' - p1)]).run Try.prog wr.drew = .ok v' w' ∧ (∃ A6 m6 c6, v' = .slice A6 m6 c6 ∧ m6 ≤ n ∧ Rw w.heap.size w' A6 m6 c6 lq) ∧ Below w.heap.size w w') := ⟨by
          have hBd : Below w.heap.size w wr.drew := HB.out.drew
          by_cases hq0 : q = 0
          · have hrun := run_append_nothing (P := Try.prog) wr.drew 22 22 22 5 i Try.underlying22 hi A' p p (Nat.le_refl _) (.slice A5 q (c' - p1)) (by
              rw [hq0]
              rcases A5 with _ | ad5
              · exact Src.ofNil _ Try.underlying22 _
              · exact Src.ofSlice _ Try.underlying22 ad5 0 _ [] (by simp) (fun j u hj => by cases hj) (fun u hu => by cases hu))
            exact ⟨_, _, _, hrun, ⟨A', p, p, rfl, by have := HPM.out; have := HM.out; omega, HTK.out⟩, hBd⟩
          · obtain ⟨ad5, rfl, _⟩ := HS6.out.some_ (by omega)
            obtain ⟨news, hnw, hnc⟩ := HS6.out.els
            obtain ⟨ad0, e0, _⟩ : ∃ ad0, A' = some ad0 ∧ True := by
              obtain ⟨g, cur, e1, _⟩ := HR.out.2.2.2 (by have := HPM.out; omega)
              exact ⟨_, e1, trivial⟩
            subst e0
            obtain ⟨olds, how, hoc⟩ := HTK.out.sl.els
            have hzz := TlvA.info_u8
            rw [hi] at hzz
            simp only [Option.map_some, Option.some.injEq, Prod.mk.injEq] at hzz
            have hnl : news.length = q * 1 := by rw [hnw.1, HS6.out.len]; rfl
            have hol : olds.length = p * 1 := by rw [how.1, HTK.out.2.2.1]; rfl
            obtain ⟨v', w', hr, ho, hg⟩ := run_append_arg_grows (P := Try.prog) wr.drew 22 22 5 i (.int .u8 0) 1 1 Try.underlying22 hi hzz.1 hzz.2.1 hzz.2.2 rfl (by decide) ad0 p p olds hol hoc ad5 q _ news hnl hnc (by omega) (by have := HM6.out; have := HPM.out; have := HQ.out; unfold maxLen; omega) (by have := HM6.out; have := HPM.out; have := HQ.out; omega)
            have hOw : Ow rU8 5 w' wr.drew.heap.size (fun _ => False) v' (l'.take p ++ l'.drop p1) := by
              refine ⟨olds ++ news, ?_, ?_⟩
              · have hln : (l'.take p ++ l'.drop p1).length = p + q := by rw [List.length_append, HTK.out.2.2.1, HS6.out.len]
                rw [hln]
                exact ho
              · have hbytes : ∀ {W : World} {F' : Nat → Prop} {x : List UInt8} {cs : List Value}, Els rU8 W F' x cs → Els rU8 w' (fun _ => False) x cs := fun h => ⟨h.1, fun i y hy => h.2 i y hy⟩
                exact (hbytes how).append (hbytes hnw)
            obtain ⟨A6, c6, hv6, hr6⟩ := Rw.of_ow hOw (base' := w.heap.size) (by exact HB.out.size)
            refine ⟨_, _, _, hr, ⟨A6, _, c6, hv6, ?_, hr6⟩, hBd.grown hg (by exact HB.out.size) (fun k hk => by cases hk)⟩
            rw [List.length_append, HTK.out.2.2.1, HS6.out.len]
            have := HPM.out; have := HQ.out; have := HP1.out; have := HM.out; omega⟩
        obtain ⟨v7, w7, l7, hrun, ⟨A7, m7, c7, rfl, hm7, hR7⟩, hB7⟩ := HAP.out
        have HRUN := Fact.mk hrun
        have HR7 := Fact.mk hR7
        have HB7 := Fact.mk hB7
        have HM7 := Fact.mk hm7
        clear HAP hs6 hi hsz hq hp1 hrun hR7 hB7 hm7 hcc
        have ip : (p : Int) < (m : Int) := by have := HPM.out; omega
        go_wp2_with fail
        go_still_tail 8, (by kernel_rfl)
        change wpList _ _ _ _ _ wr.drew
        go_wp2_with (at_builtin; refine wpList_ok rfl (exec_append _ rfl rfl rfl HRUN.out) ?_)
        go_roundg (4 - (k + 1))
        case measure => have := HK.out; have := G3.out; omega
        case rel => exact ⟨k + 1, m7, c7, A7, l7, by go_num, rfl, ⟨by have := G3.out; omega⟩, HM7, HR7, HB7⟩
      · have e8 : ((r : Int) == 8) = false := by simp; omega
        have H8 := Fact.mk h8
        obtain ⟨g, cur, bk, rfl, hgb, hheap, hlk, hck, hfk⟩ := HR.out.cell HPM.out
        have ip : (p : Int) < (m : Int) := by have := HPM.out; omega
        have hr0 : (0 : Int) ≤ r := by omega
        have hr63 : (r : Int) < 64 := by omega
        have hmin : min r 8 = r := by omega
        have hmin' : min r 64 = r := by omega
        have HGB := Fact.mk hgb
        clear h8 hgb hheap hlk
        go_wp2_with fail
        go_still_tail 12, (by kernel_rfl)
        change wpList _ _ _ _ _ wr.drew
        go_wp2_with fail
        obtain ⟨nb, hnb⟩ := byte_any (wf_bits .xor .u8 (bk.toNat : Int) (2 ^ r % 256))
        rw [hnb]
        clear hnb
        go_roundg (4 - (k + 1))
        case measure => have := HK.out; have := G3.out; omega
        case rel => exact ⟨k + 1, m, c', some ⟨g, 0, none⟩, l'.set p nb, by go_num, rfl, ⟨by have := G3.out; omega⟩, HM, ⟨(HR.out.set HPM.out nb).move rfl⟩, ⟨(HB.out.setCell (p := ⟨g, p, none⟩) HGB.out _).drew⟩⟩
    · have hcase : (decide (k < n1) = false) ∨ (decide (k < n1) = true ∧ decide (k < n2) = false) ∨ (decide (k < n1) = true ∧ decide (k < n2) = true ∧ decide (k < 4) = false) ∨ (decide (k < n1) = true ∧ decide (k < n2) = true ∧ decide (k < 4) = true ∧ decide (0 < m) = false) := by simp; omega
      rcases hcase with d1 | ⟨d1, d2⟩ | ⟨d1, d2, d3⟩ | ⟨d1, d2, d3, d4⟩
      all_goals
        have d1' : decide ((k : Int) < n1) = decide (k < n1) := by apply decide_eq_decide.2; omega
        have d2' : decide ((k : Int) < n2) = decide (k < n2) := by apply decide_eq_decide.2; omega
        have d3' : decide ((k : Int) < 4) = decide (k < 4) := by apply decide_eq_decide.2; omega
        have d4' : decide ((0 : Int) < m) = decide (0 < m) := by apply decide_eq_decide.2; omega
        try rw [d1] at d1'
        try rw [d2] at d2'
        try rw [d3] at d3'
        try rw [d4] at d4'
        clear hall
        go_wp2_with fail
        go_ret
        exact ⟨A', m, c', l', rfl, HM, HR, HB.out⟩
end Go.Proofs.Ytjjcjdefenbnjaa.Turned
