/- fault.Where, the law's made: contracts over any world. -/
import Derived.Test.YtkmcjokoinoahaaDoorFaultD
set_option linter.unusedVariables false
set_option linter.unusedSimpArgs false
namespace Go.Proofs.YtkmcjokoinoahaaDoor.FaultF
open Go.RowKit Go.Proofs.YtkmcjokoinoahaaDoor.Lib Go.Proofs.YtkmcjokoinoahaaDoor.FaultB Go.Proofs.YtkmcjokoinoahaaDoor.FaultC Go.Proofs.YtkmcjokoinoahaaDoor.FaultD
theorem info_str : (Tryd.prog.info? 9).map (fun i => (i.zero, i.size, i.bytes)) = some (some (.string ⟨#[]⟩), 1, 16) := by kernel_rfl
theorem stepL_none : ∀ {e : Ch}, stepL e = none → whereL e = []
  | .num _, _ => rfl
  | .plain _, _ => rfl
  | .step _ _ _ _, h => by cases h
  | .oth e, h => stepL_none (e := e) h
theorem stepL_in {w : World} {B : Nat} {b : Nat} {wh : ByteArray} {n : Int} {e1 : Ch} : ∀ {e : Ch}, In w B e → stepL e = some (b, wh, n, e1) → b < B ∧ w.cell? ⟨b, 0, none⟩ = some (.string wh) ∧ w.cell? ⟨b, 1, none⟩ = some (.int .i64 n) ∧ w.cell? ⟨b, 2, none⟩ = some (vOf e1) ∧ In w B e1 ∧ whereL e = wh :: whereL e1
  | .num _, _, h => by cases h
  | .plain _, _, h => by cases h
  | .step b' wh' n' e', hi, h => by
    have h' : some (b', wh', n', e') = some (b, wh, n, e1) := h
    injection h' with h'
    simp only [Prod.mk.injEq] at h'
    obtain ⟨rfl, rfl, rfl, rfl⟩ := h'
    exact ⟨hi.1, hi.2.1, hi.2.2.1, hi.2.2.2.1, hi.2.2.2.2, rfl⟩
  | .oth e, hi, h => stepL_in (e := e) hi h
theorem Ow.but {α : Type} {r : Rep α} {e : TypeId} {w w' : World} {base tb : Nat} {v : Value} {xs : List α} (h : Ow r e w base (fun _ => False) v xs) (hb : But w.heap.size tb w w') (ht : tb < base) : Ow r e w' base (fun _ => False) v xs := by
  have hlt := Ow.lt h
  obtain ⟨cells, ho, he⟩ := h
  exact ⟨cells, own_same ho (fun k hk => by obtain ⟨h1, h2⟩ := hlt k hk; exact hb.2.2.2.2 k h2 (by omega)), he.move (fun k hk => hk.elim)⟩
theorem els_str (w : World) (F : Nat → Prop) (s : ByteArray) : Els rStr w F [s] [.string s] := Els.one_ rfl
set_option maxHeartbeats 8000000 in
set_option maxRecDepth 100000 in
theorem Where_calls (w : World) (B : Nat) (e : Ch) (hin : In w B e) (hg : Laid w) (hB : B ≤ w.heap.size) (hlen : (whereL e).length ≤ 1000) : Calls Tryd.prog 21 #[vOf e] w fun ev w' => ∃ v, ev = .returned v ∧ Fact (Ow rStr 9 w' (w.heap.size + 1) (fun _ => False) v (whereL e)) ∧ Below w.heap.size w w' := by
  have HI0 : Fact (In (w.alloc (.cells #[.pointer none] 37)) B e) := ⟨hin.move (fun k hk => Below.heap_alloc _ _ _ (by omega))⟩
  have HL0 : Fact (Laid (w.alloc (.cells #[.pointer none] 37))) := ⟨hg.below ((Below.refl w.heap.size w).alloc (Nat.le_refl _) _) hg.lt⟩
  have HB0 : Fact (Below w.heap.size w (w.alloc (.cells #[.pointer none] 37))) := ⟨(Below.refl _ _).alloc (Nat.le_refl _) _⟩
  have HC0 : Fact ((w.alloc (.cells #[.pointer none] 37)).cell? ⟨w.heap.size, 0, none⟩ = some (.pointer none)) := ⟨by simp⟩
  have HF0 : Fact ((w.alloc (.cells #[.pointer none] 37)).frozen? ⟨w.heap.size, 0, none⟩ = false) := ⟨by simp⟩
  have HS0 : Fact (w.heap.size < (w.alloc (.cells #[.pointer none] 37)).heap.size) := ⟨by simp⟩
  have HLT := Fact.mk hg.lt
  have HBS := Fact.mk hB
  have HLEN := Fact.mk hlen
  clear hin hg hB hlen
  go_enter Tryd.func21, Tryd.ntmps21
  go_wp2_with fail
  go_loopg [0, 3] (whereL e).length (fun kq s0 s3 wr => ∃ (e' : Ch) (acc : List ByteArray) (p : Option Addr), s0 = vOf e' ∧ Fact ((whereL e').length = kq) ∧ Fact (In wr B e') ∧ Fact (acc ++ whereL e' = whereL e) ∧ Fact (Ow rStr 9 wr (w.heap.size + 1) (fun _ => False) s3 acc) ∧ Fact (wr.cell? ⟨w.heap.size, 0, none⟩ = some (.pointer p)) ∧ Fact (wr.frozen? ⟨w.heap.size, 0, none⟩ = false) ∧ Fact (Laid wr) ∧ Fact (Below w.heap.size w wr) ∧ Fact (w.heap.size < wr.heap.size))
  case atStart => exact ⟨e, [], none, rfl, ⟨rfl⟩, HI0, ⟨rfl⟩, ⟨Ow.nil _ _ _ _ _⟩, HC0, HF0, HL0, HB0, HS0⟩
  case round =>
    obtain ⟨e', acc, p, rfl, HK, HI, HA, HO, HC, HFz, HL, HB, HS⟩ := hrel
    obtain ⟨A1, c1, rfl, hs1⟩ := HO.out.sl
    clear hs1
    generalize hve : vOf e' = ve
    have HVE := Fact.mk hve
    clear hve
    go_wp2_with (go_at_call 24; fail)
    rw [← HVE.out]
    refine (AsS_calls wr B e' HI.out w.heap.size (.pointer p) HC.out HFz.out HL.out (by have := HBS.out; have := HS.out; omega)).mono ?_
    rintro ev w2 ⟨ha, hfz, hbt⟩
    have HB2 : Fact (Below w.heap.size w w2) := ⟨HB.out.trans ⟨hbt.out.2.1, hbt.out.2.2.1, hbt.out.2.2.2.1, hbt.out.1, fun k hk => hbt.out.2.2.2.2 k (by have := HS.out; omega) (by omega)⟩⟩
    have HO2 : Fact (Ow rStr 9 w2 (w.heap.size + 1) (fun _ => False) (.slice A1 acc.length c1) acc) := ⟨Ow.but HO.out hbt.out (Nat.lt_succ_self _)⟩
    have HI2 : Fact (In w2 B e') := ⟨HI.out.move (fun k hk => hbt.out.2.2.2.2 k (by have := HBS.out; have := HS.out; omega) (by have := HBS.out; omega))⟩
    have HL2 : Fact (Laid w2) := ⟨HL.out.but hbt.out (by have := HS.out; omega) (by have := HLT.out; omega)⟩
    have HS2 : Fact (w.heap.size < w2.heap.size) := ⟨by have := hbt.out.1; have := HS.out; omega⟩
    have HF2 := hfz
    clear hbt hfz
    unfold AnsS at ha
    cases hn : stepL e' with
    | none =>
      rw [hn] at ha
      obtain ⟨rfl, hc⟩ := ha
      have HNN := Fact.mk (stepL_none hn)
      clear hc hn
      go_wp2_with fail
      go_ret
      have he : acc = whereL e := by rw [← HA.out, HNN.out, List.append_nil]
      exact ⟨_, rfl, ⟨by rw [← he]; exact HO2.out⟩, HB2.out⟩
    | some x =>
      obtain ⟨b, wh, n, e1⟩ := x
      rw [hn] at ha
      obtain ⟨rfl, hc⟩ := ha
      obtain ⟨hbB, q0, q1, q2, hin1, hw⟩ := stepL_in HI2.out hn
      have c0 := hc.out
      have HBB := Fact.mk hbB
      have HIN1 := Fact.mk hin1
      have HW := Fact.mk hw
      have HQ2 := Fact.mk q2
      have HCC := hc
      have hal : acc.length ≤ 1000 := by have h1 := congrArg List.length HA.out; rw [List.length_append] at h1; have := HLEN.out; omega
      have HAL := Fact.mk hal
      clear hc hn hbB hin1 hw q1 hal
      go_wp2_with (at_builtin
                   refine wpList_app rStr (w0 := w2) (w.heap.size + 1) rfl (.tmp 8) (.tmp 13) 30 9 (.string ⟨#[]⟩) 16 rfl Tryd.underlying30 info_str rfl (by decide) (by decide) (fun _ => False) (fun k => k = w2.heap.size) (.slice A1 acc.length c1) acc [wh] _ 1 1 rfl rfl (HO2.out.below ((Below.refl _ _).alloc (Nat.le_refl _) _) (fun _ h => h.elim)) ((Sl.box (F := fun _ => False) w2 9 (els_str _ _ wh) (by simp)).mono (fun k hk => by simpa using hk)) ((Below.refl _ _).alloc HS2.out _) (by have := HS2.out; simp; omega) (by have := HAL.out; omega) (fun _ h => h.elim) (fun _ _ h => h) ?_
                   intro v3 w3 ho3 hb3 hg3 hat3
                   have HO3 := Fact.mk ho3
                   have HB3 := Fact.mk hb3
                   have d0 : w3.cell? ⟨w.heap.size, 0, none⟩ = some (.pointer (some ⟨b, 0, none⟩)) := (cell_same (hb3.block _ (by show w.heap.size < w.heap.size + 1; omega))).trans HCC.out
                   have d2 : w3.cell? ⟨b, 2, none⟩ = some (vOf e1) := (cell_same (hb3.block b (by have := HBB.out; have := HBS.out; omega))).trans HQ2.out
                   clear ho3 hb3 hg3 hat3)
      go_roundg (whereL e1).length
      case measure => have h1 := HK.out; rw [HW.out] at h1; simp at h1; omega
      case rel =>
        refine ⟨e1, acc ++ [wh], some ⟨b, 0, none⟩, rfl, ⟨rfl⟩, ⟨HIN1.out.move (fun k hk => HB3.out.block k (by have := HBS.out; omega))⟩, ⟨by rw [← HA.out, HW.out]; simp⟩, HO3, ⟨by assumption⟩, ⟨?_⟩, ⟨HL2.out.below HB3.out (Nat.succ_pos _)⟩, ⟨HB2.out.trans (HB3.out.mono (Nat.le_succ _))⟩, ⟨Nat.lt_of_lt_of_le HS2.out HB3.out.size⟩⟩
        have h1 : w3.frozen? ⟨w.heap.size, 0, none⟩ = w2.frozen? ⟨w.heap.size, 0, none⟩ := by unfold World.frozen?; rw [HB3.out.block _ (by show w.heap.size < w.heap.size + 1; omega)]
        rw [h1]; exact HF2.out
theorem Where_nil (w : World) : Calls Tryd.prog 21 #[.nilIface] w fun ev w' => ev = .returned (.slice none 0 0) ∧ Below w.heap.size w w' := by
  go_enter Tryd.func21, Tryd.ntmps21
  go_wp2_with fail
  refine wp_loop_rounds 1 ?_
  rw [rounds_succ]
  go_wp2_with (go_at_call 24; fail)
  refine (As_nil _ _).mono ?_
  rintro ev w2 ⟨rfl, rfl⟩
  go_wp2_with fail
  go_ret
  exact ⟨rfl, (Below.refl _ _).alloc (Nat.le_refl _) _⟩
end Go.Proofs.YtkmcjokoinoahaaDoor.FaultF
