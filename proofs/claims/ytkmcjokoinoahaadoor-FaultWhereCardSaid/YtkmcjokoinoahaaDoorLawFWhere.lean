/- FaultWhere: for every input the law answers true; what was in memory before is as it was. -/
import Derived.Test.YtkmcjokoinoahaaDoorFaultH
import Derived.Test.YtkmcjokoinoahaaDoorFaultG
set_option linter.unusedVariables false
set_option linter.unusedSimpArgs false
namespace Go.Proofs.YtkmcjokoinoahaaDoor.LawFWhere
open Go.RowKit Go.Proofs.YtkmcjokoinoahaaDoor.Lib Go.Proofs.YtkmcjokoinoahaaDoor.FaultB Go.Proofs.YtkmcjokoinoahaaDoor.FaultC Go.Proofs.YtkmcjokoinoahaaDoor.FaultD Go.Proofs.YtkmcjokoinoahaaDoor.FaultE Go.Proofs.YtkmcjokoinoahaaDoor.FaultF Go.Proofs.YtkmcjokoinoahaaDoor.FaultG Go.Proofs.YtkmcjokoinoahaaDoor.FaultH
theorem madeW_more (l : List (ByteArray × Int64 × Bool)) {k : Nat} {p : ByteArray × Int64 × Bool} (h : l[k]? = some p) : madeW (l.take (k + 1)) = madeW (l.take k) ++ (if p.2.2 then [] else [p.1]) := by
  obtain ⟨hl, hp⟩ := List.getElem?_eq_some_iff.1 h
  unfold madeW
  rw [List.take_succ_eq_append_getElem hl, hp, List.filterMap_append]
  congr 1
  simp only [List.filterMap_cons, List.filterMap_nil]
  cases p.2.2 <;> simp
set_option maxHeartbeats 8000000 in
set_option maxRecDepth 100000 in
theorem FaultWhere_calls (w : World) (hg : Laid w) (F : Nat → Prop) (A : Option Addr) (n c : Nat) (l : List (ByteArray × Int64 × Bool)) (h : Sl rPl w F A n c l) (hF : ∀ k, F k → k < w.heap.size) (code : Int) : Calls Tryd.prog 4 #[.int .i64 code, .slice A n c] w fun ev w' => ev = .returned (.bool true) ∧ Below w.heap.size w w' := by
  have hlen := h.len
  have hmx := Nat.le_trans h.le h.max_
  have HLN := Fact.mk hlen
  have HG := Fact.mk hg
  have H := Fact.mk h
  have HF := Fact.mk hF
  have hi3 := Fact.mk (show ∀ a b c : Value, (Tryd.prog.info? 32).map (·.size) = some (#[a, b, c] : Array Value).size from fun a b c => by rw [show (#[a, b, c] : Array Value).size = 3 from rfl]; kernel_rfl)
  clear hg h hF hlen
  go_enter Tryd.func4, Tryd.ntmps4
  go_wp2_with (go_at_call 18; fail)
  refine (Awake_calls w HG.out).mono ?_
  rintro ev w1 ⟨rfl, hb⟩
  have HB1 := Fact.mk hb
  clear hb
  go_wp2_with fail
  go_loopg [5, 14] n (fun kq s5 s14 wr => ∃ (k : Nat), s14 = .int .i64 (k : Int) ∧ Fact (k + kq = n) ∧ Fact (Ow rStr 9 wr w1.heap.size (fun _ => False) s5 (madeW ((l.take 20).take k))) ∧ Fact (Below w1.heap.size w1 wr))
  case atStart => exact ⟨0, rfl, ⟨by omega⟩, ⟨Ow.nil _ _ _ _ _⟩, ⟨Below.refl _ _⟩⟩
  case round =>
    obtain ⟨k, rfl, HK, HO, HB⟩ := hrel
    obtain ⟨A1, c1, rfl, hs1⟩ := HO.out.sl
    clear hs1
    by_cases hlt : k < n
    · obtain ⟨p, hp⟩ : ∃ p, l[k]? = some p := ⟨_, List.getElem?_eq_getElem (by have := HLN.out; omega)⟩
      obtain ⟨ad, rfl, hf, hcell⟩ := place_at H.out hp
      have HB1R : Fact (Below w.heap.size w wr) := ⟨HB1.out.trans (HB.out.mono HB1.out.size)⟩
      have HCELL : Fact (∀ (i : Nat) v, (#[Value.string p.1, .int .i64 p.2.1.toInt, .bool p.2.2] : Array Value).toList[i]? = some v → wr.cell? ((ad.add (k * 3)).add i) = some v) := ⟨fun i v hv => (cell_same (by rw [block_add, block_add]; exact HB1R.out.block _ (HF.out _ hf))).trans (hcell i v hv)⟩
      obtain ⟨s, nn, o⟩ := p
      simp only at HCELL
      have hwk : IntKind.i64.wrap ((k : Int) + 1) = (k : Int) + 1 := by rw [IntKind.wrap_i64]; omega
      by_cases h20 : k < 20
      · have k20 : decide ((k : Int) < 20) = true := decide_eq_true (by omega)
        have HMW : Fact (madeW ((l.take 20).take (k + 1)) = madeW ((l.take 20).take k) ++ (if o then [] else [s])) := ⟨madeW_more (l.take 20) (p := (s, nn, o)) (by rw [List.getElem?_take, if_pos h20]; exact hp)⟩
        have HLL : Fact ((madeW ((l.take 20).take k)).length ≤ 20) := ⟨Nat.le_trans (madeW_len _) (by rw [List.length_take, List.length_take]; omega)⟩
        clear hp hcell hf h20
        cases o
        · simp only [Bool.false_eq_true, if_false] at HMW
          obtain ⟨m, hm⟩ : ∃ m, (madeW ((l.take 20).take k)).length = m := ⟨_, rfl⟩
          have HM := Fact.mk hm
          rw [hm] at HO HLL ⊢
          clear hm
          have HW2 : Fact (w1.heap.size ≤ wr.heap.size) := ⟨HB.out.size⟩
          have HSB : Fact (Sl rStr ((wr.alloc (.cells #[.string s, .int .i64 nn.toInt, .bool false] 32)).alloc (.cells #[.string s] 9)) (fun k => k = wr.heap.size + 1) (some ⟨wr.heap.size + 1, 0, none⟩) 1 1 [s]) := ⟨by
            have h1 := (Sl.box (F := fun _ => False) (wr.alloc (.cells #[.string s, .int .i64 nn.toInt, .bool false] 32)) 9 (els_str _ _ s) (by simp)).mono (F' := fun k => k = wr.heap.size + 1) (fun k hk => by simpa using hk)
            simpa using h1⟩
          go_wp2_with (first
            | (refine wpList_ok rfl (exec_loadS (cs := #[.string s, .int .i64 nn.toInt, .bool false]) rfl rfl HCELL.out Tryd.underlying32 (hi3.out _ _ _)) ?_)
            | (at_builtin
               refine wpList_app rStr (w0 := w1) w1.heap.size rfl (.tmp 26) (.tmp 29) 30 9 (.string ⟨#[]⟩) 16 rfl Tryd.underlying30 info_str rfl (by decide) (by decide) (fun _ => False) (fun k => k = wr.heap.size + 1) (.slice A1 m c1) (madeW ((l.take 20).take k)) [s] _ 1 1 rfl rfl ((HO.out.below ((Below.refl _ _).alloc (Nat.le_refl _) _) (fun _ h => h.elim)).below ((Below.refl _ _).alloc (Nat.le_refl _) _) (fun _ h => h.elim)) HSB.out ((HB.out.alloc HB.out.size _).alloc (by have := HW2.out; simp; omega) _) (by have := HW2.out; simp; omega) (by have := HLL.out; have := HM.out; omega) (fun _ h => h.elim) (fun _ _ h => h) ?_
               intro v3 w3 ho3 hb3 hg3 hat3
               have HO3 := Fact.mk ho3
               have HB3 := Fact.mk hb3
               clear ho3 hb3 hg3 hat3))
          go_roundg (n - (k + 1))
          case measure => have := HK.out; omega
          case rel => exact ⟨k + 1, by go_num, ⟨by have := HK.out; omega⟩, ⟨by rw [HMW.out]; exact HO3.out⟩, HB3⟩
        · simp only [if_true, List.append_nil] at HMW
          have HW2 : Fact (w1.heap.size ≤ wr.heap.size) := ⟨HB.out.size⟩
          generalize hmw : madeW ((l.take 20).take k) = mw at HO HLL HMW ⊢
          clear hmw
          obtain ⟨m, hm⟩ : ∃ m, mw.length = m := ⟨_, rfl⟩
          rw [hm] at HO ⊢
          clear hm
          go_wp2_with (refine wpList_ok rfl (exec_loadS (cs := #[.string s, .int .i64 nn.toInt, .bool true]) rfl rfl HCELL.out Tryd.underlying32 (hi3.out _ _ _)) ?_)
          go_roundg (n - (k + 1))
          case measure => have := HK.out; omega
          case rel => exact ⟨k + 1, by go_num, ⟨by have := HK.out; omega⟩, ⟨by rw [HMW.out]; exact HO.out.below ((Below.refl _ _).alloc (Nat.le_refl _) _) (fun _ h => h.elim)⟩, ⟨HB.out.alloc HB.out.size _⟩⟩
      · have k20 : decide ((k : Int) < 20) = false := decide_eq_false (by omega)
        have HMW : Fact ((l.take 20).take (k + 1) = (l.take 20).take k) := ⟨(List.take_of_length_le (l := l.take 20) (i := k + 1) (by rw [List.length_take]; omega)).trans (List.take_of_length_le (l := l.take 20) (i := k) (by rw [List.length_take]; omega)).symm⟩
        clear hp hcell hf h20
        generalize hmw : (l.take 20).take k = mw at HO HMW ⊢
        clear hmw
        generalize hmw : madeW mw = mx at HO ⊢
        have HMX := Fact.mk hmw
        clear hmw
        obtain ⟨m, hm⟩ : ∃ m, mx.length = m := ⟨_, rfl⟩
        rw [hm] at HO ⊢
        clear hm
        go_wp2_with (refine wpList_ok rfl (exec_loadS (cs := #[.string s, .int .i64 nn.toInt, .bool o]) rfl rfl HCELL.out Tryd.underlying32 (hi3.out _ _ _)) ?_)
        go_roundg (n - (k + 1))
        case measure => have := HK.out; omega
        case rel => exact ⟨k + 1, by go_num, ⟨by have := HK.out; omega⟩, ⟨by rw [HMW.out, HMX.out]; exact HO.out.below ((Below.refl _ _).alloc (Nat.le_refl _) _) (fun _ h => h.elim)⟩, ⟨HB.out.alloc HB.out.size _⟩⟩
    · have HWT : Fact ((l.take 20).take k = l.take 20) := ⟨List.take_of_length_le (by rw [List.length_take]; have := HLN.out; have := HK.out; omega)⟩
      rw [HWT.out] at HO ⊢
      clear HWT
      have HSHORT : Fact ((madeW (l.take 20)).length ≤ 20) := ⟨Nat.le_trans (madeW_len _) (by rw [List.length_take]; omega)⟩
      have HBR : Fact (Below w.heap.size w wr) := ⟨HB1.out.trans (HB.out.mono HB1.out.size)⟩
      go_wp2_with (go_at_call 20; fail)
      refine (made_calls wr F A n c l (H.out.move (Same.of_below HBR.out HF.out)) (fun k hk => by have := HF.out k hk; have := HBR.out.size; omega) code).mono ?_
      rintro ev w2 ⟨e, rfl, hin, hnum, hwh, hb⟩
      have HB2 : Fact (Below w.heap.size w w2) := ⟨HBR.out.trans (hb.mono HBR.out.size)⟩
      have HIN := hin
      have HWH := hwh
      have HO2 : Fact (Ow rStr 9 w2 w1.heap.size (fun _ => False) (.slice A1 (madeW (l.take 20)).length c1) (madeW (l.take 20))) := ⟨HO.out.below hb (fun _ h => h.elim)⟩
      clear hin hnum hwh hb
      generalize hve : vOf e = ve
      have HVE := Fact.mk hve
      clear hve
      go_wp2_with (go_at_call 21; fail)
      rw [← HVE.out]
      refine (Where_calls w2 w2.heap.size e HIN.out (HG.out.below HB2.out HG.out.lt) (Nat.le_refl _) (by rw [HWH.out]; have := HSHORT.out; omega)).mono ?_
      rintro ev w3 ⟨v, rfl, ho3, hb⟩
      rw [HWH.out] at ho3
      obtain ⟨A3, c3, rfl, hs3⟩ := ho3.out.sl
      have HS3 := Fact.mk hs3
      have HB3 : Fact (Below w.heap.size w w3) := ⟨HB2.out.trans (hb.mono HB2.out.size)⟩
      obtain ⟨A', c', he, hs⟩ := ((HO2.out.below hb (fun _ h => h.elim)).sl)
      injection he with h1 h2 h3
      subst h1 h3
      have HS1 := Fact.mk hs
      clear hs hs3 ho3 hb h2 HO2 HO
      generalize hmw : madeW (l.take 20) = mw at HS1 HS3 HSHORT ⊢
      clear hmw HWH
      obtain ⟨m, hm⟩ : ∃ m, mw.length = m := ⟨_, rfl⟩
      rw [hm] at HS1 HS3 HSHORT ⊢
      have HM := Fact.mk hm
      clear hm
      have hmm : ((m : Int) != (m : Int)) = false := by simp
      have hm20 := HSHORT.out
      have HB3q : Fact (∃ q, w3 = w3.drewN q) := ⟨⟨0, rfl⟩⟩
      have tl : ∀ x : ByteArray, (x.toList != x.toList) = false := by simp
      go_wp2_with fail
      go_loopg [43] m (fun kq s43 wq => ∃ (i q : Nat), s43 = .int .i64 (i : Int) ∧ Fact (i + kq = m) ∧ wq = w3.drewN q)
      case atStart => exact ⟨0, 0, rfl, ⟨by omega⟩, rfl⟩
      case round =>
        obtain ⟨i, q, rfl, HI, rfl⟩ := hrel
        by_cases him : i < m
        · obtain ⟨x, hx⟩ : ∃ x, mw[i]? = some x := ⟨_, List.getElem?_eq_getElem (by rw [HM.out]; exact him)⟩
          obtain ⟨ad1, e1, d1⟩ := str_at HS1.out hx
          obtain ⟨ad3, e3, d3⟩ := str_at HS3.out hx
          subst e1 e3
          have hwi : IntKind.i64.wrap ((i : Int) + 1) = (i : Int) + 1 := by rw [IntKind.wrap_i64]; omega
          have him' : (i : Int) < (m : Int) := by omega
          have d1' : (w3.drewN q).cell? (ad1.add i) = some (.string x) := d1
          have d3' : (w3.drewN q).cell? (ad3.add i) = some (.string x) := d3
          clear hx
          go_wp2_with fail
          go_quiet (fail)
          go_wp2_with fail
          go_roundg (m - (i + 1))
          case measure => have := HI.out; omega
          case rel => exact ⟨i + 1, _, by go_num, ⟨by have := HI.out; omega⟩, rfl⟩
        · go_wp2_with (go_at_call 21; fail)
          refine (Where_nil _).mono ?_
          rintro ev w5 ⟨rfl, hb⟩
          have HB5 : Fact (Below w.heap.size w w5) := ⟨(below_drewN' HB3.out q).trans (hb.mono (below_drewN' HB3.out q).size)⟩
          clear hb
          go_wp2_with fail
          go_ret
          exact ⟨rfl, HB5.out⟩
end Go.Proofs.YtkmcjokoinoahaaDoor.LawFWhere
