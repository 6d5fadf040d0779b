/- ferrymanref01.SameFields, SameLists at equal lists; tlv.Pack, ferrymanref01.Pack: contracts over any world. -/
import Derived.Test.YtjjcjdefenbnjaaTlvD
import Derived.Test.YtjjcjdefenbnjaaReg
set_option linter.unusedVariables false
set_option linter.unusedSimpArgs false
namespace Go.Proofs.Ytjjcjdefenbnjaa.TlvE
open Go.RowKit Go.Proofs.Ytjjcjdefenbnjaa.Lib Go.Proofs.Ytjjcjdefenbnjaa.Reg Go.Proofs.Ytjjcjdefenbnjaa.TlvA Go.Proofs.Ytjjcjdefenbnjaa.TlvB Go.Proofs.Ytjjcjdefenbnjaa.TlvC Go.Proofs.Ytjjcjdefenbnjaa.TlvD

theorem fld_at {w : World} {F : Nat → Prop} {A : Option Addr} {n c : Nat} {xs : List (UInt8 × List UInt8)} (h : Sl fld w F A n c xs) {i : Nat} {t : UInt8} {v : List UInt8} (hi : xs[i]? = some (t, v)) :
    ∃ ad A' c', A = some ad ∧ F ad.block ∧ w.cell? (ad.add (i * 2)) = some (.int .u8 (t.toNat : Int)) ∧ w.cell? ⟨(ad.add (i * 2)).block, (ad.add (i * 2)).off + 1, none⟩ = some (.slice A' v.length c') ∧ Sl rU8 w F A' v.length c' v := by
  obtain ⟨ad, cs, e, hb, ⟨c0, d0, rfl, hk0, A', c', hd, hs⟩, hcell⟩ := h.at_ hi
  have hk0' : c0 = [vu8 t] := hk0
  subst hk0'
  have hd' : d0 = [.slice A' v.length c'] := hd
  subst hd'
  exact ⟨ad, A', c', e, hb, hcell 0 _ rfl, by rw [← add_pos' (ad.add (i * 2)) 1 (by omega), add_add']; exact hcell 1 _ rfl, hs⟩

set_option maxHeartbeats 2000000 in
set_option maxRecDepth 100000 in
theorem SameFields_eq (w : World) (F : Nat → Prop) (A A' : Option Addr) (n c c' : Nat) (xs : List (UInt8 × List UInt8)) (h : Sl fld w F A n c xs) (h' : Sl fld w F A' n c' xs) (hn : n ≤ 4294967296) :
    Calls Try.prog 35 #[.slice A n c, .slice A' n c'] w fun e w' => e = .returned (.bool true) ∧ ∃ q, w' = w.drewN q := by
  have H := Fact.mk h
  have H' := Fact.mk h'
  clear h h'
  go_enter Try.func35, Try.ntmps35
  go_wp2_with fail
  go_loopg [5] n (fun kq i wr => ∃ (k q : Nat), i = .int .i64 (k : Int) ∧ wr = w.drewN q ∧ k + kq = n)
  case atStart => exact ⟨0, 0, rfl, rfl, by omega⟩
  case round =>
    obtain ⟨k, q, rfl, rfl, hk⟩ := hrel
    have HK := Fact.mk hk
    clear hk
    by_cases hlt : k < n
    · obtain ⟨⟨t, v⟩, hx⟩ : ∃ x, xs[k]? = some x := ⟨_, List.getElem?_eq_getElem (by have := H.out.len; omega)⟩
      obtain ⟨ad, A3, c3, rfl, hf, hc1, hc2, hs⟩ := fld_at H.out hx
      obtain ⟨ad', A4, c4, rfl, hf', hc1', hc2', hs'⟩ := fld_at H'.out hx
      have hstr : ∀ q, (convert 22 9 (.slice A3 v.length c3)).run Try.prog (w.drewN q) = .ok (.string ⟨v.toArray⟩) (w.drewN q) := fun q => run_str _ _ _ Try.underlying22 Try.underlying5 Try.underlying9 (hs.move ((Same.refl _ _).drewN q))
      have hstr' : ∀ q, (convert 22 9 (.slice A4 v.length c4)).run Try.prog (w.drewN q) = .ok (.string ⟨v.toArray⟩) (w.drewN q) := fun q => run_str _ _ _ Try.underlying22 Try.underlying5 Try.underlying9 (hs'.move ((Same.refl _ _).drewN q))
      clear hs hs' hf hf'
      have HX := Fact.mk hx
      clear hx
      go_wp2_with fail

      go_quiet (fail)

      go_wp2_with fail
      go_roundg (n - (k + 1))
      case measure => have := HK.out; omega
      case rel => exact ⟨k + 1, _, by go_num, rfl, by omega⟩
    · go_wp2_with fail
      go_ret
      exact ⟨rfl, q, rfl⟩

theorem sl_at {w : World} {F : Nat → Prop} {A : Option Addr} {n c : Nat} {xs : List (List UInt8)} (h : Sl (Rep.slice rU8) w F A n c xs) {i : Nat} {v : List UInt8} (hi : xs[i]? = some v) :
    ∃ ad A' c', A = some ad ∧ F ad.block ∧ w.cell? (ad.add i) = some (.slice A' v.length c') ∧ Sl rU8 w F A' v.length c' v := by
  obtain ⟨ad, cs, e, hb, ⟨A', c', hd, hs⟩, hcell⟩ := h.at_ hi
  subst hd
  refine ⟨ad, A', c', e, hb, ?_, hs⟩
  have := hcell 0 _ rfl
  simpa [Rep.slice] using this

set_option maxHeartbeats 2000000 in
set_option maxRecDepth 100000 in
theorem SameLists_eq (w : World) (F : Nat → Prop) (A A' : Option Addr) (n c c' : Nat) (xs : List (List UInt8)) (h : Sl (Rep.slice rU8) w F A n c xs) (h' : Sl (Rep.slice rU8) w F A' n c' xs) (hn : n ≤ 4294967296) :
    Calls Try.prog 39 #[.slice A n c, .slice A' n c'] w fun e w' => e = .returned (.bool true) ∧ ∃ q, w' = w.drewN q := by
  have H := Fact.mk h
  have H' := Fact.mk h'
  clear h h'
  go_enter Try.func39, Try.ntmps39
  go_wp2_with fail
  go_loopg [5] n (fun kq i wr => ∃ (k q : Nat), i = .int .i64 (k : Int) ∧ wr = w.drewN q ∧ k + kq = n)
  case atStart => exact ⟨0, 0, rfl, rfl, by omega⟩
  case round =>
    obtain ⟨k, q, rfl, rfl, hk⟩ := hrel
    have HK := Fact.mk hk
    clear hk
    by_cases hlt : k < n
    · obtain ⟨v, hx⟩ : ∃ x, xs[k]? = some x := ⟨_, List.getElem?_eq_getElem (by have := H.out.len; omega)⟩
      obtain ⟨ad, A3, c3, rfl, hf, hc2, hs⟩ := sl_at H.out hx
      obtain ⟨ad', A4, c4, rfl, hf', hc2', hs'⟩ := sl_at H'.out hx
      have hstr : ∀ q, (convert 22 9 (.slice A3 v.length c3)).run Try.prog (w.drewN q) = .ok (.string ⟨v.toArray⟩) (w.drewN q) := fun q => run_str _ _ _ Try.underlying22 Try.underlying5 Try.underlying9 (hs.move ((Same.refl _ _).drewN q))
      have hstr' : ∀ q, (convert 22 9 (.slice A4 v.length c4)).run Try.prog (w.drewN q) = .ok (.string ⟨v.toArray⟩) (w.drewN q) := fun q => run_str _ _ _ Try.underlying22 Try.underlying5 Try.underlying9 (hs'.move ((Same.refl _ _).drewN q))
      clear hs hs' hf hf'
      have HX := Fact.mk hx
      clear hx
      go_wp2_with fail
      go_quiet (fail)
      go_wp2_with fail
      go_roundg (n - (k + 1))
      case measure => have := HK.out; omega
      case rel => exact ⟨k + 1, _, by go_num, rfl, by omega⟩
    · go_wp2_with fail
      go_ret
      exact ⟨rfl, q, rfl⟩

/-- Lists as bytes. -/
def packL (l : List (List UInt8)) : List UInt8 := l.flatMap fun v => [lo (v.length / 256), lo v.length] ++ v
theorem packL_take {l : List (List UInt8)} {k : Nat} {v : List UInt8} (h : l[k]? = some v) : packL (l.take (k + 1)) = packL (l.take k) ++ [lo (v.length / 256), lo v.length] ++ v := by
  obtain ⟨hl, hv⟩ := List.getElem?_eq_some_iff.1 h
  subst hv
  unfold packL
  rw [List.take_succ_eq_append_getElem hl, List.flatMap_append]
  simp
theorem packL_le {l : List (List UInt8)} (k : Nat) : (packL (l.take k)).length ≤ (packL l).length := by
  unfold packL
  conv => rhs; rw [← List.take_append_drop k l, List.flatMap_append, List.length_append]
  omega

set_option maxHeartbeats 2000000 in
set_option maxRecDepth 100000 in
theorem Pack_calls (w : World) (F : Nat → Prop) (A : Option Addr) (n c : Nat) (l : List (List UInt8)) (h : Sl (Rep.slice rU8) w F A n c l) (hF : ∀ k, F k → k < w.heap.size) (hn : n ≤ 4294967296) (hs : (packL l).length ≤ 4294967296) (hl : ∀ v ∈ l, v.length ≤ 65535) :
    Calls Try.prog 36 #[.slice A n c] w fun e w' => ∃ v, e = .returned (.tuple #[v, .int .i64 0]) ∧ Fact (Ow rU8 5 w' w.heap.size (fun _ => False) v (packL l)) ∧ Below w.heap.size w w' := by
  have HF := Fact.mk hF
  have H := Fact.mk h
  have HL := Fact.mk hl
  have HBr := Fact.mk (Below.refl w.heap.size w)
  clear h hF hl
  go_enter Try.func36, Try.ntmps36
  go_wp2_with fail
  go_loopg [4, 9] n (fun kq out i wr => ∃ (k : Nat), i = .int .i64 (k : Int) ∧ Fact (k + kq = n) ∧ Fact (Ow rU8 5 wr w.heap.size (fun _ => False) out (packL (l.take k))) ∧ Fact (Below w.heap.size w wr))
  case atStart => exact ⟨0, rfl, ⟨by omega⟩, ⟨Ow.nil _ _ _ _ _⟩, HBr⟩
  case round =>
    obtain ⟨k, rfl, HK, HO, HB⟩ := hrel
    by_cases hlt : k < n
    · obtain ⟨v, hx⟩ : ∃ x, l[k]? = some x := ⟨_, List.getElem?_eq_getElem (by have := H.out.len; omega)⟩
      obtain ⟨ad, A3, c3, rfl, hf, hc2, hsv⟩ := sl_at H.out hx
      have hc2' : wr.cell? (ad.add k) = some (.slice A3 v.length c3) := (cell_same (by rw [block_add]; exact HB.out.block _ (HF.out _ hf))).trans hc2
      have hvl := HL.out v (List.mem_of_getElem? hx)
      have hle1 : decide (65535 < (v.length : Int)) = false := by simp; omega
      have hle2 : decide (65535 < v.length) = false := by simp; omega
      have hpk := packL_take hx
      have hpl := packL_le (l := l) (k + 1)
      rw [hpk] at hpl
      simp only [List.length_append, List.length_cons, List.length_nil] at hpl
      have HS3 := Fact.mk (hsv.move (Same.of_below HB.out HF.out))
      have HP := Fact.mk hpk
      clear hc2 hsv hx hf hpk
      go_wp2_with (first
        | (at_builtin
           refine wpList_app rU8 (w0 := w) w.heap.size rfl (.tmp 16) (.tmp 24) 22 5 (.int .u8 0) 1 rfl Try.underlying22 info_u8 rfl (by decide) (by decide) (fun _ => False) (fun k => k = wr.heap.size) u4 (packL (l.take k)) [lo (v.length / 256), lo v.length] _ 2 2 rfl rfl
             (HO.out.below ((Below.refl _ _).alloc (Nat.le_refl _) _) (fun _ h => h.elim)) (Sl.boxB wr _ (by simp [vu8, lo_int]; omega) rfl (by omega)) (HB.out.alloc HB.out.size _) (by have := HB.out.size; simp; omega) (by omega) (fun _ h => h.elim) (fun _ _ h => h) ?_
           intro v2 w2 ho2 hb2 hg2 hat2
           have HG2 : Fact (Below w.heap.size w w2) := ⟨hb2⟩
           have HO2 := Fact.mk ho2
           have HS4 : Fact (Sl rU8 w2 F A3 v.length c3 v) := ⟨HS3.out.move (fun k hk => (hb2.block k (HF.out k hk)).trans (HB.out.block k (HF.out k hk)).symm)⟩
           clear ho2 hb2 hg2 hat2)
        | (at_builtin
           refine wpList_app rU8 (w0 := w) w.heap.size rfl (.tmp 25) (.tmp 26) 22 5 (.int .u8 0) 1 rfl Try.underlying22 info_u8 rfl (by decide) (by decide) (fun _ => False) F v2 (packL (l.take k) ++ [lo (v.length / 256), lo v.length]) v A3 v.length c3 rfl rfl
             HO2.out HS4.out HG2.out HG2.out.size (by simp only [List.length_append, List.length_cons, List.length_nil]; omega) (fun _ h => h.elim) (fun _ _ h => h) ?_
           intro v3 w3 ho3 hb3 hg3 hat3
           have HO3 := Fact.mk ho3
           have HB3 := Fact.mk hb3
           clear ho3 hb3 hg3 hat3))
      go_roundg (n - (k + 1))
      case measure => have := HK.out; omega
      case rel => exact ⟨k + 1, by go_num, ⟨by omega⟩, ⟨by rw [HP.out]; exact HO3.out⟩, HB3⟩
    · go_wp2_with fail
      go_ret2
      have : l.take k = l := List.take_of_length_le (by have := H.out.len; omega)
      exact ⟨_, rfl, ⟨by have h := HO.out; rw [this] at h; exact h⟩, HB.out⟩

set_option maxHeartbeats 2000000 in
set_option maxRecDepth 100000 in
theorem Pack_long (w : World) (F : Nat → Prop) (A : Option Addr) (c : Nat) (v : List UInt8) (h : Sl (Rep.slice rU8) w F A 1 c [v]) (hv : v.length > 65535) :
    Calls Try.prog 36 #[.slice A 1 c] w fun e w' => e = .returned (.tuple #[.slice none 0 0, .int .i64 3]) ∧ ∃ q, w' = w.drewN q := by
  obtain ⟨ad, A3, c3, rfl, hf, hc2, hsv⟩ := sl_at h (i := 0) rfl
  have hc2 := cell0 hc2
  have hle1 : decide (65535 < (v.length : Int)) = true := by simp; omega
  have hle2 : decide (65535 < v.length) = true := by simp; omega
  clear h hsv
  go_enter Try.func36, Try.ntmps36
  go_wp2_with fail
  go_loopg [4, 9] 1 (fun kq out i wr => i = .int .i64 0 ∧ wr = w)
  case atStart => exact ⟨rfl, rfl⟩
  case round =>
    obtain ⟨rfl, rfl⟩ := hrel
    go_wp2_with fail
    go_ret2
    exact ⟨rfl, 0, rfl⟩

set_option maxHeartbeats 2000000 in
set_option maxRecDepth 100000 in
theorem RPack_calls (w : World) (F : Nat → Prop) (A : Option Addr) (n c : Nat) (l : List (List UInt8)) (h : Sl (Rep.slice rU8) w F A n c l) (hF : ∀ k, F k → k < w.heap.size) (hn : n ≤ 4294967296) (hs : (packL l).length ≤ 4294967296) (hl : ∀ v ∈ l, v.length ≤ 65535) :
    Calls Try.prog 38 #[.slice A n c] w fun e w' => ∃ v, e = .returned v ∧ Fact (Ow rU8 5 w' w.heap.size (fun _ => False) v (packL l)) ∧ Below w.heap.size w w' := by
  have HF := Fact.mk hF
  have H := Fact.mk h
  have HL := Fact.mk hl
  have HBr := Fact.mk (Below.refl w.heap.size w)
  clear h hF hl
  go_enter Try.func38, Try.ntmps38
  go_wp2_with fail
  go_loopg [3, 4] n (fun kq out i wr => ∃ (k : Nat), i = .int .i64 (k : Int) ∧ Fact (k + kq = n) ∧ Fact (Ow rU8 5 wr w.heap.size (fun _ => False) out (packL (l.take k))) ∧ Fact (Below w.heap.size w wr))
  case atStart => exact ⟨0, rfl, ⟨by omega⟩, ⟨Ow.nil _ _ _ _ _⟩, HBr⟩
  case round =>
    obtain ⟨k, rfl, HK, HO, HB⟩ := hrel
    by_cases hlt : k < n
    · obtain ⟨v, hx⟩ : ∃ x, l[k]? = some x := ⟨_, List.getElem?_eq_getElem (by have := H.out.len; omega)⟩
      obtain ⟨ad, A3, c3, rfl, hf, hc2, hsv⟩ := sl_at H.out hx
      have hc2' : wr.cell? (ad.add k) = some (.slice A3 v.length c3) := (cell_same (by rw [block_add]; exact HB.out.block _ (HF.out _ hf))).trans hc2
      have hvl := HL.out v (List.mem_of_getElem? hx)
      have hpk := packL_take hx
      have hpl := packL_le (l := l) (k + 1)
      rw [hpk] at hpl
      simp only [List.length_append, List.length_cons, List.length_nil] at hpl
      have HS3 := Fact.mk (hsv.move (Same.of_below HB.out HF.out))
      have HP := Fact.mk hpk
      have HC2 := Fact.mk hc2
      clear hc2 hsv hx hpk
      go_wp2_with fail
      have HOd : Fact (Ow rU8 5 wr.drew w.heap.size (fun _ => False) u3 (packL (l.take k))) := ⟨HO.out.below (Below.refl _ _).drew (fun _ h => h.elim)⟩
      have HBd : Fact (Below w.heap.size w wr.drew) := ⟨HB.out.drew⟩
      have hcd : wr.drew.cell? (ad.add k) = some (.slice A3 v.length c3) := hc2'
      have HSd : Fact (Sl rU8 wr.drew F A3 v.length c3 v) := ⟨HS3.out.move (fun _ _ => rfl)⟩
      clear HO HB
      have e1 : IntKind.i64.wrap ((v.length : Int) / 256) = (v.length : Int) / 256 := by rw [IntKind.wrap_i64]; omega
      have e2 : ((v.length : Int)).tmod 256 = (v.length : Int) % 256 := Int.tmod_eq_emod_of_nonneg (by omega)
      refine wp_region_S (fun w' => w'.cell? (ad.add k) = some (.slice A3 v.length c3)) [(0, true), (1, true), (2, true), (3, true), (4, true), (5, true), (6, true), (7, true), (8, true), (9, true), (10, true), (11, true), (12, true), (13, true), (14, true), (15, false), (16, false), (17, true)] (by kernel_rfl) (by kernel_rfl) (by kernel_rfl) rfl rfl (by intro c a d v w h; cases d <;> exact h) hcd ?_
      simp only [pick, List.filterMap_cons, List.filterMap_nil, Option.map_some, List.getElem?_toArray, List.getElem?_cons_zero, List.getElem?_cons_succ]
      generalize wr.drew = wd at HOd HBd hcd HSd ⊢
      clear hc2'
      iterate 15
        (apply seq_tell rfl
         · intro w' hS
           go_simp
           first | done | rfl
         simp only [Act.put, List.setIfInBounds_toArray, List.set_cons_succ, List.set_cons_zero])
      clear e1 e2
      apply seq_do rfl
      · go_simp
        exact ⟨rfl, rfl⟩
      · exact (cell_same (by rw [block_add]; exact Below.heap_alloc _ _ _ (by have := HF.out _ hf; have := HBd.out.size; omega))).trans hcd
      simp only [Act.put, List.setIfInBounds_toArray, List.set_cons_succ, List.set_cons_zero]
      refine seq_app rU8 (w0 := w) w.heap.size rfl (.tmp 11) (.tmp 26) 22 5 (.int .u8 0) 1 rfl Try.underlying22 info_u8 rfl (by decide) (by decide) (fun _ => False) (fun k => k = wd.heap.size) u3 (packL (l.take k)) [lo (v.length / 256), lo v.length] _ 2 2 rfl rfl
             (HOd.out.below ((Below.refl _ _).alloc (Nat.le_refl _) _) (fun _ h => h.elim)) (Sl.boxB wd _ (by simp [vu8, lo_int, IntKind.wrap_u8]) rfl (by omega)) (HBd.out.alloc HBd.out.size _) (by have := HBd.out.size; simp; omega) (by omega) (fun _ h => h.elim) (fun _ _ h => h) ?_
      intro v2 w2 ho2 hb2 hg2 hat2
      have HG2 : Fact (Below w.heap.size w w2) := ⟨hb2⟩
      have HO2 := Fact.mk ho2
      have HS4 : Fact (Sl rU8 w2 F A3 v.length c3 v) := ⟨HSd.out.move (fun k hk => (hb2.block k (HF.out k hk)).trans (HBd.out.block k (HF.out k hk)).symm)⟩
      have hc3 : w2.cell? (ad.add k) = some (.slice A3 v.length c3) := (cell_same (by rw [block_add]; exact hb2.block _ (HF.out _ hf))).trans HC2.out
      clear ho2 hb2 hg2 hat2 hcd
      refine ⟨hc3, ?_⟩
      simp only [Act.put, List.setIfInBounds_toArray, List.set_cons_succ, List.set_cons_zero]
      apply seq_tell rfl
      · intro w' hS
        go_simp
        first | done | rfl
      simp only [Act.put, List.setIfInBounds_toArray, List.set_cons_succ, List.set_cons_zero]
      show Exit.then _ _ _ _ _
      go_wp2_with (first
        | (at_builtin
           refine wpList_app rU8 (w0 := w) w.heap.size rfl (.tmp 28) (.tmp 32) 22 5 (.int .u8 0) 1 rfl Try.underlying22 info_u8 rfl (by decide) (by decide) (fun _ => False) F v2 (packL (l.take k) ++ [lo (v.length / 256), lo v.length]) v A3 v.length c3 rfl rfl
             HO2.out HS4.out HG2.out HG2.out.size (by simp only [List.length_append, List.length_cons, List.length_nil]; omega) (fun _ h => h.elim) (fun _ _ h => h) ?_
           intro v3 w3 ho3 hb3 hg3 hat3
           have HO3 := Fact.mk ho3
           have HB3 := Fact.mk hb3
           clear ho3 hb3 hg3 hat3))
      go_roundg (n - (k + 1))
      case measure => have := HK.out; omega
      case rel => exact ⟨k + 1, by go_num, ⟨by omega⟩, ⟨by rw [HP.out]; exact HO3.out⟩, HB3⟩
    · go_wp2_with fail
      go_ret
      have : l.take k = l := List.take_of_length_le (by have := H.out.len; omega)
      exact ⟨_, rfl, ⟨by have h := HO.out; rw [this] at h; exact h⟩, HB.out⟩
end Go.Proofs.Ytjjcjdefenbnjaa.TlvE
