/- ferrymanref11.PutNum: contract over any world. -/
import Derived.Test.YtkmcjokoinoahaaDoorWordsG
import Derived.Test.YtkmcjokoinoahaaDoorRegD
set_option linter.unusedVariables false
set_option linter.unusedSimpArgs false
namespace Go.Proofs.YtkmcjokoinoahaaDoor.WordsH
open Go.RowKit Go.Proofs.YtkmcjokoinoahaaDoor.Lib Go.Proofs.YtkmcjokoinoahaaDoor.LibB Go.Proofs.YtkmcjokoinoahaaDoor.Reg Go.Proofs.YtkmcjokoinoahaaDoor.RegC Go.Proofs.YtkmcjokoinoahaaDoor.RegD Go.Proofs.YtkmcjokoinoahaaDoor.PlainS Go.Proofs.YtkmcjokoinoahaaDoor.WordsA Go.Proofs.YtkmcjokoinoahaaDoor.WordsB Go.Proofs.YtkmcjokoinoahaaDoor.PlainW Go.Proofs.YtkmcjokoinoahaaDoor.WordsC Go.Proofs.YtkmcjokoinoahaaDoor.WordsD Go.Proofs.YtkmcjokoinoahaaDoor.WordsE Go.Proofs.YtkmcjokoinoahaaDoor.WordsF Go.Proofs.YtkmcjokoinoahaaDoor.WordsG Go.Maps
theorem join {A B : Prop} {P : Prop} (hA : Fact P → A) (hB : Fact P → B) (hp : P) : A ∧ B := ⟨hA ⟨hp⟩, hB ⟨hp⟩⟩
theorem els_nil (w : World) (F : Nat → Prop) : Els rNat w F [] (#[] : Array Value).toList := Els.nil _ _ _
theorem info_i : ∃ i, Tryd.prog.info? 50 = some i ∧ i.size = 1 := by
  have h := info_u64
  cases hq : Tryd.prog.info? 50 with
  | none => rw [hq] at h; cases h
  | some i =>
    rw [hq] at h
    simp only [Option.map_some, Option.some.injEq, Prod.mk.injEq] at h
    exact ⟨i, rfl, h.2.1⟩
/-- What lies ahead of the second append. -/
def Mid (w : World) (l : List Nat) (x : Nat) (v : Value) (g : Nat) (W : World) : Prop :=
  Ow rNat 50 W w.heap.size (fun _ => False) v l ∧ Sl rNat W (fun k => k < W.heap.size) (some ⟨g, 0, none⟩) 1 1 [x] ∧ Below w.heap.size w W
set_option maxHeartbeats 4000000 in
set_option maxRecDepth 100000 in
theorem PutNum_calls (w : World) (F : Nat → Prop) (A : Option Addr) (n c : Nat) (l : List Nat) (h : Sl rNat w F A n c l) (hF : ∀ k, F k → k < w.heap.size) (hn : n ≤ 100000) (x : Nat) :
    Calls Tryd.prog 53 #[.slice A n c, .int .u64 (x : Int)] w fun e w' => (∃ A' c' i, e = .returned (.slice A' (n + 1) c') ∧ i ≤ n ∧ (∀ y ∈ l.take i, y < x) ∧ (∀ y, l[i]? = some y → ¬ y < x) ∧ Fact (Sl rNat w' (fun k => w.heap.size ≤ k ∧ k < w'.heap.size) A' (n + 1) c' (l.take i ++ [x] ++ l.drop i))) ∧ Below w.heap.size w w' := by
  have hmx := Nat.le_trans h.le h.max_
  have HL := Fact.mk h.len
  have H := Fact.mk h
  have HF := Fact.mk hF
  clear h hF
  go_enter Tryd.func53, Tryd.ntmps53
  go_wp2
  go_loopg [5] n (fun kq v5 wr => ∃ k : Nat, v5 = .int .i64 (k : Int) ∧ Fact (k + kq = n) ∧ Fact (∀ y ∈ l.take k, y < x) ∧ Fact (wr = w))
  case atStart => exact ⟨0, rfl, ⟨by omega⟩, ⟨fun y hy => by simp at hy⟩, ⟨rfl⟩⟩
  case round =>
    obtain ⟨k, rfl, HK, HA, HW⟩ := hrel
    have hkn := HK.out
    have hck : ∀ y, l[k]? = some y → k < n := fun y hy => by have := (List.getElem?_eq_some_iff.1 hy).1; have := HL.out; omega
    by_cases hgo : ∃ y, l[k]? = some y ∧ y < x
    · obtain ⟨y, hy, hyx⟩ := hgo
      have hlt := hck y hy
      obtain ⟨ad, rfl, -, hc1⟩ := num_at H.out hy
      have c1 : wr.cell? (ad.add k) = some (.int .u64 (y : Int)) := by rw [HW.out]; exact hc1
      have HA2 : Fact (∀ y ∈ l.take (k + 1), y < x) := ⟨fun z hz => by
        rw [take_snoc hy, List.mem_append, List.mem_singleton] at hz
        rcases hz with hz | rfl
        · exact HA.out z hz
        · exact hyx⟩
      have hz : (y : Int) < (x : Int) := by omega
      clear hck hy hc1
      go_wp2
      go_roundg (n - (k + 1))
      case measure => omega
      case rel => exact ⟨k + 1, by go_num, ⟨by omega⟩, HA2, HW⟩
    · have HST : Fact (∀ y, l[k]? = some y → ¬ y < x) := ⟨fun y hy hlt => hgo ⟨y, hy, hlt⟩⟩
      have hkle : k ≤ n := by omega
      clear hgo hck
      have hi := info_i
      obtain ⟨ii, hii, hisz⟩ := hi
      obtain ⟨hs1, hs2⟩ := slice_to (P := Tryd.prog) rNat 61 50 Tryd.underlying61 hii A n c .i64 (k : Int) (by omega) (by omega) H.out.le
      obtain ⟨A3, hd1, hd2⟩ := slice_from (P := Tryd.prog) rNat 61 50 Tryd.underlying61 hii hisz A n c .i64 (k : Int) (by omega) (by omega)
      rw [Int.toNat_natCast] at hs1 hd1
      have HS1 := Fact.mk hs1
      have HD1 := Fact.mk hd1
      have HST2 : Fact (Sl rNat w F A k c (l.take k)) := ⟨by have := hs2 H.out; rwa [Int.toNat_natCast] at this⟩
      have HSD2 : Fact (Sl rNat w F A3 (n - k) (c - k) (l.drop k)) := ⟨by have := hd2 H.out; rwa [Int.toNat_natCast] at this⟩
      clear hs1 hs2 hd1 hd2 hii hisz ii
      have hww := HW.out
      subst hww
      by_cases hlt : k < n
      · obtain ⟨y, hy⟩ : ∃ y, l[k]? = some y := ⟨_, List.getElem?_eq_getElem (by rw [HL.out]; exact hlt)⟩
        obtain ⟨ad, rfl, -, c1⟩ := num_at H.out hy
        have hyx := HST.out y hy
        have hz : decide ((y : Int) < (x : Int)) = false := decide_eq_false (by omega)
        have hz2 : decide (y < x) = false := decide_eq_false hyx
        clear hy hyx
        go_wp2
        clear c1 hz hz2
        refine wp_region_P (fun W => Below wr.heap.size wr W) (.tell 1 (.tell 2 (.tell 3 (.tell 5 (.tell 8 (.tell 9 (.tell 10 (.two 0 (.two 4 (.one 6 (.one 7 (.one 11 (.tell 12 .done)))) 6 (.one 4 (.one 7 (.one 11 (.tell 12 .done))))) 6 (.one 0 (.one 4 (.one 7 (.one 11 (.tell 12 .done))))))))))))) (by kernel_rfl) (by kernel_rfl) (by kernel_rfl) (by intro c a d v w h; cases d <;> exact h) (Below.refl _ _).drew ?_
        have HBd : Fact (Below wr.heap.size wr wr.drew) := ⟨(Below.refl _ _).drew⟩
        generalize wr.drew = wd at HBd ⊢
        refine plan_tell rfl rfl (fun W hS => by
          go_simp
          first | done | rfl) ?_
        simp only [List.getElem_toArray, List.getElem_cons_succ, List.getElem_cons_zero, Act.put, List.setIfInBounds_toArray, List.set_cons_succ, List.set_cons_zero]
        refine plan_tell rfl rfl (fun W hS => by
          go_simp
          first | done | rfl) ?_
        simp only [List.getElem_toArray, List.getElem_cons_succ, List.getElem_cons_zero, Act.put, List.setIfInBounds_toArray, List.set_cons_succ, List.set_cons_zero]
        refine plan_tell rfl rfl (v := .slice (some ad) k c) (fun W hS => by
          have s1 := HS1.out W
          go_simp
          first | done | rfl) ?_
        simp only [List.getElem_toArray, List.getElem_cons_succ, List.getElem_cons_zero, Act.put, List.setIfInBounds_toArray, List.set_cons_succ, List.set_cons_zero]
        refine plan_tell rfl rfl (fun W hS => by
          go_simp
          first | done | rfl) ?_
        simp only [List.getElem_toArray, List.getElem_cons_succ, List.getElem_cons_zero, Act.put, List.setIfInBounds_toArray, List.set_cons_succ, List.set_cons_zero]
        refine plan_tell rfl rfl (fun W hS => by
          go_simp
          first | done | rfl) ?_
        simp only [List.getElem_toArray, List.getElem_cons_succ, List.getElem_cons_zero, Act.put, List.setIfInBounds_toArray, List.set_cons_succ, List.set_cons_zero]
        refine plan_tell rfl rfl (fun W hS => by
          go_simp
          first | done | rfl) ?_
        simp only [List.getElem_toArray, List.getElem_cons_succ, List.getElem_cons_zero, Act.put, List.setIfInBounds_toArray, List.set_cons_succ, List.set_cons_zero]
        refine plan_tell rfl rfl (v := .slice A3 (n - k) (c - k)) (fun W hS => by
          have s1 := HD1.out W
          go_simp
          first | done | rfl) ?_
        simp only [List.getElem_toArray, List.getElem_cons_succ, List.getElem_cons_zero, Act.put, List.setIfInBounds_toArray, List.set_cons_succ, List.set_cons_zero]
        apply join
        · intro key
          have hsz : wr.heap.size ≤ wd.heap.size := HBd.out.size
          obtain ⟨g0, hg0⟩ : ∃ g0, wd.heap.size = g0 := ⟨_, rfl⟩
          have hb1 : Below wr.heap.size wr (wd.alloc (.cells #[] 50)) := HBd.out.alloc hsz _
          refine turn_do rfl rfl (v := .slice (some ⟨wd.heap.size, 0, none⟩) 0 0) (w' := wd.alloc (.cells #[] 50)) (by go_simp; first | done | rfl) hb1 ?_
          simp only [List.getElem_toArray, List.getElem_cons_succ, List.getElem_cons_zero, Act.put, List.setIfInBounds_toArray, List.set_cons_succ, List.set_cons_zero]
          have ho1 : Ow rNat 50 (wd.alloc (.cells #[] 50)) wr.heap.size (fun _ => False) (.slice (some ⟨g0, 0, none⟩) 0 0) [] := by rw [← hg0]; exact Ow.lit wd wr.heap.size 50 hsz (els_nil _ _) (by simp)
          have hlt1 : g0 < (wd.alloc (.cells #[] 50)).heap.size := by simp [hg0]
          have hs1z : wr.heap.size ≤ (wd.alloc (.cells #[] 50)).heap.size := hb1.size
          rw [hg0]
          generalize wd.alloc (.cells #[] 50) = w1 at hb1 ho1 hlt1 hs1z ⊢
          have hst1 : Sl rNat w1 F (some ad) k c (l.take k) := HST2.out.move (fun k hk => hb1.block k (HF.out k hk))
          apply And.intro
          · obtain ⟨v4, w4, hr4, ho4, hg4, -⟩ := run_app (P := Tryd.prog) rNat w1 wr.heap.size 61 61 50 (.int .u64 0) 8 Tryd.underlying61 info_u64 rfl (by decide) (by decide) (fun _ => False) F (.slice (some ⟨g0, 0, none⟩) 0 0) [] (l.take k) (some ad) k c ho1 hst1 hs1z (by simp; omega) (fun _ h => h.elim) (fun _ _ h => h)
            rw [List.nil_append] at ho4
            have hb4 : Below wr.heap.size wr w4 := hb1.grown hg4 hs1z (fun k hk => (ho1.lt k hk).1)
            refine turn_do rfl rfl (v := v4) (exec_append w1 rfl rfl rfl hr4) hb4 ?_
            simp only [List.getElem_toArray, List.getElem_cons_succ, List.getElem_cons_zero, Act.put, List.setIfInBounds_toArray, List.set_cons_succ, List.set_cons_zero]
            have hs4z : wr.heap.size ≤ w4.heap.size := hb4.size
            obtain ⟨g6, hg6⟩ : ∃ g6, w4.heap.size = g6 := ⟨_, rfl⟩
            refine turn_do rfl rfl (v := .slice (some ⟨w4.heap.size, 0, none⟩) 1 1) (w' := w4.alloc (.cells #[.int .u64 (x : Int)] 50)) (by go_simp; first | done | rfl) (hb4.alloc hs4z _) ?_
            simp only [List.getElem_toArray, List.getElem_cons_succ, List.getElem_cons_zero, Act.put, List.setIfInBounds_toArray, List.set_cons_succ, List.set_cons_zero]
            have HX : Fact (Mid wr (l.take k) x v4 g6 (w4.alloc (.cells #[.int .u64 (x : Int)] 50))) := ⟨ho4.below ((Below.refl _ _).alloc (Nat.le_refl _) _) (fun _ h => h.elim), by rw [← hg6]; exact (Sl.box (F := fun _ => False) w4 50 (els_nat _ _ x) (by simp)).mono (fun k hk => by simp at hk; simp; omega), hb4.alloc hs4z _⟩
            rw [hg6]
            generalize w4.alloc (.cells #[.int .u64 (x : Int)] 50) = W at HX ⊢
            clear hr4 ho4 hg4 hb4 hs4z hg6 hb1 ho1 hlt1 hs1z hst1 hg0 hsz
            clear w4 w1
            revert HX
            revert W
            revert g6
            revert v4
            revert g0
            exact key.out
          · obtain ⟨g6, hg6⟩ : ∃ g6, w1.heap.size = g6 := ⟨_, rfl⟩
            have hb2 : Below wr.heap.size wr (w1.alloc (.cells #[.int .u64 (x : Int)] 50)) := hb1.alloc hs1z _
            refine turn_do rfl rfl (v := .slice (some ⟨w1.heap.size, 0, none⟩) 1 1) (w' := w1.alloc (.cells #[.int .u64 (x : Int)] 50)) (by go_simp; first | done | rfl) hb2 ?_
            simp only [List.getElem_toArray, List.getElem_cons_succ, List.getElem_cons_zero, Act.put, List.setIfInBounds_toArray, List.set_cons_succ, List.set_cons_zero]
            have ho2 : Ow rNat 50 (w1.alloc (.cells #[.int .u64 (x : Int)] 50)) wr.heap.size (fun _ => False) (.slice (some ⟨g0, 0, none⟩) 0 0) [] := ho1.below ((Below.refl _ _).alloc (Nat.le_refl _) _) (fun _ h => h.elim)
            have hx2 : Sl rNat (w1.alloc (.cells #[.int .u64 (x : Int)] 50)) (fun k => k = g6) (some ⟨g6, 0, none⟩) 1 1 [x] := by rw [← hg6]; exact (Sl.box (F := fun _ => False) w1 50 (els_nat _ _ x) (by simp)).mono (fun k hk => by simpa using hk)
            have hlt2 : g6 < (w1.alloc (.cells #[.int .u64 (x : Int)] 50)).heap.size := by simp [hg6]
            have hne2 : g6 ≠ g0 := by omega
            rw [hg6]
            generalize w1.alloc (.cells #[.int .u64 (x : Int)] 50) = w2 at hb2 ho2 hx2 hlt2 ⊢
            have hst2 : Sl rNat w2 F (some ad) k c (l.take k) := HST2.out.move (fun k hk => hb2.block k (HF.out k hk))
            have hs2z : wr.heap.size ≤ w2.heap.size := hb2.size
            obtain ⟨v4, w4, hr4, ho4, hg4, -⟩ := run_app (P := Tryd.prog) rNat w2 wr.heap.size 61 61 50 (.int .u64 0) 8 Tryd.underlying61 info_u64 rfl (by decide) (by decide) (fun _ => False) F (.slice (some ⟨g0, 0, none⟩) 0 0) [] (l.take k) (some ad) k c ho2 hst2 hs2z (by simp; omega) (fun _ h => h.elim) (fun _ _ h => h)
            rw [List.nil_append] at ho4
            have hb4 : Below wr.heap.size wr w4 := hb2.grown hg4 hs2z (fun k hk => (ho2.lt k hk).1)
            refine turn_do rfl rfl (v := v4) (exec_append w2 rfl rfl rfl hr4) hb4 ?_
            simp only [List.getElem_toArray, List.getElem_cons_succ, List.getElem_cons_zero, Act.put, List.setIfInBounds_toArray, List.set_cons_succ, List.set_cons_zero]
            have HX : Fact (Mid wr (l.take k) x v4 g6 w4) := ⟨ho4, (hx2.move (fun k hk => hg4.block k (by rw [hk]; exact hlt2) (by intro e; have : k = g0 := Option.some.inj e; omega))).mono (fun k hk => by have := hg4.size; omega), hb4⟩
            clear hr4 ho4 hg4 hb4 hs2z hst2 hb2 ho2 hx2 hlt2 hne2 hg6 hb1 ho1 hlt1 hs1z hst1 hg0 hsz
            clear w2 w1
            generalize w4 = W at HX ⊢
            revert HX
            revert W
            revert g6
            revert v4
            revert g0
            exact key.out
        · intro key
          have hsz : wr.heap.size ≤ wd.heap.size := HBd.out.size
          obtain ⟨g6, hg6⟩ : ∃ g6, wd.heap.size = g6 := ⟨_, rfl⟩
          have hb1 : Below wr.heap.size wr (wd.alloc (.cells #[.int .u64 (x : Int)] 50)) := HBd.out.alloc hsz _
          refine turn_do rfl rfl (v := .slice (some ⟨wd.heap.size, 0, none⟩) 1 1) (w' := wd.alloc (.cells #[.int .u64 (x : Int)] 50)) (by go_simp; first | done | rfl) hb1 ?_
          simp only [List.getElem_toArray, List.getElem_cons_succ, List.getElem_cons_zero, Act.put, List.setIfInBounds_toArray, List.set_cons_succ, List.set_cons_zero]
          have hx1 : Sl rNat (wd.alloc (.cells #[.int .u64 (x : Int)] 50)) (fun k => k = g6) (some ⟨g6, 0, none⟩) 1 1 [x] := by rw [← hg6]; exact (Sl.box (F := fun _ => False) wd 50 (els_nat _ _ x) (by simp)).mono (fun k hk => by simpa using hk)
          have hlt1 : g6 < (wd.alloc (.cells #[.int .u64 (x : Int)] 50)).heap.size := by simp [hg6]
          have hs1z : wr.heap.size ≤ (wd.alloc (.cells #[.int .u64 (x : Int)] 50)).heap.size := hb1.size
          rw [hg6]
          generalize wd.alloc (.cells #[.int .u64 (x : Int)] 50) = w1 at hb1 hx1 hlt1 hs1z ⊢
          obtain ⟨g0, hg0⟩ : ∃ g0, w1.heap.size = g0 := ⟨_, rfl⟩
          have hb2 : Below wr.heap.size wr (w1.alloc (.cells #[] 50)) := hb1.alloc hs1z _
          refine turn_do rfl rfl (v := .slice (some ⟨w1.heap.size, 0, none⟩) 0 0) (w' := w1.alloc (.cells #[] 50)) (by go_simp; first | done | rfl) hb2 ?_
          simp only [List.getElem_toArray, List.getElem_cons_succ, List.getElem_cons_zero, Act.put, List.setIfInBounds_toArray, List.set_cons_succ, List.set_cons_zero]
          have ho2 : Ow rNat 50 (w1.alloc (.cells #[] 50)) wr.heap.size (fun _ => False) (.slice (some ⟨g0, 0, none⟩) 0 0) [] := by rw [← hg0]; exact Ow.lit w1 wr.heap.size 50 hs1z (els_nil _ _) (by simp)
          have hx2 : Sl rNat (w1.alloc (.cells #[] 50)) (fun k => k = g6) (some ⟨g6, 0, none⟩) 1 1 [x] := hx1.move (fun k hk => Below.heap_alloc _ _ _ (by rw [hk]; exact hlt1))
          have hlt2 : g6 < (w1.alloc (.cells #[] 50)).heap.size := by simp; omega
          have hne2 : g6 ≠ g0 := by omega
          rw [hg0]
          generalize w1.alloc (.cells #[] 50) = w2 at hb2 ho2 hx2 hlt2 ⊢
          have hst2 : Sl rNat w2 F (some ad) k c (l.take k) := HST2.out.move (fun k hk => hb2.block k (HF.out k hk))
          have hs2z : wr.heap.size ≤ w2.heap.size := hb2.size
          obtain ⟨v4, w4, hr4, ho4, hg4, -⟩ := run_app (P := Tryd.prog) rNat w2 wr.heap.size 61 61 50 (.int .u64 0) 8 Tryd.underlying61 info_u64 rfl (by decide) (by decide) (fun _ => False) F (.slice (some ⟨g0, 0, none⟩) 0 0) [] (l.take k) (some ad) k c ho2 hst2 hs2z (by simp; omega) (fun _ h => h.elim) (fun _ _ h => h)
          rw [List.nil_append] at ho4
          have hb4 : Below wr.heap.size wr w4 := hb2.grown hg4 hs2z (fun k hk => (ho2.lt k hk).1)
          refine turn_do rfl rfl (v := v4) (exec_append w2 rfl rfl rfl hr4) hb4 ?_
          simp only [List.getElem_toArray, List.getElem_cons_succ, List.getElem_cons_zero, Act.put, List.setIfInBounds_toArray, List.set_cons_succ, List.set_cons_zero]
          have HX : Fact (Mid wr (l.take k) x v4 g6 w4) := ⟨ho4, (hx2.move (fun k hk => hg4.block k (by rw [hk]; exact hlt2) (by intro e; have : k = g0 := Option.some.inj e; omega))).mono (fun k hk => by have := hg4.size; omega), hb4⟩
          clear hr4 ho4 hg4 hb4 hs2z hst2 hb2 ho2 hx2 hlt2 hne2 hg0 hg6 hb1 hx1 hlt1 hs1z hsz
          clear w2 w1
          generalize w4 = W at HX ⊢
          revert HX
          revert W
          revert g6
          revert v4
          revert g0
          exact key.out
        intro g0 v4 g6 W HX
        obtain ⟨ho4, hx4, hb4⟩ := HX.out
        have hsz4 : wr.heap.size ≤ W.heap.size := hb4.size
        obtain ⟨v7, w7, hr7, ho7, hg7, -⟩ := run_app (P := Tryd.prog) rNat W wr.heap.size 61 61 50 (.int .u64 0) 8 Tryd.underlying61 info_u64 rfl (by decide) (by decide) (fun _ => False) (fun k => k < W.heap.size) v4 (l.take k) [x] (some ⟨g6, 0, none⟩) 1 1 ho4 hx4 hsz4 (by rw [List.length_take]; omega) (fun _ h => h.elim) (fun _ _ h => h)
        have hb7 : Below wr.heap.size wr w7 := hb4.grown hg7 hsz4 (fun k hk => (ho4.lt k hk).1)
        refine turn_do rfl rfl (v := v7) (exec_append W rfl rfl rfl hr7) hb7 ?_
        simp only [List.getElem_toArray, List.getElem_cons_succ, List.getElem_cons_zero, Act.put, List.setIfInBounds_toArray, List.set_cons_succ, List.set_cons_zero]
        have hsz7 : wr.heap.size ≤ w7.heap.size := hb7.size
        have hsd7 : Sl rNat w7 F A3 (n - k) (c - k) (l.drop k) := HSD2.out.move (fun k hk => hb7.block k (HF.out k hk))
        obtain ⟨v11, w11, hr11, ho11, hg11, -⟩ := run_app (P := Tryd.prog) rNat w7 wr.heap.size 61 61 50 (.int .u64 0) 8 Tryd.underlying61 info_u64 rfl (by decide) (by decide) (fun _ => False) F v7 (l.take k ++ [x]) (l.drop k) A3 (n - k) (c - k) ho7 hsd7 hsz7 (by simp; omega) (fun _ h => h.elim) (fun _ _ h => h)
        have hb11 : Below wr.heap.size wr w11 := hb7.grown hg11 hsz7 (fun k hk => (ho7.lt k hk).1)
        refine turn_do rfl rfl (v := v11) (exec_append w7 rfl rfl rfl hr11) hb11 ?_
        simp only [List.getElem_toArray, List.getElem_cons_succ, List.getElem_cons_zero, Act.put, List.setIfInBounds_toArray, List.set_cons_succ, List.set_cons_zero]
        have hlen : (l.take k ++ [x] ++ l.drop k).length = n + 1 := by have := HL.out; simp; omega
        obtain ⟨A11, c11, hv11, -⟩ := ho11.sl
        rw [hlen] at hv11
        subst hv11
        have HS11 : Fact (Sl rNat w11 (fun k => wr.heap.size ≤ k ∧ k < w11.heap.size) A11 (n + 1) c11 (l.take k ++ [x] ++ l.drop k)) := ⟨ow_slF ho11⟩
        have HB11 := Fact.mk hb11
        clear hr7 ho7 hg7 hb7 hsz7 hsd7 hr11 ho11 hg11 hb11 hlen ho4 hx4 hb4 hsz4 HX
        refine plan_tell rfl rfl (fun W hS => by
          go_simp
          first | done | rfl) ?_
        simp only [List.getElem_toArray, List.getElem_cons_succ, List.getElem_cons_zero, Act.put, List.setIfInBounds_toArray, List.set_cons_succ, List.set_cons_zero]
        unfold wpPlan
        go_wp2_with fail
        go_ret
        exact ⟨⟨A11, c11, k, rfl, hkle, HA.out, HST.out, HS11⟩, HB11.out⟩
      · have hkn2 : k = n := by omega
        have hz3 : decide ((k : Int) < (n : Int)) = false := decide_eq_false (by omega)
        have hz4 : decide (k < n) = false := decide_eq_false (by omega)
        clear hlt
        subst hkn2
        go_wp2
        clear hz3 hz4
        refine wp_region_P (fun W => Below wr.heap.size wr W) (.tell 1 (.tell 2 (.tell 3 (.tell 5 (.tell 8 (.tell 9 (.tell 10 (.two 0 (.two 4 (.one 6 (.one 7 (.one 11 (.tell 12 .done)))) 6 (.one 4 (.one 7 (.one 11 (.tell 12 .done))))) 6 (.one 0 (.one 4 (.one 7 (.one 11 (.tell 12 .done))))))))))))) (by kernel_rfl) (by kernel_rfl) (by kernel_rfl) (by intro c a d v w h; cases d <;> exact h) (Below.refl _ _).drew ?_
        have HBd : Fact (Below wr.heap.size wr wr.drew) := ⟨(Below.refl _ _).drew⟩
        generalize wr.drew = wd at HBd ⊢
        refine plan_tell rfl rfl (fun W hS => by
          go_simp
          first | done | rfl) ?_
        simp only [List.getElem_toArray, List.getElem_cons_succ, List.getElem_cons_zero, Act.put, List.setIfInBounds_toArray, List.set_cons_succ, List.set_cons_zero]
        refine plan_tell rfl rfl (fun W hS => by
          go_simp
          first | done | rfl) ?_
        simp only [List.getElem_toArray, List.getElem_cons_succ, List.getElem_cons_zero, Act.put, List.setIfInBounds_toArray, List.set_cons_succ, List.set_cons_zero]
        refine plan_tell rfl rfl (v := .slice A k c) (fun W hS => by
          have s1 := HS1.out W
          go_simp
          first | done | rfl) ?_
        simp only [List.getElem_toArray, List.getElem_cons_succ, List.getElem_cons_zero, Act.put, List.setIfInBounds_toArray, List.set_cons_succ, List.set_cons_zero]
        refine plan_tell rfl rfl (fun W hS => by
          go_simp
          first | done | rfl) ?_
        simp only [List.getElem_toArray, List.getElem_cons_succ, List.getElem_cons_zero, Act.put, List.setIfInBounds_toArray, List.set_cons_succ, List.set_cons_zero]
        refine plan_tell rfl rfl (fun W hS => by
          go_simp
          first | done | rfl) ?_
        simp only [List.getElem_toArray, List.getElem_cons_succ, List.getElem_cons_zero, Act.put, List.setIfInBounds_toArray, List.set_cons_succ, List.set_cons_zero]
        refine plan_tell rfl rfl (fun W hS => by
          go_simp
          first | done | rfl) ?_
        simp only [List.getElem_toArray, List.getElem_cons_succ, List.getElem_cons_zero, Act.put, List.setIfInBounds_toArray, List.set_cons_succ, List.set_cons_zero]
        refine plan_tell rfl rfl (v := .slice A3 (k - k) (c - k)) (fun W hS => by
          have s1 := HD1.out W
          go_simp
          first | done | rfl) ?_
        simp only [List.getElem_toArray, List.getElem_cons_succ, List.getElem_cons_zero, Act.put, List.setIfInBounds_toArray, List.set_cons_succ, List.set_cons_zero]
        apply join
        · intro key
          have hsz : wr.heap.size ≤ wd.heap.size := HBd.out.size
          obtain ⟨g0, hg0⟩ : ∃ g0, wd.heap.size = g0 := ⟨_, rfl⟩
          have hb1 : Below wr.heap.size wr (wd.alloc (.cells #[] 50)) := HBd.out.alloc hsz _
          refine turn_do rfl rfl (v := .slice (some ⟨wd.heap.size, 0, none⟩) 0 0) (w' := wd.alloc (.cells #[] 50)) (by go_simp; first | done | rfl) hb1 ?_
          simp only [List.getElem_toArray, List.getElem_cons_succ, List.getElem_cons_zero, Act.put, List.setIfInBounds_toArray, List.set_cons_succ, List.set_cons_zero]
          have ho1 : Ow rNat 50 (wd.alloc (.cells #[] 50)) wr.heap.size (fun _ => False) (.slice (some ⟨g0, 0, none⟩) 0 0) [] := by rw [← hg0]; exact Ow.lit wd wr.heap.size 50 hsz (els_nil _ _) (by simp)
          have hlt1 : g0 < (wd.alloc (.cells #[] 50)).heap.size := by simp [hg0]
          have hs1z : wr.heap.size ≤ (wd.alloc (.cells #[] 50)).heap.size := hb1.size
          rw [hg0]
          generalize wd.alloc (.cells #[] 50) = w1 at hb1 ho1 hlt1 hs1z ⊢
          have hst1 : Sl rNat w1 F A k c (l.take k) := HST2.out.move (fun k hk => hb1.block k (HF.out k hk))
          apply And.intro
          · obtain ⟨v4, w4, hr4, ho4, hg4, -⟩ := run_app (P := Tryd.prog) rNat w1 wr.heap.size 61 61 50 (.int .u64 0) 8 Tryd.underlying61 info_u64 rfl (by decide) (by decide) (fun _ => False) F (.slice (some ⟨g0, 0, none⟩) 0 0) [] (l.take k) A k c ho1 hst1 hs1z (by simp; omega) (fun _ h => h.elim) (fun _ _ h => h)
            rw [List.nil_append] at ho4
            have hb4 : Below wr.heap.size wr w4 := hb1.grown hg4 hs1z (fun k hk => (ho1.lt k hk).1)
            refine turn_do rfl rfl (v := v4) (exec_append w1 rfl rfl rfl hr4) hb4 ?_
            simp only [List.getElem_toArray, List.getElem_cons_succ, List.getElem_cons_zero, Act.put, List.setIfInBounds_toArray, List.set_cons_succ, List.set_cons_zero]
            have hs4z : wr.heap.size ≤ w4.heap.size := hb4.size
            obtain ⟨g6, hg6⟩ : ∃ g6, w4.heap.size = g6 := ⟨_, rfl⟩
            refine turn_do rfl rfl (v := .slice (some ⟨w4.heap.size, 0, none⟩) 1 1) (w' := w4.alloc (.cells #[.int .u64 (x : Int)] 50)) (by go_simp; first | done | rfl) (hb4.alloc hs4z _) ?_
            simp only [List.getElem_toArray, List.getElem_cons_succ, List.getElem_cons_zero, Act.put, List.setIfInBounds_toArray, List.set_cons_succ, List.set_cons_zero]
            have HX : Fact (Mid wr (l.take k) x v4 g6 (w4.alloc (.cells #[.int .u64 (x : Int)] 50))) := ⟨ho4.below ((Below.refl _ _).alloc (Nat.le_refl _) _) (fun _ h => h.elim), by rw [← hg6]; exact (Sl.box (F := fun _ => False) w4 50 (els_nat _ _ x) (by simp)).mono (fun k hk => by simp at hk; simp; omega), hb4.alloc hs4z _⟩
            rw [hg6]
            generalize w4.alloc (.cells #[.int .u64 (x : Int)] 50) = W at HX ⊢
            clear hr4 ho4 hg4 hb4 hs4z hg6 hb1 ho1 hlt1 hs1z hst1 hg0 hsz
            clear w4 w1
            revert HX
            revert W
            revert g6
            revert v4
            revert g0
            exact key.out
          · obtain ⟨g6, hg6⟩ : ∃ g6, w1.heap.size = g6 := ⟨_, rfl⟩
            have hb2 : Below wr.heap.size wr (w1.alloc (.cells #[.int .u64 (x : Int)] 50)) := hb1.alloc hs1z _
            refine turn_do rfl rfl (v := .slice (some ⟨w1.heap.size, 0, none⟩) 1 1) (w' := w1.alloc (.cells #[.int .u64 (x : Int)] 50)) (by go_simp; first | done | rfl) hb2 ?_
            simp only [List.getElem_toArray, List.getElem_cons_succ, List.getElem_cons_zero, Act.put, List.setIfInBounds_toArray, List.set_cons_succ, List.set_cons_zero]
            have ho2 : Ow rNat 50 (w1.alloc (.cells #[.int .u64 (x : Int)] 50)) wr.heap.size (fun _ => False) (.slice (some ⟨g0, 0, none⟩) 0 0) [] := ho1.below ((Below.refl _ _).alloc (Nat.le_refl _) _) (fun _ h => h.elim)
            have hx2 : Sl rNat (w1.alloc (.cells #[.int .u64 (x : Int)] 50)) (fun k => k = g6) (some ⟨g6, 0, none⟩) 1 1 [x] := by rw [← hg6]; exact (Sl.box (F := fun _ => False) w1 50 (els_nat _ _ x) (by simp)).mono (fun k hk => by simpa using hk)
            have hlt2 : g6 < (w1.alloc (.cells #[.int .u64 (x : Int)] 50)).heap.size := by simp [hg6]
            have hne2 : g6 ≠ g0 := by omega
            rw [hg6]
            generalize w1.alloc (.cells #[.int .u64 (x : Int)] 50) = w2 at hb2 ho2 hx2 hlt2 ⊢
            have hst2 : Sl rNat w2 F A k c (l.take k) := HST2.out.move (fun k hk => hb2.block k (HF.out k hk))
            have hs2z : wr.heap.size ≤ w2.heap.size := hb2.size
            obtain ⟨v4, w4, hr4, ho4, hg4, -⟩ := run_app (P := Tryd.prog) rNat w2 wr.heap.size 61 61 50 (.int .u64 0) 8 Tryd.underlying61 info_u64 rfl (by decide) (by decide) (fun _ => False) F (.slice (some ⟨g0, 0, none⟩) 0 0) [] (l.take k) A k c ho2 hst2 hs2z (by simp; omega) (fun _ h => h.elim) (fun _ _ h => h)
            rw [List.nil_append] at ho4
            have hb4 : Below wr.heap.size wr w4 := hb2.grown hg4 hs2z (fun k hk => (ho2.lt k hk).1)
            refine turn_do rfl rfl (v := v4) (exec_append w2 rfl rfl rfl hr4) hb4 ?_
            simp only [List.getElem_toArray, List.getElem_cons_succ, List.getElem_cons_zero, Act.put, List.setIfInBounds_toArray, List.set_cons_succ, List.set_cons_zero]
            have HX : Fact (Mid wr (l.take k) x v4 g6 w4) := ⟨ho4, (hx2.move (fun k hk => hg4.block k (by rw [hk]; exact hlt2) (by intro e; have : k = g0 := Option.some.inj e; omega))).mono (fun k hk => by have := hg4.size; omega), hb4⟩
            clear hr4 ho4 hg4 hb4 hs2z hst2 hb2 ho2 hx2 hlt2 hne2 hg6 hb1 ho1 hlt1 hs1z hst1 hg0 hsz
            clear w2 w1
            generalize w4 = W at HX ⊢
            revert HX
            revert W
            revert g6
            revert v4
            revert g0
            exact key.out
        · intro key
          have hsz : wr.heap.size ≤ wd.heap.size := HBd.out.size
          obtain ⟨g6, hg6⟩ : ∃ g6, wd.heap.size = g6 := ⟨_, rfl⟩
          have hb1 : Below wr.heap.size wr (wd.alloc (.cells #[.int .u64 (x : Int)] 50)) := HBd.out.alloc hsz _
          refine turn_do rfl rfl (v := .slice (some ⟨wd.heap.size, 0, none⟩) 1 1) (w' := wd.alloc (.cells #[.int .u64 (x : Int)] 50)) (by go_simp; first | done | rfl) hb1 ?_
          simp only [List.getElem_toArray, List.getElem_cons_succ, List.getElem_cons_zero, Act.put, List.setIfInBounds_toArray, List.set_cons_succ, List.set_cons_zero]
          have hx1 : Sl rNat (wd.alloc (.cells #[.int .u64 (x : Int)] 50)) (fun k => k = g6) (some ⟨g6, 0, none⟩) 1 1 [x] := by rw [← hg6]; exact (Sl.box (F := fun _ => False) wd 50 (els_nat _ _ x) (by simp)).mono (fun k hk => by simpa using hk)
          have hlt1 : g6 < (wd.alloc (.cells #[.int .u64 (x : Int)] 50)).heap.size := by simp [hg6]
          have hs1z : wr.heap.size ≤ (wd.alloc (.cells #[.int .u64 (x : Int)] 50)).heap.size := hb1.size
          rw [hg6]
          generalize wd.alloc (.cells #[.int .u64 (x : Int)] 50) = w1 at hb1 hx1 hlt1 hs1z ⊢
          obtain ⟨g0, hg0⟩ : ∃ g0, w1.heap.size = g0 := ⟨_, rfl⟩
          have hb2 : Below wr.heap.size wr (w1.alloc (.cells #[] 50)) := hb1.alloc hs1z _
          refine turn_do rfl rfl (v := .slice (some ⟨w1.heap.size, 0, none⟩) 0 0) (w' := w1.alloc (.cells #[] 50)) (by go_simp; first | done | rfl) hb2 ?_
          simp only [List.getElem_toArray, List.getElem_cons_succ, List.getElem_cons_zero, Act.put, List.setIfInBounds_toArray, List.set_cons_succ, List.set_cons_zero]
          have ho2 : Ow rNat 50 (w1.alloc (.cells #[] 50)) wr.heap.size (fun _ => False) (.slice (some ⟨g0, 0, none⟩) 0 0) [] := by rw [← hg0]; exact Ow.lit w1 wr.heap.size 50 hs1z (els_nil _ _) (by simp)
          have hx2 : Sl rNat (w1.alloc (.cells #[] 50)) (fun k => k = g6) (some ⟨g6, 0, none⟩) 1 1 [x] := hx1.move (fun k hk => Below.heap_alloc _ _ _ (by rw [hk]; exact hlt1))
          have hlt2 : g6 < (w1.alloc (.cells #[] 50)).heap.size := by simp; omega
          have hne2 : g6 ≠ g0 := by omega
          rw [hg0]
          generalize w1.alloc (.cells #[] 50) = w2 at hb2 ho2 hx2 hlt2 ⊢
          have hst2 : Sl rNat w2 F A k c (l.take k) := HST2.out.move (fun k hk => hb2.block k (HF.out k hk))
          have hs2z : wr.heap.size ≤ w2.heap.size := hb2.size
          obtain ⟨v4, w4, hr4, ho4, hg4, -⟩ := run_app (P := Tryd.prog) rNat w2 wr.heap.size 61 61 50 (.int .u64 0) 8 Tryd.underlying61 info_u64 rfl (by decide) (by decide) (fun _ => False) F (.slice (some ⟨g0, 0, none⟩) 0 0) [] (l.take k) A k c ho2 hst2 hs2z (by simp; omega) (fun _ h => h.elim) (fun _ _ h => h)
          rw [List.nil_append] at ho4
          have hb4 : Below wr.heap.size wr w4 := hb2.grown hg4 hs2z (fun k hk => (ho2.lt k hk).1)
          refine turn_do rfl rfl (v := v4) (exec_append w2 rfl rfl rfl hr4) hb4 ?_
          simp only [List.getElem_toArray, List.getElem_cons_succ, List.getElem_cons_zero, Act.put, List.setIfInBounds_toArray, List.set_cons_succ, List.set_cons_zero]
          have HX : Fact (Mid wr (l.take k) x v4 g6 w4) := ⟨ho4, (hx2.move (fun k hk => hg4.block k (by rw [hk]; exact hlt2) (by intro e; have : k = g0 := Option.some.inj e; omega))).mono (fun k hk => by have := hg4.size; omega), hb4⟩
          clear hr4 ho4 hg4 hb4 hs2z hst2 hb2 ho2 hx2 hlt2 hne2 hg0 hg6 hb1 hx1 hlt1 hs1z hsz
          clear w2 w1
          generalize w4 = W at HX ⊢
          revert HX
          revert W
          revert g6
          revert v4
          revert g0
          exact key.out
        intro g0 v4 g6 W HX
        obtain ⟨ho4, hx4, hb4⟩ := HX.out
        have hsz4 : wr.heap.size ≤ W.heap.size := hb4.size
        obtain ⟨v7, w7, hr7, ho7, hg7, -⟩ := run_app (P := Tryd.prog) rNat W wr.heap.size 61 61 50 (.int .u64 0) 8 Tryd.underlying61 info_u64 rfl (by decide) (by decide) (fun _ => False) (fun k => k < W.heap.size) v4 (l.take k) [x] (some ⟨g6, 0, none⟩) 1 1 ho4 hx4 hsz4 (by rw [List.length_take]; omega) (fun _ h => h.elim) (fun _ _ h => h)
        have hb7 : Below wr.heap.size wr w7 := hb4.grown hg7 hsz4 (fun k hk => (ho4.lt k hk).1)
        refine turn_do rfl rfl (v := v7) (exec_append W rfl rfl rfl hr7) hb7 ?_
        simp only [List.getElem_toArray, List.getElem_cons_succ, List.getElem_cons_zero, Act.put, List.setIfInBounds_toArray, List.set_cons_succ, List.set_cons_zero]
        have hsz7 : wr.heap.size ≤ w7.heap.size := hb7.size
        have hsd7 : Sl rNat w7 F A3 (k - k) (c - k) (l.drop k) := HSD2.out.move (fun k hk => hb7.block k (HF.out k hk))
        obtain ⟨v11, w11, hr11, ho11, hg11, -⟩ := run_app (P := Tryd.prog) rNat w7 wr.heap.size 61 61 50 (.int .u64 0) 8 Tryd.underlying61 info_u64 rfl (by decide) (by decide) (fun _ => False) F v7 (l.take k ++ [x]) (l.drop k) A3 (k - k) (c - k) ho7 hsd7 hsz7 (by simp; omega) (fun _ h => h.elim) (fun _ _ h => h)
        have hb11 : Below wr.heap.size wr w11 := hb7.grown hg11 hsz7 (fun k hk => (ho7.lt k hk).1)
        refine turn_do rfl rfl (v := v11) (exec_append w7 rfl rfl rfl hr11) hb11 ?_
        simp only [List.getElem_toArray, List.getElem_cons_succ, List.getElem_cons_zero, Act.put, List.setIfInBounds_toArray, List.set_cons_succ, List.set_cons_zero]
        have hlen : (l.take k ++ [x] ++ l.drop k).length = k + 1 := by have := HL.out; simp; omega
        obtain ⟨A11, c11, hv11, -⟩ := ho11.sl
        rw [hlen] at hv11
        subst hv11
        have HS11 : Fact (Sl rNat w11 (fun k => wr.heap.size ≤ k ∧ k < w11.heap.size) A11 (k + 1) c11 (l.take k ++ [x] ++ l.drop k)) := ⟨ow_slF ho11⟩
        have HB11 := Fact.mk hb11
        clear hr7 ho7 hg7 hb7 hsz7 hsd7 hr11 ho11 hg11 hb11 hlen ho4 hx4 hb4 hsz4 HX
        refine plan_tell rfl rfl (fun W hS => by
          go_simp
          first | done | rfl) ?_
        simp only [List.getElem_toArray, List.getElem_cons_succ, List.getElem_cons_zero, Act.put, List.setIfInBounds_toArray, List.set_cons_succ, List.set_cons_zero]
        unfold wpPlan
        go_wp2_with fail
        go_ret
        exact ⟨⟨A11, c11, k, rfl, Nat.le_refl _, HA.out, HST.out, HS11⟩, HB11.out⟩
end Go.Proofs.YtkmcjokoinoahaaDoor.WordsH
