/- FaultSteps: for every input the law answers true; what was in memory before is as it was. -/
import Derived.Test.YtkmcjokoinoahaaDoorFaultH
import Derived.Test.YtkmcjokoinoahaaDoorReg
set_option linter.unusedVariables false
set_option linter.unusedSimpArgs false
namespace Go.Proofs.YtkmcjokoinoahaaDoor.LawFSteps
open Go.RowKit Go.Proofs.YtkmcjokoinoahaaDoor.Lib Go.Proofs.YtkmcjokoinoahaaDoor.Reg Go.Proofs.YtkmcjokoinoahaaDoor.FaultA Go.Proofs.YtkmcjokoinoahaaDoor.FaultA2 Go.Proofs.YtkmcjokoinoahaaDoor.FaultB Go.Proofs.YtkmcjokoinoahaaDoor.FaultC Go.Proofs.YtkmcjokoinoahaaDoor.FaultD Go.Proofs.YtkmcjokoinoahaaDoor.FaultE Go.Proofs.YtkmcjokoinoahaaDoor.FaultF Go.Proofs.YtkmcjokoinoahaaDoor.FaultH
theorem Error_calls (w : World) (b : Nat) (s : ByteArray) (h : w.cell? ⟨b, 0, none⟩ = some (.string s)) : Calls Tryd.prog 25 #[.pointer (some ⟨b, 0, none⟩)] w fun e w' => e = .returned (.string s) ∧ w' = w := by
  go_enter Tryd.func25, Tryd.ntmps25
  go_wp2_with fail
  go_ret
  exact ⟨rfl, rfl⟩
theorem Unwrap_calls (w : World) (b : Nat) (v : Value) (h : w.cell? ⟨b, 2, none⟩ = some v) : Calls Tryd.prog 26 #[.iface 37 (.pointer (some ⟨b, 0, none⟩))] w fun e w' => e = .returned v ∧ w' = w := by
  have uw := unwS
  have mU := mUnwS
  go_enter Tryd.func26, Tryd.ntmps26
  go_wp2_with (go_at_call 137; fail)
  refine (UnwS_calls w b v h).mono ?_
  rintro ev w2 ⟨rfl, rfl⟩
  go_wp2_with fail
  go_ret
  exact ⟨rfl, rfl⟩
set_option maxHeartbeats 8000000 in
set_option maxRecDepth 100000 in
theorem FaultSteps_calls (w : World) (hg : Laid w) (s : ByteArray) (n code : Int) : Calls Tryd.prog 6 #[.string s, .int .i64 n, .int .i64 code] w fun ev w' => ev = .returned (.bool true) ∧ Below w.heap.size w w' := by
  have HG := Fact.mk hg
  clear hg
  obtain ⟨m, hm⟩ : ∃ m, s.size = m := ⟨_, rfl⟩
  go_enter Tryd.func6, Tryd.ntmps6
  go_wp2_with (go_at_call 18; fail)
  refine (Awake_calls w HG.out).mono ?_
  rintro ev w1 ⟨rfl, hb⟩
  have HB1 := Fact.mk hb
  clear hb
  by_cases h1000 : 1000 < m
  · have k1 : decide ((1000 : Int) < (m : Int)) = true := decide_eq_true (by omega)
    have k1' : decide (1000 < m) = true := decide_eq_true h1000
    go_wp2_with fail
    go_ret
    exact ⟨rfl, HB1.out⟩
  have k1 : decide ((1000 : Int) < (m : Int)) = false := decide_eq_false (by omega)
  have k1' : decide (1000 < m) = false := decide_eq_false h1000
  clear h1000
  go_wp2_with (go_at_call 23; fail)
  refine (At_calls _ 0 s n (.num code) trivial (Nat.zero_le _)).mono ?_
  rintro ev w2 ⟨rfl, hi2, hw2⟩
  have HB2 : Fact (Below w.heap.size w w2) := ⟨by rw [hw2]; exact (HB1.out.alloc HB1.out.size _).alloc (by have := HB1.out.size; simp; omega) _⟩
  have HS2 : Fact (w2.heap.size = w1.heap.size + 1 + 1) := ⟨by rw [hw2]; simp⟩
  have HT2 : Fact (w2.cell? ⟨w1.heap.size, 0, none⟩ = some (.pointer none)) := ⟨by rw [hw2, World.cell?_alloc_lt _ _ _ (by simp)]; simp⟩
  have HF2 : Fact (w2.frozen? ⟨w1.heap.size, 0, none⟩ = false) := ⟨by rw [hw2, World.frozen?_alloc_old _ _ _ (by simp)]; simp⟩
  have hI2 := hi2.out
  simp only [World.size_alloc] at hI2
  obtain ⟨b, hbq⟩ : ∃ b, w1.heap.size + 1 = b := ⟨_, rfl⟩
  rw [hbq] at hI2
  obtain ⟨tb, htb⟩ : ∃ tb, w1.heap.size = tb := ⟨_, rfl⟩
  have hvs : vOf (.step (w1.alloc (.cells #[.pointer none] 37)).heap.size s n (.num code)) = .iface 37 (.pointer (some ⟨b, 0, none⟩)) := by simp only [World.size_alloc, hbq]; rfl
  rw [hvs]
  rw [htb] at HT2 HF2 HS2 hbq
  have HO : Fact (In w2 w2.heap.size (.step b s n (.num code))) := ⟨hI2.mono (by have := HS2.out; omega)⟩
  have HL2 : Fact (Laid w2) := ⟨HG.out.below HB2.out HG.out.lt⟩
  have HTB : Fact (tb < b ∧ b < w2.heap.size ∧ w.heap.size ≤ tb) := ⟨by have := HS2.out; have := HB1.out.size; omega⟩
  have gif := guard_if
  have nh := nil_held
  clear hw2 hi2 hI2
  rw [htb]
  go_wp2_with (go_at_call 24; fail)
  refine (AsS_calls w2 w2.heap.size (.oth (.step b s n (.num code))) HO.out tb _ HT2.out HF2.out HL2.out (Nat.le_refl _)).mono ?_
  rintro ev w3 ⟨ha, hfz, hbt⟩
  unfold AnsS at ha
  obtain ⟨rfl, hc⟩ := ha
  have c3 := hc.out
  have HB3 : Fact (Below w.heap.size w w3) := ⟨HB2.out.trans (But.below (tb := tb) ⟨hbt.out.1, hbt.out.2.1, hbt.out.2.2.1, hbt.out.2.2.2.1, fun k hk hn => hbt.out.2.2.2.2 k (Nat.lt_of_lt_of_le hk HB2.out.size) hn⟩ HTB.out.2.2)⟩
  have HO3 : Fact (In w3 w2.heap.size (.step b s n (.num code))) := ⟨⟨HTB.out.2.1, (cell_same (hbt.out.2.2.2.2 b HTB.out.2.1 (by have := HTB.out; omega))).trans HO.out.2.1, (cell_same (hbt.out.2.2.2.2 b HTB.out.2.1 (by have := HTB.out; omega))).trans HO.out.2.2.1, (cell_same (hbt.out.2.2.2.2 b HTB.out.2.1 (by have := HTB.out; omega))).trans HO.out.2.2.2.1, trivial⟩⟩
  have HL3 : Fact (Laid w3) := ⟨HG.out.below HB3.out HG.out.lt⟩
  have HS3 : Fact (w2.heap.size ≤ w3.heap.size) := ⟨hbt.out.1⟩
  clear hbt hfz HT2 HF2
  go_wp2_with fail
  have HK : Fact (∀ w9, Below w3.heap.size w3 w9 → w9.cell? ⟨tb, 0, none⟩ = some (.pointer (some ⟨b, 0, none⟩))) := ⟨fun w9 hS => (cell_same (hS.block tb (by have := HTB.out; have := HS3.out; omega))).trans hc.out⟩
  have HK0 : Fact (∀ w9, Below w3.heap.size w3 w9 → w9.cell? ⟨b, 0, none⟩ = some (.string s)) := ⟨fun w9 hS => (cell_same (hS.block b (by have := HTB.out; have := HS3.out; omega))).trans HO3.out.2.1⟩
  have HK1 : Fact (∀ w9, Below w3.heap.size w3 w9 → w9.cell? ⟨b, 1, none⟩ = some (.int .i64 n)) := ⟨fun w9 hS => (cell_same (hS.block b (by have := HTB.out; have := HS3.out; omega))).trans HO3.out.2.2.1⟩
  have HK2 : Fact (∀ w9, Below w3.heap.size w3 w9 → w9.cell? ⟨b, 2, none⟩ = some (.iface 24 (.int .i64 code))) := ⟨fun w9 hS => (cell_same (hS.block b (by have := HTB.out; have := HS3.out; omega))).trans HO3.out.2.2.2.1⟩
  clear c3
  refine wp_region_S (fun w9 => Below w3.heap.size w3 w9) (((List.range 16).map fun i => (i, true)) ++ [(17, true), (16, false), (18, false), (19, true), (20, true), (21, true), (22, true), (25, true), (23, false), (24, false), (26, true), (27, true), (28, true)]) (by kernel_rfl) (by kernel_rfl) (by kernel_rfl) rfl rfl (by intro c a d v w h; cases d <;> exact h) (Below.refl _ _).drew ?_
  simp only [pick, List.range, List.range.loop, List.map_cons, List.map_nil, List.cons_append, List.nil_append, Nat.reduceAdd, List.filterMap_cons, List.filterMap_nil, Option.map_some, List.getElem?_toArray, List.getElem?_cons_zero, List.getElem?_cons_succ]
  have HS5 : Fact (Below w3.heap.size w3 w3.drew) := ⟨(Below.refl _ _).drew⟩
  generalize w3.drew = wd at HS5 ⊢
  iterate 17
    (first
      | (apply seq_tell rfl
         · intro w9 hS
           have K1 := HK.out w9 hS
           have K2 := HK0.out w9 hS
           have K3 := HK1.out w9 hS
           go_simp
           first | done | rfl)
      | (apply seq_tellG rfl
         · intro w9 hS
           have K1 := HK.out w9 hS
           have K2 := HK0.out w9 hS
           have K3 := HK1.out w9 hS
           go_simp
           first | done | rfl)
      | apply seq_skip rfl
     simp only [Act.put, List.setIfInBounds_toArray, List.set_cons_succ, List.set_cons_zero])
  refine seq_callG (f := 25) (args := #[.pointer (some ⟨b, 0, none⟩)]) rfl rfl Tryd.func25 (by kernel_rfl) rfl (by simp only [List.map_toArray, List.map_cons, List.map_nil]; rfl) ?_
  refine (Error_calls wd b s (HK0.out wd HS5.out)).mono ?_
  rintro ev w6 ⟨rfl, rfl⟩
  refine ⟨_, rfl, HS5.out, ?_⟩
  simp only [Act.put, List.setIfInBounds_toArray, List.set_cons_succ, List.set_cons_zero]
  refine seq_callG (f := 25) (args := #[.pointer (some ⟨b, 0, none⟩)]) rfl rfl Tryd.func25 (by kernel_rfl) rfl (by simp only [List.map_toArray, List.map_cons, List.map_nil]; rfl) ?_
  refine (Error_calls w6 b s (HK0.out w6 HS5.out)).mono ?_
  rintro ev w7 ⟨rfl, rfl⟩
  refine ⟨_, rfl, HS5.out, ?_⟩
  simp only [Act.put, List.setIfInBounds_toArray, List.set_cons_succ, List.set_cons_zero]
  iterate 5
    (first
      | (apply seq_tell rfl
         · intro w9 hS
           have K1 := HK.out w9 hS
           have K2 := HK0.out w9 hS
           have K3 := HK1.out w9 hS
           go_simp
           first | done | rfl)
      | (apply seq_tellG rfl
         · intro w9 hS
           have K1 := HK.out w9 hS
           have K2 := HK0.out w9 hS
           have K3 := HK1.out w9 hS
           go_simp
           first | done | rfl)
      | apply seq_skip rfl
     simp only [Act.put, List.setIfInBounds_toArray, List.set_cons_succ, List.set_cons_zero])
  refine seq_callG (f := 26) (args := #[.iface 37 (.pointer (some ⟨b, 0, none⟩))]) rfl rfl Tryd.func26 (by kernel_rfl) rfl (by simp only [List.map_toArray, List.map_cons, List.map_nil]; rfl) ?_
  refine (Unwrap_calls w7 b _ (HK2.out w7 HS5.out)).mono ?_
  rintro ev w8 ⟨rfl, rfl⟩
  refine ⟨_, rfl, HS5.out, ?_⟩
  simp only [Act.put, List.setIfInBounds_toArray, List.set_cons_succ, List.set_cons_zero]
  refine seq_callG (f := 19) (args := #[.iface 24 (.int .i64 code)]) rfl rfl Tryd.func19 (by kernel_rfl) rfl (by simp only [List.map_toArray, List.map_cons, List.map_nil]; rfl) ?_
  refine (Code_calls w8 0 (.num code) trivial (HL3.out.below HS5.out HL3.out.lt) (Nat.zero_le _)).mono ?_
  rintro ev w10 ⟨rfl, hb10⟩
  have HS10 : Fact (Below w3.heap.size w3 w10) := ⟨HS5.out.trans (hb10.mono HS5.out.size)⟩
  refine ⟨_, rfl, HS10.out, ?_⟩
  simp only [Act.put, List.setIfInBounds_toArray, List.set_cons_succ, List.set_cons_zero]
  iterate 3
    (first
      | (apply seq_tell rfl
         · intro w9 hS
           have K1 := HK.out w9 hS
           have K2 := HK0.out w9 hS
           have K3 := HK1.out w9 hS
           go_simp
           first | done | rfl)
      | (apply seq_tellG rfl
         · intro w9 hS
           have K1 := HK.out w9 hS
           have K2 := HK0.out w9 hS
           have K3 := HK1.out w9 hS
           go_simp
           first | done | rfl)
      | apply seq_skip rfl
     simp only [Act.put, List.setIfInBounds_toArray, List.set_cons_succ, List.set_cons_zero])
  show Exit.then _ _ _ _ _
  go_wp2_with fail
  go_ret
  exact ⟨by show Ending.returned (.bool (code == code)) = _; rw [beq_self_eq_true], HB3.out.trans (HS10.out.mono HB3.out.size)⟩
end Go.Proofs.YtkmcjokoinoahaaDoor.LawFSteps
