/- errors.As at the two targets; fault.Code, fault.At, fault.Of: contracts over any world. -/
import Derived.Test.YtkmcjokoinoahaaDoorFaultB
set_option linter.unusedVariables false
set_option linter.unusedSimpArgs false
namespace Go.Proofs.YtkmcjokoinoahaaDoor.FaultC
open Go.RowKit Go.Extern.Stop Go.Stop Go.Extern Go.Proofs.YtkmcjokoinoahaaDoor.Lib Go.Proofs.YtkmcjokoinoahaaDoor.FaultA Go.Proofs.YtkmcjokoinoahaaDoor.FaultA2 Go.Proofs.YtkmcjokoinoahaaDoor.FaultB
/-- errors.errorType holds the handle of 'error'. -/
def Laid (w : World) : Prop := w.cell? ⟨0, 0, none⟩ = some (.iface 148 (.agg #[.pointer (some ⟨4, 27, none⟩)]))
theorem Laid.lt {w : World} (h : Laid w) : 0 < w.heap.size := lt_of_cell h
theorem Laid.below {B : Nat} {w w' : World} (h : Laid w) (hb : Below B w w') (hB : 0 < B) : Laid w' := (cell_same (hb.block 0 hB)).trans h
theorem Laid.but {B tb : Nat} {w w' : World} (h : Laid w) (hb : But B tb w w') (hB : 0 < B) (ht : 0 ≠ tb) : Laid w' := (cell_same (hb.2.2.2.2 0 hB ht)).trans h
set_option maxHeartbeats 8000000 in
set_option maxRecDepth 100000 in
theorem AsE_calls (w : World) (B : Nat) (e : Ch) (hin : In w B e) (tb : Nat) (old : Value) (ht : w.cell? ⟨tb, 0, none⟩ = some old) (hf : w.frozen? ⟨tb, 0, none⟩ = false) (hg : Laid w) (hB : B ≤ w.heap.size) :
    Calls Tryd.prog 24 #[vOf e, .iface 102 (.pointer (some ⟨tb, 0, none⟩))] w fun ev w' => AnsE e tb old ev w' ∧ Fact (w'.frozen? ⟨tb, 0, none⟩ = false) ∧ Fact (But w.heap.size tb w w') := by
  have h60 := ext60
  have h61 := ext61
  have h62 := ext62
  have hKind := extKind
  have hElem := extElem
  have hImpl := extImpl
  have f60 := valueOfE
  have f61 := typeE
  have m1 := mKind
  have m2 := mElem
  have m3 := mImpl
  have k1 := kindPE
  have k2 := kindE
  have e1 := elemE
  have i1 := implE
  have en := eql_nil e
  have gn := guard_nil e
  have n8 := isNilE ⟨w.heap.size, 0, none⟩ ⟨tb, 0, none⟩ ((w.alloc (.cells #[.pointer (some ⟨tb, 0, none⟩)] 102)).alloc (.cells #[.pointer (some ⟨4, 102, none⟩), .pointer (some ⟨w.heap.size, 0, none⟩), .int .u64 150] 107)) (by simp)
  have hlt := hg.lt
  have hg2 : ((w.alloc (.cells #[.pointer (some ⟨tb, 0, none⟩)] 102)).alloc (.cells #[.pointer (some ⟨4, 102, none⟩), .pointer (some ⟨w.heap.size, 0, none⟩), .int .u64 150] 107)).cell? ⟨0, 0, none⟩ = some (.iface 148 (.agg #[.pointer (some ⟨4, 27, none⟩)])) := by
    rw [World.cell?_alloc_lt _ _ ⟨0, 0, none⟩ (by simp), World.cell?_alloc_lt _ _ ⟨0, 0, none⟩ hlt]; exact hg
  have htl : tb < w.heap.size := lt_of_cell ht
  have HT2 : Fact (((w.alloc (.cells #[.pointer (some ⟨tb, 0, none⟩)] 102)).alloc (.cells #[.pointer (some ⟨4, 102, none⟩), .pointer (some ⟨w.heap.size, 0, none⟩), .int .u64 150] 107)).cell? ⟨tb, 0, none⟩ = some old) := ⟨by rw [World.cell?_alloc_lt _ _ ⟨tb, 0, none⟩ (by show tb < _; simp; omega), World.cell?_alloc_lt _ _ ⟨tb, 0, none⟩ htl]; exact ht⟩
  have HF2 : Fact (((w.alloc (.cells #[.pointer (some ⟨tb, 0, none⟩)] 102)).alloc (.cells #[.pointer (some ⟨4, 102, none⟩), .pointer (some ⟨w.heap.size, 0, none⟩), .int .u64 150] 107)).frozen? ⟨tb, 0, none⟩ = false) := ⟨by rw [World.frozen?_alloc_old _ _ ⟨tb, 0, none⟩ (by show tb ≠ _; simp; omega), World.frozen?_alloc_old _ _ ⟨tb, 0, none⟩ (Nat.ne_of_lt htl)]; exact hf⟩
  have HI2 : Fact (In ((w.alloc (.cells #[.pointer (some ⟨tb, 0, none⟩)] 102)).alloc (.cells #[.pointer (some ⟨4, 102, none⟩), .pointer (some ⟨w.heap.size, 0, none⟩), .int .u64 150] 107)) B e) := ⟨hin.move (fun k hk => (Below.heap_alloc _ _ _ (by simp; omega)).trans (Below.heap_alloc _ _ _ (by omega)))⟩
  have HX2 : Fact (((w.alloc (.cells #[.pointer (some ⟨tb, 0, none⟩)] 102)).alloc (.cells #[.pointer (some ⟨4, 102, none⟩), .pointer (some ⟨w.heap.size, 0, none⟩), .int .u64 150] 107)).cell? ⟨w.heap.size, 0, none⟩ = some (.pointer (some ⟨tb, 0, none⟩))) := ⟨by simp⟩
  have HBS := Fact.mk hB
  have HTL := Fact.mk htl
  clear hin ht hf hB htl
  generalize hve : vOf e = ve at en gn ⊢
  have HVE := Fact.mk hve
  clear hve
  go_enter Tryd.func24, Tryd.ntmps24
  go_wp2_with (go_at_call 63; fail)
  rw [← HVE.out]
  refine (asE_calls _ B e HI2.out tb w.heap.size old HX2.out HT2.out HF2.out (by have := HBS.out; simp; omega)).mono ?_
  rintro ev w2 ⟨ha, hfz, hbt⟩
  have HFZ := hfz
  have HBT : Fact (But w.heap.size tb w w2) := ⟨But.trans_below (((Below.refl _ _).alloc (Nat.le_refl _) _).alloc (by simp) _) ⟨hbt.out.1, hbt.out.2.1, hbt.out.2.2.1, hbt.out.2.2.2.1, fun k hk hn => hbt.out.2.2.2.2 k (by simp; omega) hn⟩⟩
  unfold AnsE at ha
  cases hn : numL e with
  | none =>
    rw [hn] at ha
    obtain ⟨rfl, hc⟩ := ha
    have HC := hc
    have HNN := Fact.mk hn
    clear hc hbt hfz hn
    go_wp2_with fail
    go_ret
    refine ⟨?_, HFZ, HBT⟩
    unfold AnsE
    rw [HNN.out]
    exact ⟨rfl, HC⟩
  | some c =>
    rw [hn] at ha
    obtain ⟨rfl, hc⟩ := ha
    have HC := hc
    have HNN := Fact.mk hn
    clear hc hbt hfz hn
    go_wp2_with fail
    go_ret
    refine ⟨?_, HFZ, HBT⟩
    unfold AnsE
    rw [HNN.out]
    exact ⟨rfl, HC⟩
set_option maxHeartbeats 8000000 in
set_option maxRecDepth 100000 in
theorem AsS_calls (w : World) (B : Nat) (e : Ch) (hin : In w B e) (tb : Nat) (old : Value) (ht : w.cell? ⟨tb, 0, none⟩ = some old) (hf : w.frozen? ⟨tb, 0, none⟩ = false) (hg : Laid w) (hB : B ≤ w.heap.size) :
    Calls Tryd.prog 24 #[vOf e, .iface 41 (.pointer (some ⟨tb, 0, none⟩))] w fun ev w' => AnsS e tb old ev w' ∧ Fact (w'.frozen? ⟨tb, 0, none⟩ = false) ∧ Fact (But w.heap.size tb w w') := by
  have h60 := ext60
  have h61 := ext61
  have h62 := ext62
  have hKind := extKind
  have hElem := extElem
  have hImpl := extImpl
  have f60 := valueOfS
  have f61 := typeS
  have m1 := mKind
  have m2 := mElem
  have m3 := mImpl
  have k1 := kindPS
  have k2 := kindS
  have e1 := elemS
  have i1 := implS
  have en := eql_nil e
  have gn := guard_nil e
  have n8 := isNilS ⟨w.heap.size, 0, none⟩ ⟨tb, 0, none⟩ ((w.alloc (.cells #[.pointer (some ⟨tb, 0, none⟩)] 41)).alloc (.cells #[.pointer (some ⟨4, 41, none⟩), .pointer (some ⟨w.heap.size, 0, none⟩), .int .u64 150] 107)) (by simp)
  have hlt := hg.lt
  have hg2 : ((w.alloc (.cells #[.pointer (some ⟨tb, 0, none⟩)] 41)).alloc (.cells #[.pointer (some ⟨4, 41, none⟩), .pointer (some ⟨w.heap.size, 0, none⟩), .int .u64 150] 107)).cell? ⟨0, 0, none⟩ = some (.iface 148 (.agg #[.pointer (some ⟨4, 27, none⟩)])) := by
    rw [World.cell?_alloc_lt _ _ ⟨0, 0, none⟩ (by simp), World.cell?_alloc_lt _ _ ⟨0, 0, none⟩ hlt]; exact hg
  have htl : tb < w.heap.size := lt_of_cell ht
  have HT2 : Fact (((w.alloc (.cells #[.pointer (some ⟨tb, 0, none⟩)] 41)).alloc (.cells #[.pointer (some ⟨4, 41, none⟩), .pointer (some ⟨w.heap.size, 0, none⟩), .int .u64 150] 107)).cell? ⟨tb, 0, none⟩ = some old) := ⟨by rw [World.cell?_alloc_lt _ _ ⟨tb, 0, none⟩ (by show tb < _; simp; omega), World.cell?_alloc_lt _ _ ⟨tb, 0, none⟩ htl]; exact ht⟩
  have HF2 : Fact (((w.alloc (.cells #[.pointer (some ⟨tb, 0, none⟩)] 41)).alloc (.cells #[.pointer (some ⟨4, 41, none⟩), .pointer (some ⟨w.heap.size, 0, none⟩), .int .u64 150] 107)).frozen? ⟨tb, 0, none⟩ = false) := ⟨by rw [World.frozen?_alloc_old _ _ ⟨tb, 0, none⟩ (by show tb ≠ _; simp; omega), World.frozen?_alloc_old _ _ ⟨tb, 0, none⟩ (Nat.ne_of_lt htl)]; exact hf⟩
  have HI2 : Fact (In ((w.alloc (.cells #[.pointer (some ⟨tb, 0, none⟩)] 41)).alloc (.cells #[.pointer (some ⟨4, 41, none⟩), .pointer (some ⟨w.heap.size, 0, none⟩), .int .u64 150] 107)) B e) := ⟨hin.move (fun k hk => (Below.heap_alloc _ _ _ (by simp; omega)).trans (Below.heap_alloc _ _ _ (by omega)))⟩
  have HX2 : Fact (((w.alloc (.cells #[.pointer (some ⟨tb, 0, none⟩)] 41)).alloc (.cells #[.pointer (some ⟨4, 41, none⟩), .pointer (some ⟨w.heap.size, 0, none⟩), .int .u64 150] 107)).cell? ⟨w.heap.size, 0, none⟩ = some (.pointer (some ⟨tb, 0, none⟩))) := ⟨by simp⟩
  have HBS := Fact.mk hB
  have HTL := Fact.mk htl
  clear hin ht hf hB htl
  generalize hve : vOf e = ve at en gn ⊢
  have HVE := Fact.mk hve
  clear hve
  go_enter Tryd.func24, Tryd.ntmps24
  go_wp2_with (go_at_call 63; fail)
  rw [← HVE.out]
  refine (asS_calls _ B e HI2.out tb w.heap.size old HX2.out HT2.out HF2.out (by have := HBS.out; simp; omega)).mono ?_
  rintro ev w2 ⟨ha, hfz, hbt⟩
  have HFZ := hfz
  have HBT : Fact (But w.heap.size tb w w2) := ⟨But.trans_below (((Below.refl _ _).alloc (Nat.le_refl _) _).alloc (by simp) _) ⟨hbt.out.1, hbt.out.2.1, hbt.out.2.2.1, hbt.out.2.2.2.1, fun k hk hn => hbt.out.2.2.2.2 k (by simp; omega) hn⟩⟩
  unfold AnsS at ha
  cases hn : stepL e with
  | none =>
    rw [hn] at ha
    obtain ⟨rfl, hc⟩ := ha
    have HC := hc
    have HNN := Fact.mk hn
    clear hc hbt hfz hn
    go_wp2_with fail
    go_ret
    refine ⟨?_, HFZ, HBT⟩
    unfold AnsS
    rw [HNN.out]
    exact ⟨rfl, HC⟩
  | some c =>
    rw [hn] at ha
    obtain ⟨rfl, hc⟩ := ha
    have HC := hc
    have HNN := Fact.mk hn
    clear hc hbt hfz hn
    go_wp2_with fail
    go_ret
    refine ⟨?_, HFZ, HBT⟩
    unfold AnsS
    rw [HNN.out]
    exact ⟨rfl, HC⟩
theorem As_nil (w : World) (t : Value) : Calls Tryd.prog 24 #[.nilIface, t] w fun e w' => e = .returned (.bool false) ∧ w' = w := by
  go_enter Tryd.func24, Tryd.ntmps24
  go_wp2_with fail
  go_ret
  exact ⟨rfl, rfl⟩
end Go.Proofs.YtkmcjokoinoahaaDoor.FaultC
