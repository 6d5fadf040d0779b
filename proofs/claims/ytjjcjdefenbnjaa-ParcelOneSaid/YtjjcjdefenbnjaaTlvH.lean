/- ferrymanref01.Put; the awake call of chapter 2: contracts over any world. -/
import Derived.Test.YtjjcjdefenbnjaaTlvG
import Derived.WalkSpells
set_option linter.unusedVariables false
set_option linter.unusedSimpArgs false
namespace Go.Proofs.Ytjjcjdefenbnjaa.TlvH
open Go.RowKit Go.Proofs.Ytjjcjdefenbnjaa.Lib Go.Proofs.Ytjjcjdefenbnjaa.Reg Go.Proofs.Ytjjcjdefenbnjaa.TlvA Go.Proofs.Ytjjcjdefenbnjaa.TlvB Go.Proofs.Ytjjcjdefenbnjaa.TlvF Go.Proofs.Ytjjcjdefenbnjaa.TlvG

theorem putL_awake : putL [] 5 [97, 98] = [5, 0, 2, 97, 98] := rfl
theorem numL_awake : numL 258 = [1, 2] := by decide

set_option maxHeartbeats 1000000 in
set_option maxRecDepth 100000 in
theorem Awake_calls (w : World) : Calls Try.prog 19 #[] w fun e w' => e = .returned (.bool true) ∧ Below w.heap.size w w' := by
  have kc := fun (w : World) (C : Array Value) (n c : Nat) => Go.Lib.run_convert_bytes_const (P := Try.prog) w 22 5 C n c Try.underlying22 Try.underlying5
  go_enter Try.func19, Try.ntmps19
  go_wp2_with (first
    | (go_at_call 20
       go_must (refine (Put_calls _ (fun k => k = w.heap.size) none 0 [] 5 5 (some ⟨w.heap.size, 0, none⟩) 2 [97, 98] rfl (Sl.nil _ _ _ _ _ (by omega)) (Sl.boxM w _ rfl rfl (by simp)) (by simp) (by simp)).mono ?_)
       rintro e w1 ⟨v, rfl, HO, hb⟩
       rw [putL_awake] at HO
       obtain ⟨A1, c1, hv, hs⟩ := HO.out.sl
       subst hv
       have hstr := run_str (P := Try.prog) 22 5 9 Try.underlying22 Try.underlying5 Try.underlying9 hs
       simp only [List.length_cons, List.length_nil, Nat.reduceAdd] at hstr
       have HB1 : Fact (Below w.heap.size w w1) := ⟨((Below.refl _ _).alloc (Nat.le_refl _) _).trans (hb.mono (by simp))⟩
       clear hb hs)
    | (go_at_call 22
       refine (Num_calls _ _ 258 rfl (by omega)).mono ?_
       rintro e w2 ⟨v2, rfl, HO2, hb⟩
       rw [numL_awake] at HO2
       obtain ⟨A2, c2, hv2, hs2⟩ := HO2.out.sl
       subst hv2
       have hstr2 := run_str (P := Try.prog) 22 5 9 Try.underlying22 Try.underlying5 Try.underlying9 hs2
       simp only [List.length_cons, List.length_nil, Nat.reduceAdd] at hstr2
       have HB2 : Fact (Below w.heap.size w w2) := ⟨HB1.out.trans (hb.mono HB1.out.size)⟩
       clear hb hs2))
  go_ret
  exact ⟨rfl, HB2.out⟩
end Go.Proofs.Ytjjcjdefenbnjaa.TlvH
