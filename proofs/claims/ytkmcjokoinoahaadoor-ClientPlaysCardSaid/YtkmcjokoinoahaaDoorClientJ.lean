/- slices.Clone of states: a contract over any world. -/
import Derived.Test.YtkmcjokoinoahaaDoorClientI
import Derived.Test.YtkmcjokoinoahaaDoorRefD
set_option linter.unusedVariables false
set_option linter.unusedSimpArgs false
namespace Go.Proofs.YtkmcjokoinoahaaDoor.ClientJ
open Go.RowKit Go.Proofs.YtkmcjokoinoahaaDoor.Lib Go.Proofs.YtkmcjokoinoahaaDoor.LibB Go.Proofs.YtkmcjokoinoahaaDoor.Reg Go.Proofs.YtkmcjokoinoahaaDoor.RegC Go.Proofs.YtkmcjokoinoahaaDoor.PlainS Go.Proofs.YtkmcjokoinoahaaDoor.ShaB Go.Proofs.YtkmcjokoinoahaaDoor.ShaC Go.Proofs.YtkmcjokoinoahaaDoor.ShaD Go.Proofs.YtkmcjokoinoahaaDoor.ShaDS Go.Proofs.YtkmcjokoinoahaaDoor.ShaE Go.Proofs.YtkmcjokoinoahaaDoor.PlainP Go.Proofs.YtkmcjokoinoahaaDoor.ParcelB Go.Proofs.YtkmcjokoinoahaaDoor.SealA Go.Proofs.YtkmcjokoinoahaaDoor.SealB Go.Proofs.YtkmcjokoinoahaaDoor.ClientA Go.Proofs.YtkmcjokoinoahaaDoor.ClientB Go.Proofs.YtkmcjokoinoahaaDoor.ClientC Go.Proofs.YtkmcjokoinoahaaDoor.ClientD Go.Proofs.YtkmcjokoinoahaaDoor.ClientE Go.Proofs.YtkmcjokoinoahaaDoor.ClientF Go.Proofs.YtkmcjokoinoahaaDoor.ClientG Go.Proofs.YtkmcjokoinoahaaDoor.ClientH Go.Proofs.YtkmcjokoinoahaaDoor.ClientI
theorem info_st3 : (Tryd.prog.info? 122).map (fun i => (i.zero, i.size, i.bytes)) = some (some (.agg zStA), 98, 112) := by kernel_rfl
set_option maxHeartbeats 1000000 in
set_option maxRecDepth 100000 in
theorem Clone_calls (w : World) (F : Nat → Prop) (ad : Addr) (n c : Nat) (xs : List Stt) (h : Sl rSt w F (some ad) n c xs) (hF : ∀ k, F k → k < w.heap.size) (hn : 0 < n) (hs : n ≤ 1000000) :
    Calls Tryd.prog 71 #[.slice (some ad) n c] w fun e w' => (∃ v, e = .returned v ∧ Fact (Ow rSt 122 w' w.heap.size (fun _ => False) v xs)) ∧ Below w.heap.size w w' := by
  have H := Fact.mk h
  have HF := Fact.mk hF
  have q := fun (w : World) (a : Option Addr) (n c n' c' : Nat) => Go.Lib.run_eql_slice_nil (P := Tryd.prog) w 124 _ a n c n' c' Tryd.underlying124
  have HOL : Fact (Ow rSt 122 (w.alloc (.cells #[] 122)) w.heap.size (fun _ => False) (.slice (some ⟨w.heap.size, 0, none⟩) 0 0) []) := ⟨Ow.lit (r := rSt) (xs := []) w w.heap.size _ (Nat.le_refl _) (Els.nil _ _ _) (by simp)⟩
  have HSL : Fact (Sl rSt (w.alloc (.cells #[] 122)) F (some ad) n c xs) := ⟨h.move (Same.of_below ((Below.refl _ _).alloc (Nat.le_refl _) _) hF)⟩
  clear h hF
  go_enter Tryd.func71, Tryd.ntmps71
  go_wp2_with (at_builtin
               refine wpList_app rSt (w0 := w) w.heap.size rfl (.tmp 5) (.tmp 6) 124 122 (.agg zStA) 112 rfl Tryd.underlying124 info_st3 zStA_size (by decide) (by decide) (fun _ => False) F (.slice (some ⟨w.heap.size, 0, none⟩) 0 0) [] xs _ n c rfl rfl HOL.out HSL.out ((Below.refl _ _).alloc (Nat.le_refl _) _) (by simp) (by simp; omega) (fun _ h => h.elim) (fun _ _ h => h) ?_
               intro v3 w3 ho3 hb3 hg3 hat3
               have HO3 := Fact.mk ho3
               have HB3 := Fact.mk hb3
               clear ho3 hb3 hg3 hat3)
  go_ret
  exact ⟨⟨_, rfl, ⟨HO3.out⟩⟩, HB3.out⟩
end Go.Proofs.YtkmcjokoinoahaaDoor.ClientJ
