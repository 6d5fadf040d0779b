/- The law's Awake: a contract over any world. -/
import Derived.Test.YtkmcjokoinoahaaDoorClientD
set_option linter.unusedVariables false
set_option linter.unusedSimpArgs false
namespace Go.Proofs.YtkmcjokoinoahaaDoor.ClientE
open Go.RowKit Go.Proofs.YtkmcjokoinoahaaDoor.Lib Go.Proofs.YtkmcjokoinoahaaDoor.LibB Go.Proofs.YtkmcjokoinoahaaDoor.Reg Go.Proofs.YtkmcjokoinoahaaDoor.RegC Go.Proofs.YtkmcjokoinoahaaDoor.PlainS Go.Proofs.YtkmcjokoinoahaaDoor.ShaB Go.Proofs.YtkmcjokoinoahaaDoor.ShaC Go.Proofs.YtkmcjokoinoahaaDoor.ShaD Go.Proofs.YtkmcjokoinoahaaDoor.ShaDS Go.Proofs.YtkmcjokoinoahaaDoor.ShaE Go.Proofs.YtkmcjokoinoahaaDoor.PlainP Go.Proofs.YtkmcjokoinoahaaDoor.ParcelB Go.Proofs.YtkmcjokoinoahaaDoor.SealA Go.Proofs.YtkmcjokoinoahaaDoor.SealB Go.Proofs.YtkmcjokoinoahaaDoor.ClientA Go.Proofs.YtkmcjokoinoahaaDoor.ClientB Go.Proofs.YtkmcjokoinoahaaDoor.ClientC Go.Proofs.YtkmcjokoinoahaaDoor.ClientD Go.Proofs.YtkmcjokoinoahaaDoor.FaultB Go.Proofs.YtkmcjokoinoahaaDoor.FaultC Go.Proofs.YtkmcjokoinoahaaDoor.FaultD
theorem Cl.below {w w' : World} {B cb p : Nat} {l : List Stt} {fz : Bool} (h : Cl w B cb p l fz) (hb : Below w.heap.size w w') : Cl w' B cb p l fz := by
  obtain ⟨h1, h2, v, hr, ho, hn⟩ := h
  exact ⟨h1, Nat.lt_of_lt_of_le h2 hb.size, v, (hb.block _ h2).trans hr, ho.below hb (fun _ hk => hk.elim), hn⟩
def h15 : Hd := ⟨1, 5, Z32, Z32, Z32, Z32⟩
def h15A : Array Value := (hdC h15).toArray
theorem h15_ok : h15.ok := ⟨by decide, by decide, Z32_len, Z32_len, Z32_len, Z32_len⟩
theorem built15 : Tryd.prog.built 54 [(0, .int .u64 1), (1, .int .u64 5)] = some h15A := by kernel_rfl
theorem new15 : newE h15 10 = 0 := rfl
set_option maxHeartbeats 8000000 in
set_option maxRecDepth 100000 in
theorem Awake_calls (w : World) (hg : Laid w) (hl : LaidW w) (h1 : 3 < w.heap.size) : Calls Tryd.prog 29 #[] w fun ev w' => ev = .returned (.bool true) ∧ Below w.heap.size w w' := by
  have HG := Fact.mk hg
  have HL := Fact.mk hl
  have H1 := Fact.mk h1
  clear hg hl h1
  go_enter Tryd.func29, Tryd.ntmps29
  go_wp2_with (first
    | (refine wpList_ok rfl (HdKit.exec_build rfl (by simp only [List.map_toArray, List.map_cons, List.map_nil]; rfl) built15) ?_)
    | (go_at_call 30; fail))
  refine (New_calls w h15 h15_ok h15A rfl 10 (by decide) HL.out H1.out).mono ?_
  rintro e w1 ⟨hr, hb⟩
  obtain ⟨hz, -⟩ | ⟨-, cb, rfl, hc⟩ := hr
  · exact absurd new15 hz
  have HC := hc
  have HB1 := Fact.mk hb
  clear hb hc
  go_wp2_with (go_at_call 35; fail)
  refine (Latest_calls w1 _ cb 10 [ofH h15] false HC.out 0 rfl (ofH h15) rfl).mono ?_
  rintro e w2 ⟨rfl, q, rfl⟩
  have HB2 : Fact (Below w1.heap.size w1 (w1.drewN q)) := ⟨below_drewN' (Below.refl _ _) q⟩
  have HC2 : Fact (Cl (w1.drewN q) w.heap.size cb 10 [ofH h15] false) := ⟨Cl.below HC.out HB2.out⟩
  have HB3 : Fact (Below w.heap.size w (w1.drewN q)) := ⟨HB1.out.trans (HB2.out.mono HB1.out.size)⟩
  generalize w1.drewN q = w2 at HB3 HC2 ⊢
  have ht : (ofH h15).ht = 1 := rfl
  rw [ht]
  go_wp2_with (go_at_call 36; fail)
  refine (Status_calls w2 _ cb 10 [ofH h15] false HC2.out 0 rfl (ofH h15) rfl 14 (by decide)).mono ?_
  rintro e w3 ⟨v, rfl, he, hb⟩
  obtain ⟨-, rfl⟩ | ⟨hz, -⟩ := he.out
  rotate_left
  · exact absurd rfl hz
  have HC3 : Fact (Cl w3 w.heap.size cb 10 [ofH h15] false) := ⟨Cl.below HC2.out hb⟩
  have HB4 : Fact (Below w.heap.size w w3) := ⟨HB3.out.trans (hb.mono HB3.out.size)⟩
  clear he hb
  go_wp2_with (go_at_call 36; fail)
  refine (Status_calls w3 _ cb 10 [ofH h15] false HC3.out 0 rfl (ofH h15) rfl 15 (by decide)).mono ?_
  rintro e w4 ⟨v, rfl, he, hb⟩
  have hs : statE false 10 (ofH h15) 15 = 31 := rfl
  rw [hs] at he
  have HB5 : Fact (Below w.heap.size w w4) := ⟨HB4.out.trans (hb.mono HB4.out.size)⟩
  clear hb hs
  go_wp2_with (go_at_call 19; fail)
  refine (he.out.code (HG.out.below HB5.out HG.out.lt)).mono ?_
  rintro e w5 ⟨rfl, hb⟩
  have HB6 : Fact (Below w.heap.size w w5) := ⟨HB5.out.trans (hb.mono HB5.out.size)⟩
  clear hb he
  go_wp2_with fail
  go_ret
  exact ⟨rfl, HB6.out⟩
end Go.Proofs.YtkmcjokoinoahaaDoor.ClientE
