/- ferrymanref01.hash: a contract over any world. -/
import Derived.Test.YtkmcjokoinoahaaDoorClientA
set_option linter.unusedVariables false
set_option linter.unusedSimpArgs false
namespace Go.Proofs.YtkmcjokoinoahaaDoor.RefA
open Go.RowKit Go.Proofs.YtkmcjokoinoahaaDoor.Lib Go.Proofs.YtkmcjokoinoahaaDoor.LibB Go.Proofs.YtkmcjokoinoahaaDoor.Reg Go.Proofs.YtkmcjokoinoahaaDoor.RegC Go.Proofs.YtkmcjokoinoahaaDoor.TlvA Go.Proofs.YtkmcjokoinoahaaDoor.TlvI Go.Proofs.YtkmcjokoinoahaaDoor.PlainT Go.Proofs.YtkmcjokoinoahaaDoor.PlainS Go.Proofs.YtkmcjokoinoahaaDoor.ShaB Go.Proofs.YtkmcjokoinoahaaDoor.ShaC Go.Proofs.YtkmcjokoinoahaaDoor.ShaE Go.Proofs.YtkmcjokoinoahaaDoor.PlainP Go.Proofs.YtkmcjokoinoahaaDoor.ParcelB Go.Proofs.YtkmcjokoinoahaaDoor.SealA Go.Proofs.YtkmcjokoinoahaaDoor.SealB Go.Proofs.YtkmcjokoinoahaaDoor.ClientA
def rputH (l : List UInt8) (t : UInt8) (x : List UInt8) : List UInt8 := if x = Z32 then l else rputL l t x
theorem rputH_eq (l : List UInt8) (t : UInt8) (x : List UInt8) (hx : x.length = 32) : rputH l t x = putH l t x := by
  unfold rputH putH
  split
  · rfl
  · have h2 : ¬ x.length > 65535 := by omega
    simp only [rputL, putL, if_neg h2]
set_option maxHeartbeats 8000000 in
set_option maxRecDepth 100000 in
theorem hash_calls (w : World) (F : Nat → Prop) (A : Option Addr) (n c : Nat) (l : List UInt8) (h1 : Sl rU8 w F A n c l) (hF : ∀ k, F k → k < w.heap.size) (hs : n ≤ 1000000) (ti : Int) (t : UInt8) (ht : ti = (t.toNat : Int)) (cs : Array Value) (x : List UInt8) (hc : cs.toList = x.map vu8) (hx : x.length = 32) :
    Calls Tryd.prog 82 #[.slice A n c, .int .u8 ti, .agg cs] w fun e w' => ∃ A' c', e = .returned (.slice A' (rputH l t x).length c') ∧ Fact (Sl rU8 w' (fun k => k < w'.heap.size) A' (rputH l t x).length c' (rputH l t x)) ∧ Below w.heap.size w w' := by
  have HN1 := h1.len
  have HSL := Fact.mk h1
  have HF := Fact.mk hF
  have HT := Fact.mk ht
  have HC := Fact.mk hc
  have HX := Fact.mk hx
  have HS := Fact.mk hs
  have heq := eq_hash hash_u hash_c hash_k cs ParcelA.zA x Z32 hc ParcelA.zA_list hx Z32_len
  have HI : Fact ((Tryd.prog.info? 52).map (·.size) = some cs.size) := ⟨hash_i (bytes_size hc hx)⟩
  have HB0 : Fact (Below w.heap.size w (w.alloc (.cells cs 52))) := ⟨(Below.refl _ _).alloc (Nat.le_refl _) _⟩
  unfold ParcelA.zA at heq
  clear h1 hF ht hc hx hs
  by_cases hzz : x = Z32
  · have hb : (x == Z32) = true := by simpa using hzz
    rw [hb] at heq
    have HZ : Fact (rputH l t x = l) := ⟨by unfold rputH; rw [if_pos hzz]⟩
    clear hzz hb
    go_enter Tryd.func82, Tryd.ntmps82
    go_wp2_with (refine wpList_load_row rfl 52 (.tmp 5) rfl w.heap.size rfl 52 cs (0, 0) _ (heap_alloc_new w _) hash_u rfl HI.out ?_)
    go_ret
    rw [HZ.out, HN1]
    exact ⟨A, c, rfl, ⟨(HSL.out.move (Same.of_below HB0.out HF.out)).mono (fun k hk => Nat.lt_of_lt_of_le (HF.out k hk) HB0.out.size)⟩, HB0.out⟩
  · have hb : (x == Z32) = false := by simpa using hzz
    rw [hb] at heq
    have HZ : Fact (rputH l t x = rputL l t x) := ⟨by unfold rputH; rw [if_neg hzz]⟩
    clear hzz hb
    go_enter Tryd.func82, Tryd.ntmps82
    go_wp2_with (first
      | (go_at_call 80; fail)
      | (refine wpList_load_row rfl 52 (.tmp 5) rfl w.heap.size rfl 52 cs (0, 0) _ (heap_alloc_new w _) hash_u rfl HI.out ?_))
    refine (RPut_calls _ (fun k => k < (w.alloc (.cells cs 52)).heap.size) A n c l ti t _ _ _ x HT.out ((HSL.out.move (Same.of_below HB0.out HF.out)).mono (fun k hk => Nat.lt_of_lt_of_le (HF.out k hk) HB0.out.size)) ((Sl.boxB w _ HC.out HX.out (by decide)).mono (fun k hk => by subst hk; simp)) (fun k hk => hk) (by have := HS.out; omega)).mono ?_
    rintro e w2 ⟨A', c', rfl, hsl, hb2⟩
    have HB2 : Fact (Below w.heap.size w w2) := ⟨HB0.out.trans (hb2.mono HB0.out.size)⟩
    clear hb2
    go_wp2_with fail
    go_ret
    rw [HZ.out]
    exact ⟨A', c', rfl, hsl, HB2.out⟩
end Go.Proofs.YtkmcjokoinoahaaDoor.RefA
