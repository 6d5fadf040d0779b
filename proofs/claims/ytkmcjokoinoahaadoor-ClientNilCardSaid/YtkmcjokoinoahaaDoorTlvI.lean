/- ferrymanref01.Put; TlvPuts: for every input the law answers true; what was in memory before is as it was. -/
import Derived.Test.YtkmcjokoinoahaaDoorTlvH
set_option linter.unusedVariables false
set_option linter.unusedSimpArgs false
namespace Go.Proofs.YtkmcjokoinoahaaDoor.TlvI
open Go.RowKit Go.Proofs.YtkmcjokoinoahaaDoor.Lib Go.Proofs.YtkmcjokoinoahaaDoor.Reg Go.Proofs.YtkmcjokoinoahaaDoor.TlvA Go.Proofs.YtkmcjokoinoahaaDoor.TlvB Go.Proofs.YtkmcjokoinoahaaDoor.TlvF Go.Proofs.YtkmcjokoinoahaaDoor.TlvG Go.Proofs.YtkmcjokoinoahaaDoor.TlvH

def rputL (l : List UInt8) (t : UInt8) (v : List UInt8) : List UInt8 := if v = [] then l else l ++ [t, lo (v.length / 256), lo v.length] ++ v
theorem rputL_nil {l : List UInt8} {t : UInt8} : rputL l t [] = l := by simp [rputL]
theorem rputL_some {l v : List UInt8} {t : UInt8} (h0 : v ≠ []) : rputL l t v = l ++ [t, lo (v.length / 256), lo v.length] ++ v := by unfold rputL; rw [if_neg h0]
theorem putL_eq {l v : List UInt8} {t : UInt8} (h : v.length ≤ 65535) : putL l t v = rputL l t v := by
  unfold putL rputL
  rw [if_neg (by omega)]

set_option maxHeartbeats 1000000 in
set_option maxRecDepth 100000 in
theorem RPut_calls (w : World) (F : Nat → Prop) (A : Option Addr) (n c : Nat) (l : List UInt8) (ti : Int) (t : UInt8) (A2 : Option Addr) (n2 c2 : Nat) (l2 : List UInt8) (ht : ti = (t.toNat : Int)) (h1 : Sl rU8 w F A n c l) (h2 : Sl rU8 w F A2 n2 c2 l2) (hF : ∀ k, F k → k < w.heap.size)
    (hs : n + n2 + 3 ≤ 140737488355328) :
    Calls Tryd.prog 80 #[.slice A n c, .int .u8 ti, .slice A2 n2 c2] w fun e w' => ∃ A' c', e = .returned (.slice A' (rputL l t l2).length c') ∧ Fact (Sl rU8 w' (fun k => k < w'.heap.size) A' (rputL l t l2).length c' (rputL l t l2)) ∧ Below w.heap.size w w' := by
  have hl1 : l.length = n := h1.len
  have hl2 : l2.length = n2 := h2.len
  have hm2 : n2 ≤ 9223372036854775807 := by omega
  have H1 := Fact.mk h1
  have H2 := Fact.mk h2
  have HT := Fact.mk ht
  have HF := Fact.mk hF
  have HL1 := Fact.mk hl1
  have HL2 := Fact.mk hl2
  clear h1 h2 ht hF
  by_cases hz : l2 = []
  · subst hz
    obtain rfl : n2 = 0 := hl2.symm
    clear hl1 hl2
    go_enter Tryd.func80, Tryd.ntmps80
    go_wp2_with fail
    go_ret
    rw [rputL_nil]
    exact ⟨A, c, by rw [HL1.out]; rfl, ⟨by rw [HL1.out]; exact H1.out.mono HF.out⟩, Below.refl _ _⟩
  · have hp : 0 < n2 := by rw [← hl2]; exact List.length_pos_iff.2 hz
    have hb2 : ((n2 : Int) == 0) = false := by simp; omega
    have HZ := Fact.mk hz
    clear hl1 hl2 hz
    go_enter Tryd.func80, Tryd.ntmps80
    go_wp2_with (first
      | (at_builtin
         refine wpList_app rU8 (w0 := w) w.heap.size rfl (.tmp 11) (.tmp 12) 129 5 (.int .u8 0) 1 rfl Tryd.underlying129 info_u8 rfl (by decide) (by decide) (fun _ => False) F (.slice (some ⟨w.heap.size, 0, none⟩) 0 0) [] l A n c rfl rfl
           (Ow.litB (xs := []) w w.heap.size _ (Nat.le_refl _) rfl rfl (by omega)) (H1.out.move ((Same.refl _ _).alloc HF.out _)) ((Below.refl _ _).alloc (Nat.le_refl _) _) (by simp) (by simp; omega) (fun _ h => h.elim) (fun _ _ h => h) ?_
         intro v1 w1 ho1 hb hg1 hat1
         have HO1 := Fact.mk ho1
         have HB := Fact.mk hb
         clear ho1 hb hg1 hat1)
      | (at_builtin
         refine wpList_app rU8 (w0 := w) w.heap.size rfl (.tmp 13) (.tmp 23) 129 5 (.int .u8 0) 1 rfl Tryd.underlying129 info_u8 rfl (by decide) (by decide) (fun _ => False) (fun k => k = w1.heap.size) v1 ([] ++ l) [t, lo (l2.length / 256), lo l2.length] _ 3 3 rfl rfl
           (HO1.out.below ((Below.refl _ _).alloc (Nat.le_refl _) _) (fun _ h => h.elim)) (Sl.boxB w1 _ (by simp [vu8, lo_int, HT.out, HL2.out]) rfl (by omega)) (HB.out.alloc HB.out.size _) (by have := HB.out.size; simp; omega) (by have := HL1.out; simp only [List.nil_append]; omega) (fun _ h => h.elim) (fun _ _ h => h) ?_
         intro v2 w2 ho2 hb2_ hg2 hat2
         have HO2 := Fact.mk ho2
         have HB2 := Fact.mk hb2_
         clear ho2 hb2_ hg2 hat2)
      | (at_builtin
         refine wpList_app rU8 (w0 := w) w.heap.size rfl (.tmp 24) (.tmp 25) 129 5 (.int .u8 0) 1 rfl Tryd.underlying129 info_u8 rfl (by decide) (by decide) (fun _ => False) F v2 ([] ++ l ++ [t, lo (l2.length / 256), lo l2.length]) l2 _ n2 c2 rfl rfl
           HO2.out (H2.out.move (Same.of_below HB2.out HF.out)) HB2.out HB2.out.size (by have := HL1.out; simp only [List.nil_append, List.length_append, List.length_cons, List.length_nil]; omega) (fun _ h => h.elim) (fun _ _ h => h) ?_
         intro v3 w3 ho3 hb3_ hg3 hat3
         have HO3 := Fact.mk ho3
         have HB3 := Fact.mk hb3_
         clear ho3 hb3_ hg3 hat3))
    go_ret
    rw [rputL_some HZ.out]
    obtain ⟨A3, c3, hv, hs3⟩ := HO3.out.sl
    exact ⟨A3, c3, by rw [← List.nil_append l, ← hv]; rfl, ⟨hs3.mono (fun k hk => hk.elim False.elim (fun h => (HO3.out.lt k h).2))⟩, HB3.out⟩

def putE (n : Nat) : Int := if n > 65535 then 3 else 0
theorem Put_calls' (w : World) (F : Nat → Prop) (A : Option Addr) (n c : Nat) (l : List UInt8) (ti : Int) (t : UInt8) (A2 : Option Addr) (n2 c2 : Nat) (l2 : List UInt8) (ht : ti = (t.toNat : Int)) (h1 : Sl rU8 w F A n c l) (h2 : Sl rU8 w F A2 n2 c2 l2) (hF : ∀ k, F k → k < w.heap.size)
    (hs : n + n2 + 3 ≤ 140737488355328) :
    Calls Tryd.prog 111 #[.slice A n c, .int .u8 ti, .slice A2 n2 c2] w fun e w' => ∃ A' c', e = .returned (.tuple #[.slice A' (putL l t l2).length c', .int .i64 (putE n2)]) ∧ Fact (Ow rU8 5 w' w.heap.size (fun _ => False) (.slice A' (putL l t l2).length c') (putL l t l2)) ∧ Below w.heap.size w w' := by
  obtain rfl := h1.len
  obtain rfl := h2.len
  refine (Put_calls w F A c l ti t A2 c2 l2 ht h1 h2 hF hs).mono ?_
  rintro e w' ⟨v, rfl, ho, hb⟩
  obtain ⟨A', c', hv, _⟩ := ho.out.sl
  subst hv
  exact ⟨A', c', rfl, ho, hb⟩
theorem _root_.Go.Proofs.YtkmcjokoinoahaaDoor.Lib.Ow.slF {α : Type} {r : Rep α} {e : TypeId} {w : World} {base : Nat} {A : Option Addr} {n c : Nat} {xs : List α} (h : Ow r e w base (fun _ => False) (.slice A n c) xs) : Sl r w (fun k => base ≤ k ∧ k < w.heap.size) A n c xs := by
  obtain ⟨A', c', he, hs⟩ := h.sl
  injection he with h1 h2 h3
  subst h1 h2 h3
  exact hs.mono (fun k hk => hk.elim False.elim (fun hv => h.lt k hv))

end Go.Proofs.YtkmcjokoinoahaaDoor.TlvI
