/- tlv.Put, ferrymanref01.Put, and what a number's low byte is: contracts over any world. -/
import Derived.Test.YtkmcjokoinoahaaDoorProg
import Derived.Test.YtkmcjokoinoahaaDoorLib
import Derived.KernelRfl
set_option linter.unusedVariables false
set_option linter.unusedSimpArgs false
namespace Go.Proofs.YtkmcjokoinoahaaDoor.TlvA
open Go.RowKit Go.Proofs.YtkmcjokoinoahaaDoor.Lib

theorem info_u8 : (Tryd.prog.info? 5).map (fun i => (i.zero, i.size, i.bytes)) = some (some (.int .u8 0), 1, 1) := by kernel_rfl

/-- Low byte. -/
def lo (n : Nat) : UInt8 := UInt8.ofNat n
theorem lo_int (n : Nat) : ((lo n).toNat : Int) = (n : Int) % 256 := by simp [lo]
/-- A field behind others. -/
def putL (l : List UInt8) (t : UInt8) (v : List UInt8) : List UInt8 := if v.length > 65535 then [] else if v = [] then l else l ++ [t, lo (v.length / 256), lo v.length] ++ v
theorem putL_long {l v : List UInt8} {t : UInt8} (h : v.length > 65535) : putL l t v = [] := by unfold putL; rw [if_pos h]
theorem putL_nil {l : List UInt8} {t : UInt8} : putL l t [] = l := by simp [putL]
theorem putL_some {l v : List UInt8} {t : UInt8} (h : ¬ v.length > 65535) (h0 : v ≠ []) : putL l t v = l ++ [t, lo (v.length / 256), lo v.length] ++ v := by unfold putL; rw [if_neg h, if_neg h0]

set_option maxHeartbeats 1000000 in
set_option maxRecDepth 100000 in
theorem Put_calls (w : World) (F : Nat → Prop) (A : Option Addr) (c : Nat) (l : List UInt8) (ti : Int) (t : UInt8) (A2 : Option Addr) (c2 : Nat) (l2 : List UInt8) (ht : ti = (t.toNat : Int)) (h1 : Sl rU8 w F A l.length c l) (h2 : Sl rU8 w F A2 l2.length c2 l2) (hF : ∀ k, F k → k < w.heap.size)
    (hs : l.length + l2.length + 3 ≤ 140737488355328) :
    Calls Tryd.prog 111 #[.slice A l.length c, .int .u8 ti, .slice A2 l2.length c2] w fun e w' => ∃ v, e = .returned (.tuple #[v, .int .i64 (if l2.length > 65535 then 3 else 0)]) ∧ Fact (Ow rU8 5 w' w.heap.size (fun _ => False) v (putL l t l2)) ∧ Below w.heap.size w w' := by
  have H1 := Fact.mk h1
  have H2 := Fact.mk h2
  have HT := Fact.mk ht
  have HF := Fact.mk hF
  clear h1 h2 ht hF
  go_enter Tryd.func111, Tryd.ntmps111
  by_cases hbig : l2.length > 65535
  · have hb1 : decide (65535 < (l2.length : Int)) = true := by simp; omega
    go_wp2_with (first
      | (at_builtin
         refine wpList_app rU8 (w0 := w) w.heap.size rfl (.tmp 9) (.tmp 10) 129 5 (.int .u8 0) 1 rfl Tryd.underlying129 info_u8 rfl (by decide) (by decide) (fun _ => False) F (.slice (some ⟨w.heap.size, 0, none⟩) 0 0) [] l A l.length c rfl rfl
           (Ow.litB (xs := []) w w.heap.size _ (Nat.le_refl _) rfl rfl (by omega)) (H1.out.move ((Same.refl _ _).alloc HF.out _)) ((Below.refl _ _).alloc (Nat.le_refl _) _) (by simp) (by simp; omega) (fun _ h => h.elim) (fun _ _ h => h) ?_
         intro v1 w1 ho1 hb hg1 hat1
         have HO1 := Fact.mk ho1
         have HB := Fact.mk hb
         clear ho1 hb hg1 hat1))
    go_ret2
    exact ⟨_, rfl, ⟨by rw [putL_long hbig]; exact Ow.nil _ _ _ _ _⟩, HB.out⟩
  · have hb1 : decide (65535 < (l2.length : Int)) = false := by simp; omega
    by_cases hz : l2 = []
    · subst hz
      go_wp2_with (first
        | (at_builtin
           refine wpList_app rU8 (w0 := w) w.heap.size rfl (.tmp 9) (.tmp 10) 129 5 (.int .u8 0) 1 rfl Tryd.underlying129 info_u8 rfl (by decide) (by decide) (fun _ => False) F (.slice (some ⟨w.heap.size, 0, none⟩) 0 0) [] l A l.length c rfl rfl
             (Ow.litB (xs := []) w w.heap.size _ (Nat.le_refl _) rfl rfl (by omega)) (H1.out.move ((Same.refl _ _).alloc HF.out _)) ((Below.refl _ _).alloc (Nat.le_refl _) _) (by simp) (by simp; omega) (fun _ h => h.elim) (fun _ _ h => h) ?_
           intro v1 w1 ho1 hb hg1 hat1
           have HO1 := Fact.mk ho1
           have HB := Fact.mk hb
           clear ho1 hb hg1 hat1))
      go_ret2
      exact ⟨_, rfl, ⟨by rw [putL_nil]; exact HO1.out⟩, HB.out⟩
    · have hp : 0 < l2.length := List.length_pos_iff.2 hz
      have hb2 : ((l2.length : Int) == 0) = false := by simp; exact hz
      go_wp2_with (first
        | (at_builtin
           refine wpList_app rU8 (w0 := w) w.heap.size rfl (.tmp 9) (.tmp 10) 129 5 (.int .u8 0) 1 rfl Tryd.underlying129 info_u8 rfl (by decide) (by decide) (fun _ => False) F (.slice (some ⟨w.heap.size, 0, none⟩) 0 0) [] l A l.length c rfl rfl
             (Ow.litB (xs := []) w w.heap.size _ (Nat.le_refl _) rfl rfl (by omega)) (H1.out.move ((Same.refl _ _).alloc HF.out _)) ((Below.refl _ _).alloc (Nat.le_refl _) _) (by simp) (by simp; omega) (fun _ h => h.elim) (fun _ _ h => h) ?_
           intro v1 w1 ho1 hb hg1 hat1
           have HO1 := Fact.mk ho1
           have HB := Fact.mk hb
           clear ho1 hb hg1 hat1)
        | (at_builtin
           refine wpList_app rU8 (w0 := w) w.heap.size rfl (.tmp 21) (.tmp 30) 129 5 (.int .u8 0) 1 rfl Tryd.underlying129 info_u8 rfl (by decide) (by decide) (fun _ => False) (fun k => k = w1.heap.size) v1 ([] ++ l) [t, lo (l2.length / 256), lo l2.length] _ 3 3 rfl rfl
             (HO1.out.below ((Below.refl _ _).alloc (Nat.le_refl _) _) (fun _ h => h.elim)) (Sl.boxB w1 _ (by simp [vu8, lo_int, HT.out]; omega) rfl (by omega)) (HB.out.alloc HB.out.size _) (by have := HB.out.size; simp; omega) (by simp; omega) (fun _ h => h.elim) (fun _ _ h => h) ?_
           intro v2 w2 ho2 hb2_ hg2 hat2
           have HO2 := Fact.mk ho2
           have HB2 := Fact.mk hb2_
           clear ho2 hb2_ hg2 hat2)
        | (at_builtin
           refine wpList_app rU8 (w0 := w) w.heap.size rfl (.tmp 32) (.tmp 33) 129 5 (.int .u8 0) 1 rfl Tryd.underlying129 info_u8 rfl (by decide) (by decide) (fun _ => False) F v2 ([] ++ l ++ [t, lo (l2.length / 256), lo l2.length]) l2 _ l2.length c2 rfl rfl
             HO2.out (H2.out.move (Same.of_below HB2.out HF.out)) HB2.out HB2.out.size (by simp; omega) (fun _ h => h.elim) (fun _ _ h => h) ?_
           intro v3 w3 ho3 hb3_ hg3 hat3
           have HO3 := Fact.mk ho3
           have HB3 := Fact.mk hb3_
           clear ho3 hb3_ hg3 hat3))
      go_ret2
      exact ⟨_, rfl, ⟨by rw [putL_some hbig hz]; exact HO3.out⟩, HB3.out⟩
end Go.Proofs.YtkmcjokoinoahaaDoor.TlvA
