/- ferrymanref01.Header: a contract over any world. -/
import Derived.Test.YtkmcjokoinoahaaDoorRefA
set_option linter.unusedVariables false
set_option linter.unusedSimpArgs false
namespace Go.Proofs.YtkmcjokoinoahaaDoor.RefB
open Go.RowKit Go.Proofs.YtkmcjokoinoahaaDoor.Lib Go.Proofs.YtkmcjokoinoahaaDoor.LibB Go.Proofs.YtkmcjokoinoahaaDoor.Reg Go.Proofs.YtkmcjokoinoahaaDoor.RegC Go.Proofs.YtkmcjokoinoahaaDoor.TlvA Go.Proofs.YtkmcjokoinoahaaDoor.TlvF Go.Proofs.YtkmcjokoinoahaaDoor.TlvI Go.Proofs.YtkmcjokoinoahaaDoor.PlainT Go.Proofs.YtkmcjokoinoahaaDoor.PlainS Go.Proofs.YtkmcjokoinoahaaDoor.ShaB Go.Proofs.YtkmcjokoinoahaaDoor.ShaC Go.Proofs.YtkmcjokoinoahaaDoor.ShaE Go.Proofs.YtkmcjokoinoahaaDoor.PlainP Go.Proofs.YtkmcjokoinoahaaDoor.ParcelB Go.Proofs.YtkmcjokoinoahaaDoor.SealA Go.Proofs.YtkmcjokoinoahaaDoor.SealB Go.Proofs.YtkmcjokoinoahaaDoor.ClientA Go.Proofs.YtkmcjokoinoahaaDoor.RefA
/-- A slice that lies in memory. -/
def At (w : World) (A : Option Addr) (c : Nat) (l : List UInt8) : Prop := Sl rU8 w (fun k => k < w.heap.size) A l.length c l
theorem At.go {w w' : World} {A : Option Addr} {c : Nat} {l : List UInt8} (h : At w A c l) (hb : Below w.heap.size w w') : At w' A c l := (Sl.move h (Same.of_below hb (fun _ h => h))).mono (fun k hk => Nat.lt_of_lt_of_le hk hb.size)
theorem num_at (w : World) (n : Nat) (hn : n < 18446744073709551616) : Calls Tryd.prog 81 #[.int .u64 (n : Int)] w fun e w' => ∃ A c, e = .returned (.slice A (numL n).length c) ∧ At w' A c (numL n) ∧ Below w.heap.size w w' := by
  refine (RNum_calls w n n rfl hn).mono ?_
  rintro e w' ⟨A, c, rfl, h, hb⟩
  exact ⟨A, c, rfl, Sl.mono h.out (fun k hk => hk.2), hb⟩
theorem put_at (w : World) {A : Option Addr} {c : Nat} {l : List UInt8} (h1 : At w A c l) (ti : Int) (t : UInt8) (ht : ti = (t.toNat : Int)) {A2 : Option Addr} {c2 : Nat} {l2 : List UInt8} (h2 : At w A2 c2 l2) (hs : l.length ≤ 1000000) (hv : l2.length ≤ 65535) :
    Calls Tryd.prog 80 #[.slice A l.length c, .int .u8 ti, .slice A2 l2.length c2] w fun e w' => ∃ A' c', e = .returned (.slice A' (putL l t l2).length c') ∧ At w' A' c' (putL l t l2) ∧ Below w.heap.size w w' := by
  refine (RPut_calls w _ A _ c l ti t A2 _ c2 l2 ht h1 h2 (fun _ h => h) (by omega)).mono ?_
  have e : rputL l t l2 = putL l t l2 := by
    have h2 : ¬ l2.length > 65535 := by omega
    simp only [rputL, putL, if_neg h2]
  rw [e]
  rintro ev w' ⟨A', c', rfl, h, hb⟩
  exact ⟨A', c', rfl, h.out, hb⟩
theorem hash_at (w : World) {A : Option Addr} {c : Nat} {l : List UInt8} (h1 : At w A c l) (ti : Int) (t : UInt8) (ht : ti = (t.toNat : Int)) (hs : l.length ≤ 1000000) (cs : Array Value) (x : List UInt8) (hc : cs.toList = x.map vu8) (hx : x.length = 32) :
    Calls Tryd.prog 82 #[.slice A l.length c, .int .u8 ti, .agg cs] w fun e w' => ∃ A' c', e = .returned (.slice A' (putH l t x).length c') ∧ At w' A' c' (putH l t x) ∧ Below w.heap.size w w' := by
  refine (hash_calls w _ A _ c l h1 (fun _ h => h) hs ti t ht cs x hc hx).mono ?_
  rw [rputH_eq l t x hx]
  rintro ev w' ⟨A', c', rfl, h, hb⟩
  exact ⟨A', c', rfl, h.out, hb⟩
end Go.Proofs.YtkmcjokoinoahaaDoor.RefB
