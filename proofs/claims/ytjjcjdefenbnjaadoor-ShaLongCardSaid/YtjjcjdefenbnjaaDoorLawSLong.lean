/- ShaLong: for every input the law answers true; what was in memory before is as it was. -/
import Derived.Test.YtjjcjdefenbnjaaDoorShaE
set_option linter.unusedVariables false
set_option linter.unusedSimpArgs false
namespace Go.Proofs.YtjjcjdefenbnjaaDoor.LawSLong
open Go.RowKit Go.Proofs.YtjjcjdefenbnjaaDoor.Lib Go.Proofs.YtjjcjdefenbnjaaDoor.LibB Go.Proofs.YtjjcjdefenbnjaaDoor.Reg Go.Proofs.YtjjcjdefenbnjaaDoor.PlainS Go.Proofs.YtjjcjdefenbnjaaDoor.ShaA Go.Proofs.YtjjcjdefenbnjaaDoor.ShaB Go.Proofs.YtjjcjdefenbnjaaDoor.ShaC Go.Proofs.YtjjcjdefenbnjaaDoor.ShaD Go.Proofs.YtjjcjdefenbnjaaDoor.ShaDS Go.Proofs.YtjjcjdefenbnjaaDoor.ShaE
/-- Bytes as a row. -/
def gArr (l : List UInt8) : Array Value := (l.map vu8).toArray
theorem gArr_get {l : List UInt8} {k : Nat} (h : k < l.length) : ∃ b : UInt8, (gArr l)[k]? = some (.int .u8 (b.toNat : Int)) := by
  refine ⟨l[k], ?_⟩
  unfold gArr
  rw [List.getElem?_toArray, List.getElem?_map, List.getElem?_eq_getElem h]
  rfl
theorem gArr_set (l : List UInt8) (k : Nat) (b : UInt8) : (gArr l).setIfInBounds k (.int .u8 (b.toNat : Int)) = gArr (l.set k b) := by
  unfold gArr
  rw [List.setIfInBounds_toArray, List.map_set]
  rfl
theorem gArr_sl {w : World} {g n : Nat} {l : List UInt8} {t : TypeId} (h : w.heap[g]? = some (.cells (gArr l) t (0, 0))) (hl : l.length = n) (hn : n ≤ 1000000) : Sl rU8 w (fun k => k = g) (some ⟨g, 0, none⟩) n n l := by
  subst hl
  refine Sl.of_els (Els.bytes w _ l) (fun j u hj => ?_) (fun _ => rfl) (Nat.le_refl _) (by omega)
  rw [add_plain']
  refine row_cell h ?_
  unfold gArr
  rw [List.getElem?_toArray]
  exact hj
set_option maxHeartbeats 4000000 in
set_option maxRecDepth 100000 in
theorem ShaLong_calls (w : World) (hgw : LaidW w) (hgr : LaidR w) (h1 : 1 < w.heap.size) (ni ci : Int) (hn0 : 0 ≤ ni) (hn1 : ni ≤ 255) (hc0 : 0 ≤ ci) (hc1 : ci ≤ 255) :
    Calls Tryd.prog 4 #[.int .u8 ni, .int .u8 ci] w fun e w' => e = .returned (.bool true) ∧ Below w.heap.size w w' := by
  obtain ⟨n, rfl⟩ : ∃ n : Nat, ni = (n : Int) := ⟨ni.toNat, by omega⟩
  obtain ⟨b, rfl⟩ : ∃ b : UInt8, ci = (b.toNat : Int) := ⟨UInt8.ofNat ci.toNat, by rw [UInt8.toNat_ofNat']; omega⟩
  have HGW := Fact.mk hgw
  have HGR := Fact.mk hgr
  have H1 := Fact.mk h1
  have hn : n ≤ 255 := by omega
  have HN := Fact.mk hn
  clear hgw hgr h1 hn0 hc0 hc1 hn
  go_enter Tryd.func4, Tryd.ntmps4
  have hmk := fun W : World => run_make_bytes (P := Tryd.prog) 22 5 Tryd.underlying22 info_u8 .u8 n (by have := HN.out; omega) W
  go_wp2_with (go_at_call 8; refine (Awake_calls _ HGW.out H1.out).mono ?_; rintro e w1 ⟨rfl, hb⟩; have HB1 := Fact.mk hb; clear hb)
  clear hmk
  have hmb : (madeCells #[Value.int .u8 0] n) = gArr (List.replicate n 0) := Array.ext' (made_bytes n)
  rw [hmb]
  generalize hwm : w1.alloc (.cells (gArr (List.replicate n 0)) 5) = wm
  generalize hg : w1.heap.size = g
  have HBm : Fact (Below g w1 wm) := ⟨by rw [← hwm, ← hg]; exact (Below.refl _ _).alloc (Nat.le_refl _) _⟩
  have HRm : Fact (wm.heap[g]? = some (.cells (gArr (List.replicate n 0)) 5 (0, 0))) := ⟨by rw [← hwm, ← hg]; exact heap_alloc_new _ _⟩
  have HGS : Fact (w.heap.size ≤ g) := ⟨by rw [← hg]; exact HB1.out.size⟩
  clear hwm hg hmb
  go_loopg [6, 13] n (fun kq x i wr => ∃ (k : Nat) (l : List UInt8), i = .int .i64 (k : Int) ∧ Fact (k + kq = n) ∧ Fact (l.length = n) ∧ Fact (wr.heap[g]? = some (.cells (gArr l) 5 (0, 0))) ∧ Fact (Below g w1 wr))
  case atStart => exact ⟨0, _, rfl, ⟨Nat.zero_add _⟩, ⟨by simp⟩, HRm, HBm⟩
  case round =>
    clear HBm HRm
    obtain ⟨k, l, rfl, HK, HL, HR, HB⟩ := hrel
    by_cases hlt : k < n
    · have HLT := Fact.mk hlt
      have hkn : (k : Int) < (n : Int) := by omega
      obtain ⟨b0, hb0⟩ := gArr_get (l := l) (k := k) (by rw [HL.out]; exact hlt)
      have c0 := row_cell HR.out hb0
      have f0 := row_free (i := k) HR.out
      clear hlt hb0
      go_wp2_with fail
      go_roundg (n - (k + 1))
      case measure => have := HK.out; have := HLT.out; omega
      case rel =>
        refine ⟨k + 1, l.set k b, by go_num, ⟨by have := HLT.out; omega⟩, ⟨by simp [HL.out]⟩, ⟨?_⟩, ⟨HB.out.setCell (p := ⟨g, k, none⟩) (Nat.le_refl _) _⟩⟩
        rw [← gArr_set]
        exact row_set (w := wr) _ HR.out
    · have hkn : k = n := by have := HK.out; omega
      subst hkn
      clear hlt HK
      have HSL := Fact.mk (gArr_sl HR.out HL.out (by have := HN.out; omega))
      have HBw : Fact (Below w.heap.size w wr) := ⟨HB1.out.trans (HB.out.mono HGS.out)⟩
      have HGLT : Fact (g < wr.heap.size) := ⟨Go.lt_of_block HR.out⟩
      have hEq := fun (cs1 cs2 : Array Value) (ha : cs1.toList = (shaL l).map vu8) (h : cs2.toList = (shaL l).map vu8) => eq_hash hash_u hash_c hash_k cs1 cs2 _ _ ha h (sha_len _) (sha_len _)
      have HEQ := Fact.mk hEq
      clear HR HB hEq
      go_wp2_with (go_at_call 9; fail)
      refine (sum_at wr _ rfl HSL.out (fun k hk => by subst hk; exact HGLT.out) (by have := HL.out; have := HN.out; omega) (laid_move HGW.out HBw.out H1.out) (Nat.lt_of_lt_of_le H1.out HBw.out.size)).mono ?_
      rintro e w3 ⟨⟨cs1, rfl, hc1⟩, hb3⟩
      have HC1 := Fact.mk hc1.out
      have HB3 := Fact.mk hb3
      clear hc1 hb3
      have HB4 : Fact (Below w.heap.size w w3) := ⟨HBw.out.trans (HB3.out.mono HBw.out.size)⟩
      go_wp2_with (go_at_call 10; fail)
      refine (RSum_calls _ _ _ _ _ l (HSL.out.move (Same.of_below HB3.out (fun k hk => by subst hk; exact HGLT.out))) (fun k hk => by subst hk; exact Nat.lt_of_lt_of_le HGLT.out HB3.out.size) (by have := HL.out; have := HN.out; omega) (laidR_move HGR.out HB4.out (Nat.lt_trans Nat.zero_lt_one H1.out)) (Nat.lt_of_lt_of_le (Nat.lt_trans Nat.zero_lt_one H1.out) HB4.out.size)).mono ?_
      rintro e w5 ⟨⟨cs2, rfl, hc2⟩, hb5⟩
      have hq := HEQ.out cs1 cs2 HC1.out hc2.out
      rw [beq_self_eq_true] at hq
      have HB5 : Fact (Below w.heap.size w w5) := ⟨HB4.out.trans (hb5.mono HB4.out.size)⟩
      clear hc2 hb5
      go_wp2_with fail
      go_ret
      exact ⟨rfl, HB5.out⟩
end Go.Proofs.YtjjcjdefenbnjaaDoor.LawSLong
