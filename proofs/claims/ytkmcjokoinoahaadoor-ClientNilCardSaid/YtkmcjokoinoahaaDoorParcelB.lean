/- Packets, answers, headers are written: contracts over any world. -/
import Derived.Test.YtkmcjokoinoahaaDoorParcelA
set_option linter.unusedVariables false
set_option linter.unusedSimpArgs false
namespace Go.Proofs.YtkmcjokoinoahaaDoor.ParcelB
open Go.RowKit Go.Proofs.YtkmcjokoinoahaaDoor.Lib Go.Proofs.YtkmcjokoinoahaaDoor.Reg Go.Proofs.YtkmcjokoinoahaaDoor.TlvA Go.Proofs.YtkmcjokoinoahaaDoor.TlvF Go.Proofs.YtkmcjokoinoahaaDoor.TlvI Go.Proofs.YtkmcjokoinoahaaDoor.PlainP Go.Proofs.YtkmcjokoinoahaaDoor.LawOne Go.Proofs.YtkmcjokoinoahaaDoor.DenomA Go.Proofs.YtkmcjokoinoahaaDoor.ParcelA

/-- A packet's cells. -/
def pkC (p : Pk) : Array Value := #[.int .i64 (p.ch : Int), .int .u64 (p.seq : Int), .int .u64 (p.tmo : Int), .string (S p.den), .int .u64 (p.amt : Int), .string (S p.frm), .string (S p.to)]
theorem Wr.new {w : World} {e : TypeId} : Wr (w.alloc (.cells #[.slice none 0 0, .int .i64 0] e)) w.heap.size [] := by
  refine ⟨by simp, none, 0, ?_, ?_, ?_, ?_, Sl.nil _ _ _ _ _ (by omega)⟩ <;> simp
/-- What a slice of the call's own says. -/
def Out (w w' : World) (A : Option Addr) (c : Nat) (l : List UInt8) : Prop := Sl rU8 w' (fun k => w.heap.size ≤ k ∧ k < w'.heap.size) A l.length c l
theorem Out.mk' {w w' : World} {A : Option Addr} {c pb : Nat} {l : List UInt8} (h : Sl rU8 w' (fun k => pb < k ∧ k < w'.heap.size) A l.length c l) (hp : w.heap.size ≤ pb) (q : Nat) : Out w (w'.drewN q) A c l := by
  unfold Out
  exact (h.move (w' := w'.drewN q) (Same.drewN (Same.refl _ _) q)).mono (fun k hk => ⟨by omega, hk.2⟩)
/-- A header's cells. -/
def hdC (h : Hd) : List Value := [.int .u64 (h.ht : Int), .int .u64 (h.tm : Int)] ++ (h.root.map vu8 ++ (h.vals.map vu8 ++ (h.next.map vu8 ++ h.sel.map vu8)))
theorem part_range {w : World} {B o n : Nat} {cs r : List Value} (h : ∀ (j : Nat) v, cs[j]? = some v → w.cell? ⟨B, j, none⟩ = some v) (hr : (cs.drop o).take n = r) : w.rangeAt B o r := by
  intro j v hj
  rw [← hr, List.getElem?_take] at hj
  split at hj
  · rw [List.getElem?_drop] at hj; exact h _ v hj
  · cases hj
theorem hdC_parts {h : Hd} (k : h.ok) : ((hdC h).drop 2).take 32 = h.root.map vu8 ∧ ((hdC h).drop 34).take 32 = h.vals.map vu8 ∧ ((hdC h).drop 66).take 32 = h.next.map vu8 ∧ ((hdC h).drop 98).take 32 = h.sel.map vu8 := by
  have l1 : (h.root.map vu8).length = 32 := by rw [List.length_map, k.root]
  have l2 : (h.vals.map vu8).length = 32 := by rw [List.length_map, k.vals]
  have l3 : (h.next.map vu8).length = 32 := by rw [List.length_map, k.next]
  have l4 : (h.sel.map vu8).length = 32 := by rw [List.length_map, k.sel]
  unfold hdC
  refine ⟨?_, ?_, ?_, ?_⟩
  · rw [List.drop_append_of_le_length (by simp)]
    simp only [List.drop_succ_cons, List.drop_zero, List.nil_append]
    rw [List.take_append_of_le_length (by omega), List.take_of_length_le (by omega)]
  · rw [← List.append_assoc, List.drop_append, List.drop_of_length_le (by simp [k.root, k.vals, k.next])]
    rw [show 34 - ([Value.int .u64 (h.ht : Int), .int .u64 (h.tm : Int)] ++ h.root.map vu8).length = 0 by rw [List.length_append, l1]; rfl, List.drop_zero, List.nil_append, List.take_append_of_le_length (by omega), List.take_of_length_le (by omega)]
  · rw [← List.append_assoc, ← List.append_assoc, List.drop_append, List.drop_of_length_le (by simp [k.root, k.vals, k.next])]
    rw [show 66 - ([Value.int .u64 (h.ht : Int), .int .u64 (h.tm : Int)] ++ h.root.map vu8 ++ h.vals.map vu8).length = 0 by rw [List.length_append, List.length_append, l1, l2]; rfl, List.drop_zero, List.nil_append, List.take_append_of_le_length (by omega), List.take_of_length_le (by omega)]
  · rw [← List.append_assoc, ← List.append_assoc, ← List.append_assoc, List.drop_append, List.drop_of_length_le (by simp [k.root, k.vals, k.next])]
    rw [show 98 - ([Value.int .u64 (h.ht : Int), .int .u64 (h.tm : Int)] ++ h.root.map vu8 ++ h.vals.map vu8 ++ h.next.map vu8).length = 0 by rw [List.length_append, List.length_append, List.length_append, l1, l2, l3]; rfl, List.drop_zero, List.nil_append, List.take_of_length_le (by omega)]
theorem load_hash {w : World} {B o : Nat} {x : List UInt8} (hx : x.length = 32) (h : w.rangeAt B o (x.map vu8)) : (Instr.loadAt 52 (.pointer (some ⟨B, o, none⟩))).run Tryd.prog w = .ok (.agg (x.map vu8).toArray) w :=
  run_loadAt_mid (P := Tryd.prog) w B o 52 _ _ h hash_u rfl (by rw [List.length_map, hx]; kernel_rfl)
set_option maxHeartbeats 8000000 in
set_option maxRecDepth 100000 in
theorem Header_calls (w : World) (h : Hd) (hk : h.ok) (cs : Array Value) (hcs : cs.toList = hdC h) : Calls Tryd.prog 84 #[.agg cs] w fun e w' => ∃ A c, e = .returned (.slice A (hdL h).length c) ∧ Fact (Out w w' A c (hdL h)) ∧ Below w.heap.size w w' := by
  have HK := Fact.mk hk
  have hpt := hdC_parts hk
  have g0 : cs[0]? = some (.int .u64 (h.ht : Int)) := by rw [← Array.getElem?_toList, hcs]; rfl
  have HC0 : Fact (∀ (j : Nat) v, (hdC h)[j]? = some v → ((w.alloc (.cells cs 54)).alloc (.cells #[.slice none 0 0, .int .i64 0] 179)).cell? ⟨w.heap.size, j, none⟩ = some v) := ⟨fun j v hj => by
    rw [World.cell?_alloc_lt _ _ _ (by simp)]
    rw [← hcs] at hj
    simpa [World.cell?, World.alloc, -World.alloc_eq] using hj⟩
  have d0 := HC0.out 0 _ rfl
  have HW0 : Fact (Wr ((w.alloc (.cells cs 54)).alloc (.cells #[.slice none 0 0, .int .i64 0] 179)) (w.heap.size + 1) []) := ⟨by have := Wr.new (w := w.alloc (.cells cs 54)) (e := 179); simpa using this⟩
  have HB0 : Fact (Below w.heap.size w ((w.alloc (.cells cs 54)).alloc (.cells #[.slice none 0 0, .int .i64 0] 179))) := ⟨((Below.refl _ _).alloc (Nat.le_refl _) _).alloc (by simp) _⟩
  have HPT := Fact.mk hpt
  have n1 := num_len h.ht
  have n2 := num_len h.tm
  have q1 := putL_len [] 1 (numL h.ht)
  have q2 := putL_len (putL [] 1 (numL h.ht)) 2 (numL h.tm)
  have hq : ∀ (l : List UInt8) (t : UInt8) (x : List UInt8), x.length = 32 → (putH l t x).length ≤ l.length + 35 := by
    intro l t x hx
    unfold putH
    split
    · omega
    · have := putL_len l t x; omega
  have q3 := hq (putL (putL [] 1 (numL h.ht)) 2 (numL h.tm)) 3 h.root hk.root
  have q4 := hq (putH (putL (putL [] 1 (numL h.ht)) 2 (numL h.tm)) 3 h.root) 4 h.vals hk.vals
  have q5 := hq (putH (putH (putL (putL [] 1 (numL h.ht)) 2 (numL h.tm)) 3 h.root) 4 h.vals) 5 h.next hk.next
  simp only [List.length_nil] at q1
  have HLEN : Fact ((putL [] 1 (numL h.ht)).length ≤ 1000000 ∧ (putL (putL [] 1 (numL h.ht)) 2 (numL h.tm)).length ≤ 1000000 ∧ (putH (putL (putL [] 1 (numL h.ht)) 2 (numL h.tm)) 3 h.root).length ≤ 1000000 ∧ (putH (putH (putL (putL [] 1 (numL h.ht)) 2 (numL h.tm)) 3 h.root) 4 h.vals).length ≤ 1000000 ∧ (putH (putH (putH (putL (putL [] 1 (numL h.ht)) 2 (numL h.tm)) 3 h.root) 4 h.vals) 5 h.next).length ≤ 1000000) := ⟨by omega⟩
  clear n1 n2 q1 q2 q3 q4 q5 hq hpt hk hcs
  go_enter Tryd.func84, Tryd.ntmps84
  go_wp2_with (go_at_call 92; fail)
  refine (WNum_calls _ (w.heap.size + 1) [] HW0.out _ 1 rfl h.ht HK.out.ht (by simp)).mono ?_
  rintro e w1 ⟨rfl, hw, hb⟩
  clear d0 g0
  have HW1 := Fact.mk hw.out
  have HC1 : Fact (∀ (j : Nat) v, (hdC h)[j]? = some v → w1.cell? ⟨w.heap.size, j, none⟩ = some v) := ⟨fun j v hj => (cell_same (hb.block _ (by show w.heap.size < w.heap.size + 1; omega))).trans (HC0.out j v hj)⟩
  have HB1 : Fact (Below w.heap.size w w1) := ⟨HB0.out.trans (hb.mono (by omega))⟩
  clear hw hb
  have c1 : w1.cell? ⟨w.heap.size, 1, none⟩ = some (.int .u64 (h.tm : Int)) := HC1.out 1 _ rfl
  go_wp2_with (go_at_call 92; fail)
  refine (WNum_calls w1 (w.heap.size + 1) _ HW1.out _ 2 rfl h.tm HK.out.tm HLEN.out.1).mono ?_
  rintro e w2 ⟨rfl, hw, hb⟩
  clear c1
  have HW2 := Fact.mk hw.out
  have HC2 : Fact (∀ (j : Nat) v, (hdC h)[j]? = some v → w2.cell? ⟨w.heap.size, j, none⟩ = some v) := ⟨fun j v hj => (cell_same (hb.block _ (by show w.heap.size < w.heap.size + 1; omega))).trans (HC1.out j v hj)⟩
  have HB2 : Fact (Below w.heap.size w w2) := ⟨HB1.out.trans (hb.mono (by omega))⟩
  clear hw hb
  have hr2 := Fact.mk (part_range HC2.out HPT.out.1)
  have hi2 := Fact.mk (show (Tryd.prog.info? 52).map (·.size) = some (h.root.map vu8).length by rw [List.length_map, HK.out.root]; kernel_rfl)
  go_wp2_with (first
    | (go_at_call 93; fail)
    | (refine wpList_load_mid rfl 52 (.tmp 15) rfl w.heap.size 2 rfl (h.root.map vu8) _ hr2.out hash_u rfl hi2.out ?_))
  refine (WHash_calls w2 (w.heap.size + 1) _ HW2.out _ 3 rfl _ h.root (by simp) HK.out.root HLEN.out.2.1).mono ?_
  rintro e w3 ⟨rfl, hw, hb⟩
  clear hr2 hi2
  have HW3 := Fact.mk hw.out
  have HC3 : Fact (∀ (j : Nat) v, (hdC h)[j]? = some v → w3.cell? ⟨w.heap.size, j, none⟩ = some v) := ⟨fun j v hj => (cell_same (hb.block _ (by show w.heap.size < w.heap.size + 1; omega))).trans (HC2.out j v hj)⟩
  have HB3 : Fact (Below w.heap.size w w3) := ⟨HB2.out.trans (hb.mono (by omega))⟩
  clear hw hb
  have hr3 := Fact.mk (part_range HC3.out HPT.out.2.1)
  have hi3 := Fact.mk (show (Tryd.prog.info? 52).map (·.size) = some (h.vals.map vu8).length by rw [List.length_map, HK.out.vals]; kernel_rfl)
  go_wp2_with (first
    | (go_at_call 93; fail)
    | (refine wpList_load_mid rfl 52 (.tmp 19) rfl w.heap.size 34 rfl (h.vals.map vu8) _ hr3.out hash_u rfl hi3.out ?_))
  refine (WHash_calls w3 (w.heap.size + 1) _ HW3.out _ 4 rfl _ h.vals (by simp) HK.out.vals HLEN.out.2.2.1).mono ?_
  rintro e w4 ⟨rfl, hw, hb⟩
  clear hr3 hi3
  have HW4 := Fact.mk hw.out
  have HC4 : Fact (∀ (j : Nat) v, (hdC h)[j]? = some v → w4.cell? ⟨w.heap.size, j, none⟩ = some v) := ⟨fun j v hj => (cell_same (hb.block _ (by show w.heap.size < w.heap.size + 1; omega))).trans (HC3.out j v hj)⟩
  have HB4 : Fact (Below w.heap.size w w4) := ⟨HB3.out.trans (hb.mono (by omega))⟩
  clear hw hb
  have hr4 := Fact.mk (part_range HC4.out HPT.out.2.2.1)
  have hi4 := Fact.mk (show (Tryd.prog.info? 52).map (·.size) = some (h.next.map vu8).length by rw [List.length_map, HK.out.next]; kernel_rfl)
  go_wp2_with (first
    | (go_at_call 93; fail)
    | (refine wpList_load_mid rfl 52 (.tmp 23) rfl w.heap.size 66 rfl (h.next.map vu8) _ hr4.out hash_u rfl hi4.out ?_))
  refine (WHash_calls w4 (w.heap.size + 1) _ HW4.out _ 5 rfl _ h.next (by simp) HK.out.next HLEN.out.2.2.2.1).mono ?_
  rintro e w5 ⟨rfl, hw, hb⟩
  clear hr4 hi4
  have HW5 := Fact.mk hw.out
  have HC5 : Fact (∀ (j : Nat) v, (hdC h)[j]? = some v → w5.cell? ⟨w.heap.size, j, none⟩ = some v) := ⟨fun j v hj => (cell_same (hb.block _ (by show w.heap.size < w.heap.size + 1; omega))).trans (HC4.out j v hj)⟩
  have HB5 : Fact (Below w.heap.size w w5) := ⟨HB4.out.trans (hb.mono (by omega))⟩
  clear hw hb
  have hr5 := Fact.mk (part_range HC5.out HPT.out.2.2.2)
  have hi5 := Fact.mk (show (Tryd.prog.info? 52).map (·.size) = some (h.sel.map vu8).length by rw [List.length_map, HK.out.sel]; kernel_rfl)
  go_wp2_with (first
    | (go_at_call 93; fail)
    | (refine wpList_load_mid rfl 52 (.tmp 27) rfl w.heap.size 98 rfl (h.sel.map vu8) _ hr5.out hash_u rfl hi5.out ?_))
  refine (WHash_calls w5 (w.heap.size + 1) _ HW5.out _ 6 rfl _ h.sel (by simp) HK.out.sel HLEN.out.2.2.2.2).mono ?_
  rintro e w6 ⟨rfl, hw, hb⟩
  clear hr5 hi5
  have HW6 := Fact.mk hw.out
  have HC6 : Fact (∀ (j : Nat) v, (hdC h)[j]? = some v → w6.cell? ⟨w.heap.size, j, none⟩ = some v) := ⟨fun j v hj => (cell_same (hb.block _ (by show w.heap.size < w.heap.size + 1; omega))).trans (HC5.out j v hj)⟩
  have HB6 : Fact (Below w.heap.size w w6) := ⟨HB5.out.trans (hb.mono (by omega))⟩
  clear hw hb
  obtain ⟨hp7, A, c, c0, c1, f0, f1, hsl⟩ := HW6.out
  have HSL := Fact.mk hsl
  clear hsl hp7
  obtain ⟨x, hx⟩ : ∃ x, hdL h = x := ⟨_, rfl⟩
  rw [show putH (putH (putH (putH (putL (putL [] 1 (numL h.ht)) 2 (numL h.tm)) 3 h.root) 4 h.vals) 5 h.next) 6 h.sel = hdL h from rfl, hx] at HSL c0
  have HXX := Fact.mk hx
  clear hx
  go_wp2_with fail
  go_ret
  rw [HXX.out]
  exact ⟨A, c, rfl, ⟨HSL.out.mono (fun k hk => ⟨by omega, hk.2⟩)⟩, HB6.out⟩
end Go.Proofs.YtkmcjokoinoahaaDoor.ParcelB
