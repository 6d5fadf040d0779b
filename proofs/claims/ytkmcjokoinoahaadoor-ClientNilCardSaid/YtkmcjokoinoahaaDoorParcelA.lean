/- The writer of packets, answers, headers: contracts over any world. -/
import Derived.Test.YtkmcjokoinoahaaDoorPlainP
import Derived.Test.YtkmcjokoinoahaaDoorDenomA
import Derived.Lib.ConvBytes
import Derived.Deep.MidRow
import Derived.DeepKeys
set_option linter.unusedVariables false
set_option linter.unusedSimpArgs false
namespace Go.Proofs.YtkmcjokoinoahaaDoor.ParcelA
open Go.RowKit Go.Proofs.YtkmcjokoinoahaaDoor.Lib Go.Proofs.YtkmcjokoinoahaaDoor.Reg Go.Proofs.YtkmcjokoinoahaaDoor.TlvA Go.Proofs.YtkmcjokoinoahaaDoor.TlvF Go.Proofs.YtkmcjokoinoahaaDoor.TlvI Go.Proofs.YtkmcjokoinoahaaDoor.PlainP Go.Proofs.YtkmcjokoinoahaaDoor.LawOne Go.Proofs.YtkmcjokoinoahaaDoor.DenomA

/-- '[]byte(s)': a new row that has the string's bytes. -/
theorem conv_bytes (l : List UInt8) (hl : l.length ≤ 140737488355328) : ∃ (bw : World → World) (cv : World → Nat),
    (∀ W : World, (convert 9 129 (.string (S l))).run Tryd.prog W = .ok (.slice (some ⟨W.heap.size, 0, none⟩) l.length (cv W)) (bw W)) ∧
    (∀ W : World, (bw W).heap.size = W.heap.size + 1) ∧ (∀ W : World, Below W.heap.size W (bw W)) ∧
    (∀ W : World, Sl rU8 (bw W) (fun k => k = W.heap.size) (some ⟨W.heap.size, 0, none⟩) l.length (cv W) l) := by
  refine ⟨fun W => Go.Lib.bytesWorld W 5 (S l), fun W => grownCap W (S l).size 0 5, fun W => ?_, fun W => Go.Lib.bytesWorld_size _ _ _, fun W => ?_, fun W => ?_⟩
  · have := Go.Lib.run_convert_string_bytes (P := Tryd.prog) W 9 129 5 (S l) Tryd.underlying9 Tryd.underlying129 Tryd.underlying5
    rw [size_S] at this ⊢
    exact this
  · exact ⟨rfl, rfl, rfl, by rw [Go.Lib.bytesWorld_size]; omega, fun k hk => Go.Lib.bytesWorld_at_old _ _ _ _ hk⟩
  · have hge := grownCap_ge W (S l).size 0 5
    have hle := grownCap_le_maxLen W (S l).size 0 5 (by rw [size_S]; unfold maxLen; omega)
    rw [size_S] at hge hle ⊢
    refine ⟨hge, by unfold maxLen at hle; omega, rfl, fun h0 => ⟨_, rfl, rfl, fun i x hi => ⟨[vu8 x], rfl, fun j u hj => ?_⟩⟩⟩
    match j, hj with
    | 0, hj =>
      simp at hj
      subst hj
      have hil : i < l.length := (List.getElem?_eq_some_iff.1 hi).1
      have hc := Go.Lib.bytesWorld_cell W 5 (S l) i (by rw [size_S]; exact hil)
      have e : (⟨W.heap.size, 0, none⟩ : Addr).add (i * 1 + 0) = ⟨W.heap.size, i, none⟩ := by rw [add_plain']; simp
      show World.cell? _ ((⟨W.heap.size, 0, none⟩ : Addr).add (i * 1 + 0)) = _
      rw [e, hc]
      unfold vu8 S
      simp [List.getD, hi]

/-- A writer without a fault, at a block; what it has written lies behind that block. -/
def Wr (w : World) (pb : Nat) (l : List UInt8) : Prop :=
  pb < w.heap.size ∧ ∃ A c, w.cell? ⟨pb, 0, none⟩ = some (.slice A l.length c) ∧ w.cell? ⟨pb, 1, none⟩ = some (.int .i64 0) ∧ w.frozen? ⟨pb, 0, none⟩ = false ∧ w.frozen? ⟨pb, 1, none⟩ = false ∧ Sl rU8 w (fun k => pb < k ∧ k < w.heap.size) A l.length c l
theorem frozen_same {w w' : World} {a : Addr} (h : w'.heap[a.block]? = w.heap[a.block]?) : w'.frozen? a = w.frozen? a := by unfold World.frozen?; rw [h]
theorem Wr.move {w w' : World} {pb : Nat} {l : List UInt8} (h : Wr w pb l) (hb : Below w.heap.size w w') : Wr w' pb l := by
  obtain ⟨h0, A, c, h1, h2, h3, h4, h5⟩ := h
  have hbl := hb.block pb h0
  exact ⟨Nat.lt_of_lt_of_le h0 hb.size, A, c, (cell_same hbl).trans h1, (cell_same hbl).trans h2, (frozen_same hbl).trans h3, (frozen_same hbl).trans h4, (h5.move (Same.of_below hb (fun k hk => hk.2))).mono (fun k hk => ⟨hk.1, Nat.lt_of_lt_of_le hk.2 hb.size⟩)⟩
set_option maxHeartbeats 1000000 in
set_option maxRecDepth 100000 in
theorem WBytes_calls (w : World) (pb : Nat) (l : List UInt8) (h : Wr w pb l) (ti : Int) (t : UInt8) (ht : ti = (t.toNat : Int)) (F : Nat → Prop) (A2 : Option Addr) (n2 c2 : Nat) (v : List UInt8) (h2 : Sl rU8 w F A2 n2 c2 v) (hF : ∀ k, F k → k < w.heap.size) (hv : n2 ≤ 65535) (hs : l.length ≤ 1000000) :
    Calls Tryd.prog 98 #[.pointer (some ⟨pb, 0, none⟩), .int .u8 ti, .slice A2 n2 c2] w fun e w' => e = .returned (.tuple #[]) ∧ Fact (Wr w' pb (putL l t v)) ∧ Below pb w w' := by
  obtain ⟨hp, A, c, c0, c1, f0, f1, hsl⟩ := h
  have HP := Fact.mk hp
  have HS := Fact.mk hsl
  have H2 := Fact.mk h2
  have HF := Fact.mk hF
  have HT := Fact.mk ht
  have HV := Fact.mk hv
  have HN := Fact.mk hs
  obtain ⟨n, hn⟩ : ∃ n, l.length = n := ⟨_, rfl⟩
  rw [hn] at c0
  have HL := Fact.mk hn
  clear hsl h2 hF ht hv hs hp hn
  go_enter Tryd.func98, Tryd.ntmps98
  go_wp2_with (go_at_call 111; fail)
  refine (Put_calls' w (fun k => k < w.heap.size) A n c l ti t A2 n2 c2 v HT.out (by rw [← HL.out]; exact HS.out.mono (fun k hk => hk.2)) (H2.out.mono HF.out) (fun k hk => hk) (by have := HL.out; have := HN.out; have := HV.out; omega)).mono ?_
  rintro e w1 ⟨A', c', rfl, ho, hb⟩
  rw [show putE n2 = 0 by unfold putE; rw [if_neg (by have := HV.out; omega)]]
  have hbl := hb.block pb HP.out
  have c0' : w1.cell? ⟨pb, 0, none⟩ = some (.slice A n c) := (cell_same hbl).trans c0
  have c1' : w1.cell? ⟨pb, 1, none⟩ = some (.int .i64 0) := (cell_same hbl).trans c1
  have f0' : w1.frozen? ⟨pb, 0, none⟩ = false := (frozen_same hbl).trans f0
  have f1' : w1.frozen? ⟨pb, 1, none⟩ = false := (frozen_same hbl).trans f1
  have HO := Fact.mk ho.out
  have HB := Fact.mk hb
  obtain ⟨x, hx⟩ : ∃ x, putL l t v = x := ⟨_, rfl⟩
  rw [hx] at HO ⊢
  obtain ⟨m, hm⟩ : ∃ m, x.length = m := ⟨_, rfl⟩
  rw [hm] at HO ⊢
  have HM := Fact.mk hm
  have HXX := Fact.mk hx
  clear hb ho hbl hx hm
  go_wp2_with fail
  go_end0
  rw [HXX.out]
  refine ⟨rfl, ⟨?_⟩, ((HB.out.mono (Nat.le_of_lt HP.out)).setCell (Nat.le_refl _) _).setCell (Nat.le_refl _) _⟩
  have hne : (⟨pb, 0, none⟩ : Addr) ≠ ⟨pb, 1, none⟩ := by intro e; injection e with _ e; cases e
  have hsz := HB.out.size
  have hpl := HP.out
  refine ⟨by simp; omega, A', c', ?_, ?_, by simp [f0'], by simp [f1'], ?_⟩
  · rw [World.cell?_setCell_other _ _ _ _ hne.symm, HM.out]; exact World.cell?_setCell_same _ _ _ c0'
  · exact World.cell?_setCell_same _ _ _ ((World.cell?_setCell_other _ _ _ _ hne).trans c1')
  · rw [HM.out]
    refine (HO.out.slF.move (w' := (w1.setCell ⟨pb, 0, none⟩ (.slice A' m c')).setCell ⟨pb, 1, none⟩ (.int .i64 0)) ?_).mono (fun k hk => ⟨by omega, by simp; exact hk.2⟩)
    intro k hk
    rw [Below.heap_setCell _ _ _ _ (by show k ≠ pb; omega), Below.heap_setCell _ _ _ _ (by show k ≠ pb; omega)]
set_option maxHeartbeats 1000000 in
set_option maxRecDepth 100000 in
theorem WNum_calls (w : World) (pb : Nat) (l : List UInt8) (h : Wr w pb l) (ti : Int) (t : UInt8) (ht : ti = (t.toNat : Int)) (n : Nat) (hn : n < 18446744073709551616) (hs : l.length ≤ 1000000) :
    Calls Tryd.prog 92 #[.pointer (some ⟨pb, 0, none⟩), .int .u8 ti, .int .u64 (n : Int)] w fun e w' => e = .returned (.tuple #[]) ∧ Fact (Wr w' pb (putL l t (numL n))) ∧ Below pb w w' := by
  have H := Fact.mk h
  have HT := Fact.mk ht
  have HN := Fact.mk hn
  have HS := Fact.mk hs
  have HP := Fact.mk h.1
  clear h ht hn hs
  go_enter Tryd.func92, Tryd.ntmps92
  go_wp2_with (go_at_call 99; fail)
  refine (Num_calls w _ n rfl HN.out).mono ?_
  rintro e w1 ⟨v, rfl, ho, hb⟩
  obtain ⟨A', c', rfl, _⟩ := ho.out.sl
  have HO := Fact.mk ho.out.slF
  have HB := Fact.mk hb
  clear ho hb
  go_wp2_with (go_at_call 98; fail)
  refine (WBytes_calls w1 pb l (H.out.move HB.out) ti t HT.out _ _ _ _ _ HO.out (fun k hk => hk.2) (num_short n) HS.out).mono ?_
  rintro e w2 ⟨rfl, hw, hb2⟩
  have HB2 := Fact.mk hb2
  clear hb2
  go_wp2_with fail
  go_end0
  exact ⟨rfl, hw, (HB.out.mono (Nat.le_of_lt HP.out)).trans HB2.out⟩
/-- A sum's cells: compared with noughts. -/
theorem keys_bytes (l : List UInt8) (n : Nat) (hl : l.length = n) (i : Nat) (hi : i < n) : Tryd.prog.keyLits 1 5 (((l.map vu8).drop (i * 1)).take 1) = some [.int .u8 ((l[i]?.getD 0).toNat : Int)] := by
  have hil : i < l.length := by omega
  have e : ((l.map vu8).drop (i * 1)).take 1 = [vu8 (l[i]?.getD 0)] := by
    rw [Nat.mul_one]
    apply List.ext_getElem?
    intro k
    rw [List.getElem?_take, List.getElem?_drop, List.getElem?_map]
    match k with
    | 0 => simp [hil]
    | k + 1 => simp
  rw [e]
  have := (l[i]?.getD 0).toNat_lt
  unfold Program.keyLits
  rw [Tryd.underlying5]
  simp [vu8, Lit.wf, IntKind.signed, IntKind.bits, IntKind.min, IntKind.max]
  omega
theorem mapM_some {α β : Type} {f : α → Option β} {g : α → β} : ∀ {l : List α}, (∀ x ∈ l, f x = some (g x)) → l.mapM f = some (l.map g)
  | [], _ => rfl
  | x :: r, h => by
    rw [List.mapM_cons, h x List.mem_cons_self, mapM_some (fun y hy => h y (List.mem_cons_of_mem _ hy))]
    rfl
theorem range_map (l : List UInt8) (n : Nat) (hl : l.length = n) {β : Type} (f : UInt8 → β) : ((List.range n).map fun i => [f (l[i]?.getD 0)]).flatten = l.map f := by
  have h1 : ((List.range n).map fun i => [f (l[i]?.getD 0)]) = l.map fun b => [f b] := by
    apply List.ext_getElem?
    intro i
    rw [List.getElem?_map, List.getElem?_map]
    by_cases hi : i < n
    · have hil : i < l.length := by omega
      rw [List.getElem?_range hi, List.getElem?_eq_getElem hil]; simp [hil]
    · rw [List.getElem?_eq_none (by simp; omega), List.getElem?_eq_none (by omega)]; rfl
  rw [h1]
  clear h1 hl
  induction l with
  | nil => rfl
  | cons b r ih => simp [ih]
def litB (b : UInt8) : Lit := .int .u8 (b.toNat : Int)
theorem litB_inj {x y : List UInt8} : x.map litB = y.map litB ↔ x = y := by
  constructor
  · intro h
    exact (List.map_inj_right (fun a b e => by unfold litB at e; injection e with _ e; exact UInt8.toNat_inj.1 (by omega))).1 h
  · rintro rfl; rfl
theorem keys_hash {T : TypeId} (hu : Tryd.prog.underlying T = some (.array 32 5)) (hc : Tryd.prog.cellsOf T = 32) (x : List UInt8) (hx : x.length = 32) : Tryd.prog.keyLits 2 T (x.map vu8) = some (x.map litB) := by
  unfold Program.keyLits
  rw [hu]
  have h1 : Tryd.prog.cellsOf 5 = 1 := by kernel_rfl
  simp only [hc, List.length_map, hx, if_true, h1]
  rw [mapM_some (g := fun i => [litB (x[i]?.getD 0)]) (fun i hi => keys_bytes x 32 hx i (List.mem_range.1 hi))]
  simp only [Option.map_some]
  rw [range_map x 32 hx litB]
set_option maxRecDepth 100000 in
theorem eq_hash {T : TypeId} (hu : Tryd.prog.underlying T = some (.array 32 5)) (hc : Tryd.prog.cellsOf T = 32) (hk : Tryd.prog.keyTypeAt 2 T = true) (xs ys : Array Value) (x y : List UInt8) (hx : xs.toList = x.map vu8) (hy : ys.toList = y.map vu8) (lx : x.length = 32) (ly : y.length = 32) (W : World) :
    (Op.equalIn 10000 T (.agg xs) (.agg ys)).run Tryd.prog W = .ok (x == y) W := by
  have sx : xs.size = 32 := by rw [← Array.length_toList, hx, List.length_map, lx]
  have sy : ys.size = 32 := by rw [← Array.length_toList, hy, List.length_map, ly]
  obtain ⟨r, hr, hi⟩ := run_equalIn_deep (P := Tryd.prog) 9998 2 T hk W 2 2 (.agg xs) (.agg ys) (x.map litB) (y.map litB)
    (by simp [Value.formed, hu, hc, sx]) (by simp [Value.formed, hu, hc, sy]) (by rw [show (Value.agg xs).cells = xs from rfl, hx]; exact keys_hash hu hc x lx) (by rw [show (Value.agg ys).cells = ys from rfl, hy]; exact keys_hash hu hc y ly)
  have hr' : (Op.equalIn 10000 T (.agg xs) (.agg ys)).run Tryd.prog W = .ok r W := hr
  rw [hr']
  congr 1
  rw [Bool.eq_iff_iff, hi, litB_inj]
  simp
theorem hash_u : Tryd.prog.underlying 52 = some (.array 32 5) := Tryd.underlying52
theorem hash_c : Tryd.prog.cellsOf 52 = 32 := by kernel_rfl
theorem hash_k : Tryd.prog.keyTypeAt 2 52 = true := by kernel_rfl
def zA : Array Value := #[.int .u8 0, .int .u8 0, .int .u8 0, .int .u8 0, .int .u8 0, .int .u8 0, .int .u8 0, .int .u8 0, .int .u8 0, .int .u8 0, .int .u8 0, .int .u8 0, .int .u8 0, .int .u8 0, .int .u8 0, .int .u8 0, .int .u8 0, .int .u8 0, .int .u8 0, .int .u8 0, .int .u8 0, .int .u8 0, .int .u8 0, .int .u8 0, .int .u8 0, .int .u8 0, .int .u8 0, .int .u8 0, .int .u8 0, .int .u8 0, .int .u8 0, .int .u8 0]
theorem zA_list : zA.toList = Z32.map vu8 := by rfl
set_option maxHeartbeats 1000000 in
set_option maxRecDepth 100000 in
theorem WHash_calls (w : World) (pb : Nat) (l : List UInt8) (h : Wr w pb l) (ti : Int) (t : UInt8) (ht : ti = (t.toNat : Int)) (cs : Array Value) (x : List UInt8) (hc : cs.toList = x.map vu8) (hx : x.length = 32) (hs : l.length ≤ 1000000) :
    Calls Tryd.prog 93 #[.pointer (some ⟨pb, 0, none⟩), .int .u8 ti, .agg cs] w fun e w' => e = .returned (.tuple #[]) ∧ Fact (Wr w' pb (putH l t x)) ∧ Below pb w w' := by
  have HW := Fact.mk h
  have HP := Fact.mk h.1
  have HT := Fact.mk ht
  have HC := Fact.mk hc
  have HX := Fact.mk hx
  have HS := Fact.mk hs
  have heq := eq_hash hash_u hash_c hash_k cs zA x Z32 hc zA_list hx Z32_len
  have hlen : cs.toList.length = 32 := by rw [hc, List.length_map, hx]
  have HI : Fact ((Tryd.prog.info? 52).map (·.size) = some cs.size) := ⟨by rw [← Array.length_toList, hlen]; kernel_rfl⟩
  unfold zA at heq
  clear h ht hc hx hs hlen
  by_cases hzz : x = Z32
  · have hb : (x == Z32) = true := by simpa using hzz
    rw [hb] at heq
    have HZ := Fact.mk hzz
    clear hzz hb
    go_enter Tryd.func93, Tryd.ntmps93
    go_wp2_with (refine wpList_load_row rfl 52 (.tmp 5) rfl w.heap.size rfl 52 cs (0, 0) _ (heap_alloc_new w _) hash_u rfl HI.out ?_)
    go_end0
    refine ⟨rfl, ⟨?_⟩, (Below.refl _ _).alloc (Nat.le_of_lt HP.out) _⟩
    unfold putH
    rw [if_pos HZ.out]
    exact HW.out.move ((Below.refl _ _).alloc (Nat.le_refl _) _)
  · have hb : (x == Z32) = false := by simpa using hzz
    rw [hb] at heq
    have HZ := Fact.mk hzz
    clear hzz hb
    go_enter Tryd.func93, Tryd.ntmps93
    go_wp2_with (first
      | (go_at_call 98; fail)
      | (refine wpList_load_row rfl 52 (.tmp 5) rfl w.heap.size rfl 52 cs (0, 0) _ (heap_alloc_new w _) hash_u rfl HI.out ?_))
    refine (WBytes_calls _ pb l (HW.out.move ((Below.refl _ _).alloc (Nat.le_refl _) _)) ti t HT.out _ _ _ _ x (Sl.boxB w _ HC.out HX.out (by omega)) (fun k hk => by subst hk; simp) (by omega) HS.out).mono ?_
    rintro e w2 ⟨rfl, hw, hb2⟩
    have HB2 := Fact.mk hb2
    clear hb2
    go_wp2_with fail
    go_end0
    refine ⟨rfl, ⟨?_⟩, ((Below.refl _ _).alloc (Nat.le_of_lt HP.out) _).trans HB2.out⟩
    unfold putH
    rw [if_neg HZ.out]
    exact hw.out
end Go.Proofs.YtkmcjokoinoahaaDoor.ParcelA
