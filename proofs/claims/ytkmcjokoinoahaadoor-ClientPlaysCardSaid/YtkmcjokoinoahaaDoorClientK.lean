/- client.Update: a contract over any world. -/
import Derived.Test.YtkmcjokoinoahaaDoorClientJ
set_option linter.unusedVariables false
set_option linter.unusedSimpArgs false
namespace Go.Proofs.YtkmcjokoinoahaaDoor.ClientK
open Go.RowKit Go.Proofs.YtkmcjokoinoahaaDoor.Lib Go.Proofs.YtkmcjokoinoahaaDoor.LibB Go.Proofs.YtkmcjokoinoahaaDoor.Reg Go.Proofs.YtkmcjokoinoahaaDoor.RegC Go.Proofs.YtkmcjokoinoahaaDoor.RegD Go.Proofs.YtkmcjokoinoahaaDoor.PlainS Go.Proofs.YtkmcjokoinoahaaDoor.ShaB Go.Proofs.YtkmcjokoinoahaaDoor.ShaC Go.Proofs.YtkmcjokoinoahaaDoor.ShaD Go.Proofs.YtkmcjokoinoahaaDoor.ShaDS Go.Proofs.YtkmcjokoinoahaaDoor.ShaE Go.Proofs.YtkmcjokoinoahaaDoor.PlainP Go.Proofs.YtkmcjokoinoahaaDoor.ParcelB Go.Proofs.YtkmcjokoinoahaaDoor.SealA Go.Proofs.YtkmcjokoinoahaaDoor.SealB Go.Proofs.YtkmcjokoinoahaaDoor.ClientA Go.Proofs.YtkmcjokoinoahaaDoor.ClientB Go.Proofs.YtkmcjokoinoahaaDoor.ClientC Go.Proofs.YtkmcjokoinoahaaDoor.ClientD Go.Proofs.YtkmcjokoinoahaaDoor.ClientE Go.Proofs.YtkmcjokoinoahaaDoor.ClientF Go.Proofs.YtkmcjokoinoahaaDoor.ClientG Go.Proofs.YtkmcjokoinoahaaDoor.ClientH Go.Proofs.YtkmcjokoinoahaaDoor.ClientI Go.Proofs.YtkmcjokoinoahaaDoor.ClientJ Go.Proofs.YtkmcjokoinoahaaDoor.RefD Go.Proofs.YtkmcjokoinoahaaDoor.FaultB Go.Proofs.YtkmcjokoinoahaaDoor.FaultC Go.Proofs.YtkmcjokoinoahaaDoor.FaultD
/-- A client whose row lies in block g. -/
def Cg (w : World) (B cb g p : Nat) (l : List Stt) (fz : Bool) : Prop :=
  B ≤ cb ∧ cb < w.heap.size ∧ ∃ c, w.heap[cb]? = some (.cells #[.int .u64 (p : Int), .slice (some ⟨g, 0, none⟩) l.length c, .bool fz] 126 (0, 0)) ∧ Ow rSt 122 w B (fun _ => False) (.slice (some ⟨g, 0, none⟩) l.length c) l ∧ g ≠ cb
theorem Cg.cl {w : World} {B cb g p : Nat} {l : List Stt} {fz : Bool} (h : Cg w B cb g p l fz) : Cl w B cb p l fz := by
  obtain ⟨h1, h2, c, hr, ho, hn⟩ := h
  exact ⟨h1, h2, _, hr, ho, by simpa [Value.ownBlock] using hn⟩
theorem Cl.cg {w : World} {B cb p : Nat} {l : List Stt} {fz : Bool} (h : Cl w B cb p l fz) (hl : 0 < l.length) : ∃ g, Cg w B cb g p l fz := by
  obtain ⟨h1, h2, v, hr, ⟨cells, ho, he⟩, hn⟩ := h
  rcases ho.2 with ⟨-, h0⟩ | ⟨g, cap, cur, rfl, -⟩
  · omega
  · exact ⟨g, h1, h2, cap, hr, ⟨cells, ho, he⟩, fun e => hn (by simp [Value.ownBlock, e])⟩
theorem Cg.lt {w : World} {B cb g p : Nat} {l : List Stt} {fz : Bool} (h : Cg w B cb g p l fz) : B ≤ g ∧ g < w.heap.size := by
  obtain ⟨h1, h2, c, hr, ho, hn⟩ := h
  exact ho.lt g (by simp [Value.ownBlock])
theorem Cg.move {w w' : World} {B cb g p : Nat} {l : List Stt} {fz : Bool} (h : Cg w B cb g p l fz) (h1 : w'.heap[cb]? = w.heap[cb]?) (h2 : w'.heap[g]? = w.heap[g]?) (hs : w.heap.size ≤ w'.heap.size) : Cg w' B cb g p l fz := by
  obtain ⟨a1, a2, c, hr, ho, hn⟩ := h
  exact ⟨a1, Nat.lt_of_lt_of_le a2 hs, c, h1.trans hr, ho.move (fun _ h => h.elim) (fun k hk => by
    have : g = k := by simpa [Value.ownBlock] using hk
    subst this; exact h2), hn⟩
theorem Cg.below {w w' : World} {B cb g p : Nat} {l : List Stt} {fz : Bool} (h : Cg w B cb g p l fz) (hb : Below w.heap.size w w') : Cg w' B cb g p l fz := h.move (hb.block _ h.2.1) (hb.block _ h.lt.2) hb.size
theorem Cg.row {w : World} {B cb g p : Nat} {l : List Stt} {fz : Bool} (h : Cg w B cb g p l fz) :
    ∃ c, w.heap[cb]? = some (.cells #[.int .u64 (p : Int), .slice (some ⟨g, 0, none⟩) l.length c, .bool fz] 126 (0, 0)) ∧ l.length ≤ c ∧ c ≤ 9223372036854775807 ∧ ∀ i s, l[i]? = some s → s.ok ∧ w.rangeAt g (i * 98) (stC s) := by
  obtain ⟨h1, h2, c, hr, ⟨cells, ho, he⟩, hn⟩ := h
  have hcells := fun g hv => ho.cells (g := g) hv
  rcases ho.2 with ⟨h0, -⟩ | ⟨g2, cap, cur, hv, hg, hh, hnc, hcm, -, -⟩
  · cases h0
  injection hv with e1 e2 e3
  subst e3
  refine ⟨c, hr, hnc, by simpa [maxLen] using hcm, fun i s hi => ?_⟩
  have hk : (cells.drop (i * 98)).take 98 = stC s ∧ s.ok := he.2 i s hi
  refine ⟨hk.2, fun j v hj => ?_⟩
  rw [← hk.1, List.getElem?_take] at hj
  split at hj
  · rw [List.getElem?_drop] at hj
    have := hcells g rfl _ v hj
    rwa [add_plain'] at this
  · cases hj
/-- Of the old blocks, cb and g alone may have turned. -/
structure Mod (cb g : Nat) (w w' : World) : Prop where
  os : w'.os = w.os
  tape : w'.tape = w.tape
  output : w'.output = w.output
  size : w.heap.size ≤ w'.heap.size
  block : ∀ k, k < w.heap.size → k ≠ cb → k ≠ g → w'.heap[k]? = w.heap[k]?
theorem Mod.of_below {cb g : Nat} {w w' : World} (h : Below w.heap.size w w') : Mod cb g w w' := ⟨h.os, h.tape, h.output, h.size, fun k hk _ _ => h.block k hk⟩
theorem Mod.below {cb g B : Nat} {w w' : World} (h : Mod cb g w w') (hB : B ≤ w.heap.size) (h1 : B ≤ cb) (h2 : B ≤ g) : Below B w w' := ⟨h.os, h.tape, h.output, h.size, fun k hk => h.block k (by omega) (by omega) (by omega)⟩
theorem Mod.trans {cb g g' : Nat} {a b c : World} (h : Mod cb g a b) (k : Mod cb g' b c) (hg : g' = g ∨ a.heap.size ≤ g') : Mod cb g a c :=
  ⟨k.os.trans h.os, k.tape.trans h.tape, k.output.trans h.output, Nat.le_trans h.size k.size, fun i hi h1 h2 => (k.block i (Nat.lt_of_lt_of_le hi h.size) h1 (by rcases hg with rfl | hg <;> omega)).trans (h.block i hi h1 h2)⟩
theorem Mod.grown {cb g : Nat} {a b c : World} {v : Value} (h : Mod cb g a b) (k : b.grownBy c v.ownBlock) (hg : v.ownBlock = some g ∨ ∀ i, v.ownBlock = some i → a.heap.size ≤ i) : Mod cb g a c :=
  ⟨k.os.trans h.os, k.tape.trans h.tape, k.output.trans h.output, Nat.le_trans h.size k.size, fun i hi h1 h2 => (k.block i (Nat.lt_of_lt_of_le hi h.size) (by
    intro e
    rcases hg with hg | hg
    · rw [hg] at e; injection e with e; exact h2 e
    · have := hg i e.symm; omega)).trans (h.block i hi h1 h2)⟩
theorem Mod.setCell {cb g : Nat} {a b : World} (h : Mod cb g a b) (o : Nat) (v : Value) : Mod cb g a (b.setCell ⟨cb, o, none⟩ v) := by
  have hb := (Below.refl cb b).setCell (p := ⟨cb, o, none⟩) (Nat.le_refl _) v
  exact ⟨hb.os.trans h.os, hb.tape.trans h.tape, hb.output.trans h.output, Nat.le_trans h.size hb.size, fun i hi h1 h2 => (heap_setCell_other _ _ _ _ h1).trans (h.block i hi h1 h2)⟩
def pushM (l : List Stt) (x : Stt) : List Stt := if 16 < l.length + 1 then (l ++ [x]).drop 1 else l ++ [x]
/-- A new list is stored. -/
theorem Cg.put {w : World} {B cb p : Nat} {v v1 : Value} {fz : Bool} {xs : List Stt} (hr : w.heap[cb]? = some (.cells #[.int .u64 (p : Int), v, .bool fz] 126 (0, 0))) (hB : B ≤ cb) (ho : Ow rSt 122 w B (fun _ => False) v1 xs) (hn : v1.ownBlock ≠ some cb) (hx : 0 < xs.length) :
    ∃ g1 c1, v1 = .slice (some ⟨g1, 0, none⟩) xs.length c1 ∧ g1 ≠ cb ∧ Cg (w.setCell ⟨cb, 1, none⟩ v1) B cb g1 p xs fz := by
  have hlt : cb < w.heap.size := (Array.getElem?_eq_some_iff.1 hr).1
  obtain ⟨cells, h1, h2⟩ := ho
  rcases h1.2 with ⟨-, h0⟩ | ⟨g1, c1, cur, rfl, -⟩
  · omega
  have hg : g1 ≠ cb := fun e => hn (by simp [Value.ownBlock, e])
  refine ⟨g1, c1, rfl, hg, hB, by simpa using hlt, c1, ?_, ?_, hg⟩
  · have := heap_setCell_same w cb 1 _ _ (.slice (some ⟨g1, 0, none⟩) xs.length c1) hr
    simpa using this
  · have ho : Ow rSt 122 w B (fun _ => False) (.slice (some ⟨g1, 0, none⟩) xs.length c1) xs := ⟨cells, h1, h2⟩
    refine ho.move (fun _ h => h.elim) (fun k hk => ?_)
    have : g1 = k := by simpa [Value.ownBlock] using hk
    subst this
    exact heap_setCell_other _ _ _ _ hg
theorem st_next {w : World} {b : Nat} {ds : Array Value} {s : Stt} (hk : s.ok) (hds : ds.toList = stC s) (hr : w.heap[b]? = some (.cells ds 122 (0, 0))) : w.rangeAt b 34 (s.next.map vu8) := by
  intro j v hj
  refine row_cell hr ?_
  rw [← Array.getElem?_toList, hds]
  have hlt : j < (s.next.map vu8).length := (List.getElem?_eq_some_iff.1 hj).1
  have hl : (s.root.map vu8).length = 32 := by rw [List.length_map, hk.root]
  unfold stC
  rw [List.getElem?_append_right (by simp; omega), List.getElem?_append_right (by rw [hl]; simp; omega)]
  rw [show 34 + j - [Value.int .u64 (s.ht : Int), .int .u64 (s.tm : Int)].length - (s.root.map vu8).length = j by rw [hl]; simp; omega, List.getElem?_append_left hlt]
  exact hj
theorem st_all {w : World} {b : Nat} {ds : Array Value} {s : Stt} (hk : s.ok) (hds : ds.toList = stC s) (hr : w.heap[b]? = some (.cells ds 122 (0, 0))) : w.rangeAt b 66 (s.all.map vu8) := by
  intro j v hj
  refine row_cell hr ?_
  rw [← Array.getElem?_toList, hds]
  have hl : (s.root.map vu8).length = 32 := by rw [List.length_map, hk.root]
  have hl2 : (s.next.map vu8).length = 32 := by rw [List.length_map, hk.next]
  unfold stC
  rw [List.getElem?_append_right (by simp; omega), List.getElem?_append_right (by rw [hl]; simp; omega), List.getElem?_append_right (by rw [hl, hl2]; simp; omega)]
  rw [show 66 + j - [Value.int .u64 (s.ht : Int), .int .u64 (s.tm : Int)].length - (s.root.map vu8).length - (s.next.map vu8).length = j by rw [hl, hl2]; simp; omega]
  exact hj
theorem Cg.freeze {w : World} {B cb g p : Nat} {l : List Stt} {fz : Bool} (h : Cg w B cb g p l fz) : Cg (w.setCell ⟨cb, 2, none⟩ (.bool true)) B cb g p l true := by
  obtain ⟨h1, h2, c, hr, ho, hn⟩ := h
  refine ⟨h1, by simpa using h2, c, ?_, ?_, hn⟩
  · have := heap_setCell_same w cb 2 _ _ (.bool true) hr
    simpa using this
  · refine ho.move (fun _ h => h.elim) (fun k hk => ?_)
    have : g = k := by simpa [Value.ownBlock] using hk
    subst this
    exact heap_setCell_other _ _ _ _ hn
/-- What Update answers, and what it leaves. -/
def updM (p : Nat) (l : List Stt) (fz : Bool) (s : Stt) (h : Hd) (now : Nat) : Int × List Stt × Bool :=
  if statE fz p s now ≠ 0 then (statE fz p s now, l, fz)
  else if h.sel ≠ shaL (sealB h) then (35, l, fz)
  else match l.find? (qE h.ht) with
    | some o => if o.all = h.sel then (0, l, fz) else (0, l, true)
    | none => if h.ht < s.ht ∨ 1099511627776 < h.ht then (32, l, fz)
      else if h.tm ≤ s.tm ∨ 1099511627776 < h.tm then (33, l, fz)
      else if h.vals ≠ s.next then (34, l, fz)
      else (0, pushM l (ofH h), fz)
set_option maxHeartbeats 8000000 in
set_option maxRecDepth 100000 in
theorem Update_calls (w : World) (B cb g p : Nat) (l : List Stt) (fz : Bool) (hc : Cg w B cb g p l fz) (m : Nat) (hm : l.length = m + 1) (hm2 : m ≤ 1000) (s : Stt) (hs : l[m]? = some s) (h : Hd) (hk : h.ok) (cs : Array Value) (hcs : cs.toList = hdC h) (now : Nat) (hn : now < 18446744073709551616) (hg : LaidW w) (h1 : 3 < w.heap.size) :
    Calls Tryd.prog 33 #[.pointer (some ⟨cb, 0, none⟩), .agg cs, .int .u64 (now : Int)] w fun e w' => ∃ v g', e = .returned v ∧ Fact (Er w.heap.size v w' (updM p l fz s h now).1) ∧ Fact (Cg w' B cb g' p (updM p l fz s h now).2.1 (updM p l fz s h now).2.2) ∧ Fact (g' = g ∨ w.heap.size ≤ g') ∧ Fact (Mod cb g w w') := by
  have HC := Fact.mk hc
  have HM := Fact.mk hm
  have HS := Fact.mk hs
  have HK := Fact.mk hk
  have HCS := Fact.mk hcs
  have HG := Fact.mk hg
  have H1 := Fact.mk h1
  have HN : Fact (cs.size = 130) := ⟨by rw [← Array.length_toList, hcs]; simp [hdC, hk.root, hk.vals, hk.next, hk.sel]⟩
  have HI : Fact ((Tryd.prog.info? 54).map (·.size) = some cs.size) := ⟨by rw [HN.out]; kernel_rfl⟩
  have HR0 : Fact ((w.alloc (.cells cs 54)).heap[w.heap.size]? = some (.cells cs 54 (0, 0))) := ⟨heap_alloc_new _ _⟩
  have HB0 : Fact (Below w.heap.size w (w.alloc (.cells cs 54))) := ⟨(Below.refl _ _).alloc (Nat.le_refl _) _⟩
  have HS0 : Fact ((w.alloc (.cells cs 54)).heap.size = w.heap.size + 1) := ⟨by simp⟩
  have HC0 : Fact (Cg (w.alloc (.cells cs 54)) B cb g p l fz) := ⟨hc.below HB0.out⟩
  clear hc hm hs hk hcs hg h1
  go_enter Tryd.func33, Tryd.ntmps33
  go_wp2_with (go_at_call 36; fail)
  generalize w.alloc (.cells cs 54) = w1 at HR0 HB0 HS0 HC0 ⊢
  refine (Status_calls w1 B cb p l fz HC0.out.cl m HM.out s HS.out now hn).mono ?_
  rintro e w2 ⟨v, rfl, he, hb2⟩
  have HB2 : Fact (Below w.heap.size w w2) := ⟨HB0.out.trans (hb2.mono HB0.out.size)⟩
  have HR2 : Fact (w2.heap[w.heap.size]? = some (.cells cs 54 (0, 0))) := ⟨(hb2.block _ (by have := HS0.out; omega)).trans HR0.out⟩
  have HS2 : Fact (w.heap.size < w2.heap.size) := ⟨by have := HS0.out; have := hb2.size; omega⟩
  clear hb2 HR0
  rcases Int.decEq (statE fz p s now) 0 with hz | hz
  · have HU : Fact (updM p l fz s h now = (statE fz p s now, l, fz)) := ⟨by unfold updM; rw [if_pos hz]⟩
    obtain ⟨h0, -⟩ | ⟨-, b, st, n, hbb, rfl, hi⟩ := he.out
    · exact absurd h0 hz
    have en := neq_nil (.step b st n (.num (statE fz p s now)))
    have gn := guard_neq (.step b st n (.num (statE fz p s now)))
    have HE := Fact.mk (he.out.low HB0.out.size)
    clear he hi hbb hz
    generalize vOf (.step b st n (.num (statE fz p s now))) = v at en gn HE ⊢
    go_wp2_with fail
    go_ret
    rw [HU.out]
    exact ⟨v, g, rfl, HE, ⟨HC.out.below HB2.out⟩, ⟨.inl rfl⟩, ⟨Mod.of_below HB2.out⟩⟩
  obtain ⟨-, rfl⟩ | ⟨h0, -⟩ := he.out
  rotate_left
  · exact absurd hz h0
  have HZ := Fact.mk hz
  clear he hz HB0 HS0 HC0
  have HC2 : Fact (Cg w2 B cb g p l fz) := ⟨HC.out.below HB2.out⟩
  go_wp2_with fail
  have HP : Fact (∀ W, Below (w.heap.size + 1) w2 W → W.cell? ⟨w.heap.size, 0, none⟩ = some (.int .u64 (h.ht : Int)) ∧ W.cell? ⟨w.heap.size, 1, none⟩ = some (.int .u64 (h.tm : Int)) ∧ W.rangeAt w.heap.size 2 (h.root.map vu8) ∧ W.rangeAt w.heap.size 34 (h.vals.map vu8) ∧ W.rangeAt w.heap.size 66 (h.next.map vu8) ∧ W.rangeAt w.heap.size 98 (h.sel.map vu8)) := ⟨fun W hS => hd_parts HK.out HCS.out ((hS.block _ (by omega)).trans HR2.out)⟩
  obtain ⟨ct, hct⟩ : ∃ ct : Array Value, ct = (h.sel.map vu8).toArray := ⟨_, rfl⟩
  obtain ⟨cv, hcv⟩ : ∃ cv : Array Value, cv = (h.vals.map vu8).toArray := ⟨_, rfl⟩
  have HCT : Fact (ct.toList = h.sel.map vu8) := ⟨by rw [hct]⟩
  have HCV : Fact (cv.toList = h.vals.map vu8) := ⟨by rw [hcv]⟩
  have HLT : Fact (∀ W, Below (w.heap.size + 1) w2 W → (Instr.loadAt 52 (.pointer (some ⟨w.heap.size, 98, none⟩))).run Tryd.prog W = .ok (.agg ct) W) := ⟨fun W hS => by rw [hct]; exact load_hash HK.out.sel (HP.out W hS).2.2.2.2.2⟩
  have HLV : Fact (∀ W, Below (w.heap.size + 1) w2 W → (Instr.loadAt 52 (.pointer (some ⟨w.heap.size, 34, none⟩))).run Tryd.prog W = .ok (.agg cv) W) := ⟨fun W hS => by rw [hcv]; exact load_hash HK.out.vals (HP.out W hS).2.2.2.1⟩
  clear hct hcv
  refine wp_region_P (fun W => Below (w.heap.size + 1) w2 W) (.tell 0 (.tell 1 (.tell 2 (.one 3 (.tell 4 .done))))) (by kernel_rfl) (by kernel_rfl) (by kernel_rfl) (by intro c a d v w h; cases d <;> exact h) (Below.refl _ _).drew ?_
  have HS5 : Fact (Below (w.heap.size + 1) w2 w2.drew) := ⟨(Below.refl _ _).drew⟩
  have HB5 : Fact (Below w2.heap.size w2 w2.drew) := ⟨(Below.refl _ _).drew⟩
  generalize w2.drew = wd at HS5 HB5 ⊢
  refine plan_tell rfl rfl (fun W hS => by
    go_simp
    first | done | rfl) ?_
  simp only [List.getElem_toArray, List.getElem_cons_succ, List.getElem_cons_zero, Act.put, List.setIfInBounds_toArray, List.set_cons_succ, List.set_cons_zero]
  refine plan_tell rfl rfl (v := .agg ct) (fun W hS => exec_loadAt rfl rfl (HLT.out W hS)) ?_
  simp only [List.getElem_toArray, List.getElem_cons_succ, List.getElem_cons_zero, Act.put, List.setIfInBounds_toArray, List.set_cons_succ, List.set_cons_zero]
  refine plan_tell rfl rfl (v := .agg cs) (fun W hS => exec_loadRow (g := w.heap.size) rfl rfl ((hS.block _ (by omega)).trans HR2.out) Tryd.underlying54 rfl HI.out) ?_
  simp only [List.getElem_toArray, List.getElem_cons_succ, List.getElem_cons_zero, Act.put, List.setIfInBounds_toArray, List.set_cons_succ, List.set_cons_zero]
  refine turn_call (f := 69) (args := #[.agg cs]) rfl rfl rfl Tryd.func69 (by kernel_rfl) rfl (by simp only [List.map_toArray, List.map_cons, List.map_nil]; rfl) ?_
  refine (Seal_calls wd h HK.out cs HCS.out (laid_move HG.out (HB2.out.trans (HB5.out.mono HB2.out.size)) H1.out) (by have := HB5.out.size; have := HB2.out.size; have := H1.out; omega)).mono ?_
  rintro e w3 ⟨⟨cs3, rfl, hc3⟩, hb3⟩
  have HB3 : Fact (Below w2.heap.size w2 w3) := ⟨HB5.out.trans (hb3.mono HB5.out.size)⟩
  have heq := eq_hash hash_u hash_c hash_k ct cs3 h.sel (shaL (sealB h)) HCT.out hc3.out HK.out.sel (sha_len _)
  clear hb3 hc3 HS5 HB5
  refine ⟨_, rfl, HB3.out.mono HS2.out, ?_⟩
  simp only [List.getElem_toArray, List.getElem_cons_succ, List.getElem_cons_zero, Act.put, List.setIfInBounds_toArray, List.set_cons_succ, List.set_cons_zero]
  obtain ⟨bs, hbs⟩ : ∃ bs, (h.sel == shaL (sealB h)) = bs := ⟨_, rfl⟩
  rw [hbs] at heq
  refine plan_tell rfl rfl (v := .bool (!bs)) (fun W hS => by
    have hq := heq W
    go_simp
    first | done | rfl) ?_
  simp only [List.getElem_toArray, List.getElem_cons_succ, List.getElem_cons_zero, Act.put, List.setIfInBounds_toArray, List.set_cons_succ, List.set_cons_zero]
  have HBW3 : Fact (Below w.heap.size w w3) := ⟨HB2.out.trans (HB3.out.mono HB2.out.size)⟩
  have HC3 : Fact (Cg w3 B cb g p l fz) := ⟨HC.out.below HBW3.out⟩
  have HBS := Fact.mk hbs
  clear heq hbs
  unfold wpPlan
  cases bs with
  | false =>
    have HU : Fact (updM p l fz s h now = (35, l, fz)) := ⟨by
      unfold updM
      rw [if_neg (fun e => e HZ.out), if_pos]
      simpa using HBS.out⟩
    go_wp2_with (go_at_call 23; fail)
    refine (At_num w3 _ _ 35 (by decide)).mono ?_
    rintro ev w4 ⟨v, rfl, he, hb⟩
    have HE := Fact.mk (he.out.low HBW3.out.size)
    have HB4 : Fact (Below w.heap.size w w4) := ⟨HBW3.out.trans (hb.mono HBW3.out.size)⟩
    clear hb he
    go_wp2_with fail
    go_ret
    rw [HU.out]
    exact ⟨v, g, rfl, HE, ⟨HC.out.below HB4.out⟩, ⟨.inl rfl⟩, ⟨Mod.of_below HB4.out⟩⟩
  | true =>
  have HSEL : Fact (h.sel = shaL (sealB h)) := ⟨by simpa using HBS.out⟩
  go_wp2_with fail
  obtain ⟨c, hr, hlc, hcm, hrow⟩ := HC3.out.row
  rw [HM.out] at hr hlc
  have hgl := HC3.out.lt
  have hcl : cb < w3.heap.size := HC3.out.2.1
  have C1 : Fact (∀ W, Below w3.heap.size w3 W → W.cell? ⟨cb, 1, none⟩ = some (.slice (some ⟨g, 0, none⟩) (m + 1) c)) := ⟨fun W hW => row_cell ((hW.block _ hcl).trans hr) rfl⟩
  obtain ⟨dl, hdl⟩ : ∃ dl : Array Value, dl = (stC s).toArray := ⟨_, rfl⟩
  have HDL : Fact (dl.toList = stC s) := ⟨by rw [hdl]⟩
  have HSO : Fact s.ok := ⟨(hrow m s HS.out).1⟩
  have HLS : Fact (∀ W, Below w3.heap.size w3 W → (Instr.loadAt 122 (.pointer (some ⟨g, m * 98, none⟩))).run Tryd.prog W = .ok (.agg dl) W) := ⟨fun W hW => load_row HSO.out (range_below (hrow m s HS.out).2 hW hgl.2) HDL.out⟩
  have HLI : Fact ((Tryd.prog.info? 122).map (·.size) = some dl.size) := ⟨infoA HDL.out HSO.out⟩
  have HLZ : Fact (zStA.size = dl.size) := ⟨by rw [zStA_size, sizeA HDL.out HSO.out]⟩
  have hap : (⟨g, 0, none⟩ : Addr).add (m * 98) = ⟨g, m * 98, none⟩ := add_plain' _ _
  have hwm : IntKind.i64.wrap (m : Int) = m := by rw [IntKind.wrap_i64]; omega
  have e1 : (((m + 1 : Nat) : Int)) - 1 = (m : Int) := by omega
  have e2 : (m : Int) < (m : Int) + 1 := by omega
  have HLC := Fact.mk hlc
  have HCM := Fact.mk hcm
  clear hdl hr hrow hlc hcm
  refine wp_region_P (fun W => Below w3.heap.size w3 W) (.tell 0 (.tell 1 (.tell 2 (.tell 3 (.tell 4 (.tell 5 (.tell 6 (.tell 7 (.tell 8 (.tell 9 (.tell 10 (.tell 11 (.one 12 (.one 13 .done)))))))))))))) (by kernel_rfl) (by kernel_rfl) (by kernel_rfl) (by intro c a d v w h; cases d <;> exact h) (Below.refl _ _).drew ?_
  refine plan_tell rfl rfl (fun W hS => by
    have a1 := C1.out W hS
    go_simp
    first | done | rfl) ?_
  simp only [List.getElem_toArray, List.getElem_cons_succ, List.getElem_cons_zero, Act.put, List.setIfInBounds_toArray, List.set_cons_succ, List.set_cons_zero]
  refine plan_tell rfl rfl (fun W hS => by
    have a1 := C1.out W hS
    go_simp
    first | done | rfl) ?_
  simp only [List.getElem_toArray, List.getElem_cons_succ, List.getElem_cons_zero, Act.put, List.setIfInBounds_toArray, List.set_cons_succ, List.set_cons_zero]
  refine plan_tell rfl rfl (fun W hS => by
    have a1 := C1.out W hS
    go_simp
    first | done | rfl) ?_
  simp only [List.getElem_toArray, List.getElem_cons_succ, List.getElem_cons_zero, Act.put, List.setIfInBounds_toArray, List.set_cons_succ, List.set_cons_zero]
  refine plan_tell rfl rfl (fun W hS => by
    have a1 := C1.out W hS
    go_simp
    first | done | rfl) ?_
  simp only [List.getElem_toArray, List.getElem_cons_succ, List.getElem_cons_zero, Act.put, List.setIfInBounds_toArray, List.set_cons_succ, List.set_cons_zero]
  refine plan_tell rfl rfl (fun W hS => by
    have a1 := C1.out W hS
    go_simp
    first | done | rfl) ?_
  simp only [List.getElem_toArray, List.getElem_cons_succ, List.getElem_cons_zero, Act.put, List.setIfInBounds_toArray, List.set_cons_succ, List.set_cons_zero]
  refine plan_tell rfl rfl (fun W hS => by
    have a1 := C1.out W hS
    go_simp
    first | done | rfl) ?_
  simp only [List.getElem_toArray, List.getElem_cons_succ, List.getElem_cons_zero, Act.put, List.setIfInBounds_toArray, List.set_cons_succ, List.set_cons_zero]
  refine plan_tell rfl rfl (fun W hS => by
    have a1 := C1.out W hS
    go_simp
    first | done | rfl) ?_
  simp only [List.getElem_toArray, List.getElem_cons_succ, List.getElem_cons_zero, Act.put, List.setIfInBounds_toArray, List.set_cons_succ, List.set_cons_zero]
  refine plan_tell rfl rfl (fun W hS => by
    have a1 := C1.out W hS
    go_simp
    first | done | rfl) ?_
  simp only [List.getElem_toArray, List.getElem_cons_succ, List.getElem_cons_zero, Act.put, List.setIfInBounds_toArray, List.set_cons_succ, List.set_cons_zero]
  refine plan_tell rfl rfl (fun W hS => by
    have a1 := C1.out W hS
    go_simp
    first | done | rfl) ?_
  simp only [List.getElem_toArray, List.getElem_cons_succ, List.getElem_cons_zero, Act.put, List.setIfInBounds_toArray, List.set_cons_succ, List.set_cons_zero]
  refine plan_tell rfl rfl (fun W hS => by
    have a1 := C1.out W hS
    go_simp
    first | done | rfl) ?_
  simp only [List.getElem_toArray, List.getElem_cons_succ, List.getElem_cons_zero, Act.put, List.setIfInBounds_toArray, List.set_cons_succ, List.set_cons_zero]
  refine plan_tell rfl rfl (fun W hS => by
    have a1 := C1.out W hS
    go_simp
    first | done | rfl) ?_
  simp only [List.getElem_toArray, List.getElem_cons_succ, List.getElem_cons_zero, Act.put, List.setIfInBounds_toArray, List.set_cons_succ, List.set_cons_zero]
  refine plan_tell rfl rfl (v := .agg dl) (fun W hS => exec_loadAt rfl rfl (HLS.out W hS)) ?_
  simp only [List.getElem_toArray, List.getElem_cons_succ, List.getElem_cons_zero, Act.put, List.setIfInBounds_toArray, List.set_cons_succ, List.set_cons_zero]
  have HBd : Fact (Below w3.heap.size w3 w3.drew) := ⟨(Below.refl _ _).drew⟩
  have HSd : Fact (w3.drew.heap.size = w3.heap.size) := ⟨rfl⟩
  generalize w3.drew = wd3 at HBd HSd ⊢
  have HA6 : Fact ((wd3.alloc (.cells zStA 122)).heap[wd3.heap.size]? = some (.cells zStA 122 (0, 0))) := ⟨heap_alloc_new _ _⟩
  have HR6 : Fact ((wd3.alloc (.cells dl 122)).heap[w3.heap.size]? = some (.cells dl 122 (0, 0))) := ⟨by rw [← HSd.out]; exact heap_alloc_new _ _⟩
  have HB6 : Fact (Below w3.heap.size w3 (wd3.alloc (.cells dl 122))) := ⟨HBd.out.alloc (by rw [HSd.out]; exact Nat.le_refl _) _⟩
  have HS6 : Fact ((wd3.alloc (.cells dl 122)).heap.size = w3.heap.size + 1) := ⟨by simp [HSd.out]⟩
  refine turn_do rfl rfl (ShaB.exec_alloc rfl (alloc_st _)) (HBd.out.alloc (by rw [HSd.out]; exact Nat.le_refl _) _) ?_
  simp only [List.getElem_toArray, List.getElem_cons_succ, List.getElem_cons_zero, Act.put, List.setIfInBounds_toArray, List.set_cons_succ, List.set_cons_zero]
  refine turn_mute rfl rfl (exec_storeRow (g := wd3.heap.size) (old := zStA) (cells := dl) rfl rfl rfl HA6.out HLI.out HLZ.out (oneA HDL.out)) (by rw [World.setRow_alloc_new]; exact HB6.out) ?_
  rw [World.setRow_alloc_new]
  simp only [List.getElem_toArray, List.getElem_cons_succ, List.getElem_cons_zero, Act.put, List.setIfInBounds_toArray, List.set_cons_succ, List.set_cons_zero]
  rw [HSd.out]
  generalize wd3.alloc (.cells dl 122) = w6 at HR6 HB6 HS6 ⊢
  clear HA6 HBd HSd
  unfold wpPlan
  have HBW6 : Fact (Below w.heap.size w w6) := ⟨HBW3.out.trans (HB6.out.mono HBW3.out.size)⟩
  have HBX6 : Fact (Below (w.heap.size + 1) w2 w6) := ⟨(HB3.out.mono HS2.out).trans (HB6.out.mono (by have := HB3.out.size; have := HS2.out; omega))⟩
  have HC6 : Fact (Cg w6 B cb g p l fz) := ⟨HC.out.below HBW6.out⟩
  have p0 := (HP.out w6 HBX6.out).1
  go_wp2_with (go_at_call 70; fail)
  refine (at_calls w6 B cb p l fz HC6.out.cl (by rw [HM.out]; omega) (by rw [HM.out]; omega) h.ht).mono ?_
  rintro e w7 ⟨⟨va, rfl, hva⟩, hb7⟩
  have HB7 : Fact (Below w3.heap.size w3 w7) := ⟨HB6.out.trans (hb7.mono (by have := HS6.out; omega))⟩
  have HR7 : Fact (w7.heap[w3.heap.size]? = some (.cells dl 122 (0, 0))) := ⟨(hb7.block _ (by have := HS6.out; omega)).trans HR6.out⟩
  have HS7 : Fact (w3.heap.size < w7.heap.size) := ⟨by have := hb7.size; have := HS6.out; omega⟩
  have HBW7 : Fact (Below w.heap.size w w7) := ⟨HBW6.out.trans (hb7.mono HBW6.out.size)⟩
  have HBX7 : Fact (Below (w.heap.size + 1) w2 w7) := ⟨HBX6.out.trans (hb7.mono (by have := HBX6.out.size; have := HS2.out; omega))⟩
  clear hb7 p0 HR6 HB6 HS6 HC6
  have hcb7 : w7.heap[cb]? = some (.cells #[.int .u64 (p : Int), .slice (some ⟨g, 0, none⟩) (m + 1) c, .bool fz] 126 (0, 0)) := by
    obtain ⟨c', hr', -⟩ := (HC3.out.move (HB7.out.block _ hcl) (HB7.out.block _ hgl.2) HB7.out.size).row
    rw [HM.out] at hr'
    have h1 := row_cell (i := 1) hr' rfl
    rw [C1.out w7 HB7.out] at h1
    injection h1 with h1
    injection h1 with _ _ h1
    rw [h1]
    exact hr'
  have HCB7 := Fact.mk hcb7
  have HCG7 : Fact (Cg w7 B cb g p l fz) := ⟨HC.out.below HBW7.out⟩
  have hcl7 : cb < w7.heap.size := HCG7.out.2.1
  have hgl7 := HCG7.out.lt
  clear hcb7
  obtain ⟨o, da, rfl, hda, hko, hf⟩ | ⟨rfl, hf⟩ := hva.out
  · have HF := Fact.mk hf
    have HDA := Fact.mk hda
    have HKO := Fact.mk hko
    clear hf hda hko hva
    have HAI : Fact ((Tryd.prog.info? 122).map (·.size) = some da.size) := ⟨infoA HDA.out HKO.out⟩
    have HAZ : Fact (zStA.size = da.size) := ⟨by rw [zStA_size, sizeA HDA.out HKO.out]⟩
    have HA8 : Fact ((w7.alloc (.cells zStA 122)).heap[w7.heap.size]? = some (.cells zStA 122 (0, 0))) := ⟨heap_alloc_new _ _⟩
    have HR8 : Fact ((w7.alloc (.cells da 122)).heap[w7.heap.size]? = some (.cells da 122 (0, 0))) := ⟨heap_alloc_new _ _⟩
    obtain ⟨ca, hca⟩ : ∃ ca : Array Value, ca = (o.all.map vu8).toArray := ⟨_, rfl⟩
    have HCA : Fact (ca.toList = o.all.map vu8) := ⟨by rw [hca]⟩
    have HLA8 : Fact ((Instr.loadAt 52 (.pointer (some ⟨w7.heap.size, 66, none⟩))).run Tryd.prog (w7.alloc (.cells da 122)) = .ok (.agg ca) (w7.alloc (.cells da 122))) := ⟨by rw [hca]; exact load_hash HKO.out.all (st_all HKO.out HDA.out HR8.out)⟩
    have HLT8 : Fact ((Instr.loadAt 52 (.pointer (some ⟨w.heap.size, 98, none⟩))).run Tryd.prog (w7.alloc (.cells da 122)) = .ok (.agg ct) (w7.alloc (.cells da 122))) := ⟨HLT.out _ (HBX7.out.alloc (by have := HBX7.out.size; have := HS2.out; omega) _)⟩
    have HBW8 : Fact (Below w.heap.size w (w7.alloc (.cells da 122))) := ⟨HBW7.out.alloc HBW7.out.size _⟩
    have HCG8 : Fact (Cg (w7.alloc (.cells da 122)) B cb g p l fz) := ⟨HC.out.below HBW8.out⟩
    have heq := eq_hash hash_u hash_c hash_k ca ct o.all h.sel HCA.out HCT.out HKO.out.all HK.out.sel
    obtain ⟨bs, hbs⟩ : ∃ bs, (o.all == h.sel) = bs := ⟨_, rfl⟩
    rw [hbs] at heq
    clear hca
    cases bs with
    | true =>
      have HU : Fact (updM p l fz s h now = (0, l, fz)) := ⟨by
        unfold updM
        rw [if_neg (fun e => e HZ.out), if_neg (fun e => e HSEL.out), HF.out]
        simp only
        rw [if_pos (by simpa using hbs)]⟩
      clear hbs
      go_wp2_with (first
        | (refine wpList_ok rfl (ShaB.exec_alloc rfl (alloc_st _)) ?_)
        | (refine wpList_store_row rfl 122 (.tmp 9) (.tmp 41) rfl w7.heap.size da rfl rfl 122 zStA HA8.out HAI.out HAZ.out (oneA HDA.out) ?_
           rw [World.setRow_alloc_new])
        | (refine wpList_okG (o := ⟨some 47, _, _, _, _, _⟩) rfl (exec_loadAt rfl rfl HLA8.out) ?_)
        | (refine wpList_okG (o := ⟨some 49, _, _, _, _, _⟩) rfl (exec_loadAt rfl rfl HLT8.out) ?_))
      go_ret
      rw [HU.out]
      exact ⟨.nilIface, g, rfl, ⟨.inl ⟨rfl, rfl⟩⟩, HCG8, ⟨.inl rfl⟩, ⟨Mod.of_below HBW8.out⟩⟩
    | false =>
      have HU : Fact (updM p l fz s h now = (0, l, true)) := ⟨by
        unfold updM
        rw [if_neg (fun e => e HZ.out), if_neg (fun e => e HSEL.out), HF.out]
        simp only
        rw [if_neg (by simpa using hbs)]⟩
      clear hbs
      have k2 : (w7.alloc (.cells da 122)).cell? ⟨cb, 2, none⟩ = some (.bool fz) := row_cell ((Below.heap_alloc _ _ _ hcl7).trans HCB7.out) rfl
      have f2 : (w7.alloc (.cells da 122)).frozen? ⟨cb, 2, none⟩ = false := row_free ((Below.heap_alloc _ _ _ hcl7).trans HCB7.out)
      have k2' : w7.cell? ⟨cb, 2, none⟩ = some (.bool fz) := row_cell HCB7.out rfl
      have f2' : w7.frozen? ⟨cb, 2, none⟩ = false := row_free HCB7.out
      go_wp2_with (first
        | (refine wpList_ok rfl (ShaB.exec_alloc rfl (alloc_st _)) ?_)
        | (refine wpList_store_row rfl 122 (.tmp 9) (.tmp 41) rfl w7.heap.size da rfl rfl 122 zStA HA8.out HAI.out HAZ.out (oneA HDA.out) ?_
           rw [World.setRow_alloc_new])
        | (refine wpList_okG (o := ⟨some 47, _, _, _, _, _⟩) rfl (exec_loadAt rfl rfl HLA8.out) ?_)
        | (refine wpList_okG (o := ⟨some 49, _, _, _, _, _⟩) rfl (exec_loadAt rfl rfl HLT8.out) ?_))
      go_ret
      rw [HU.out]
      exact ⟨.nilIface, g, rfl, ⟨.inl ⟨rfl, rfl⟩⟩, ⟨HCG7.out.freeze.below ((Below.refl _ _).alloc (Nat.le_refl _) _)⟩, ⟨.inl rfl⟩, ⟨((Mod.of_below HBW7.out).setCell _ _).trans (Mod.of_below ((Below.refl _ _).alloc (Nat.le_refl _) _)) (.inl rfl)⟩⟩
  · have HF := Fact.mk hf
    clear hf hva
    have HA8 : Fact ((w7.alloc (.cells zStA 122)).heap[w7.heap.size]? = some (.cells zStA 122 (0, 0))) := ⟨heap_alloc_new _ _⟩
    have HBW8 : Fact (Below w.heap.size w (w7.alloc (.cells zStA 122))) := ⟨HBW7.out.alloc HBW7.out.size _⟩
    have HBX8 : Fact (Below (w.heap.size + 1) w2 (w7.alloc (.cells zStA 122))) := ⟨HBX7.out.alloc (by have := HBX7.out.size; have := HS2.out; omega) _⟩
    have HB8 : Fact (Below w3.heap.size w3 (w7.alloc (.cells zStA 122))) := ⟨HB7.out.alloc HB7.out.size _⟩
    have HR8 : Fact ((w7.alloc (.cells zStA 122)).heap[w3.heap.size]? = some (.cells dl 122 (0, 0))) := ⟨(Below.heap_alloc _ _ _ HS7.out).trans HR7.out⟩
    have HCG8 : Fact (Cg (w7.alloc (.cells zStA 122)) B cb g p l fz) := ⟨HC.out.below HBW8.out⟩
    have hlt7 : w.heap.size < w7.heap.size := by have := HBX7.out.size; have := HS2.out; omega
    have p0 := (HP.out _ HBX7.out).1
    have p1 := (HP.out _ HBX7.out).2.1
    have s0 : w7.cell? ⟨w3.heap.size, 0, none⟩ = some (.int .u64 (s.ht : Int)) := row_cell HR7.out (by rw [← Array.getElem?_toList, HDL.out]; rfl)
    have s1 : w7.cell? ⟨w3.heap.size, 1, none⟩ = some (.int .u64 (s.tm : Int)) := row_cell HR7.out (by rw [← Array.getElem?_toList, HDL.out]; rfl)
    have p0' := (HP.out _ HBX8.out).1
    have p1' := (HP.out _ HBX8.out).2.1
    have s0' : (w7.alloc (.cells zStA 122)).cell? ⟨w3.heap.size, 0, none⟩ = some (.int .u64 (s.ht : Int)) := row_cell HR8.out (by rw [← Array.getElem?_toList, HDL.out]; rfl)
    have s1' : (w7.alloc (.cells zStA 122)).cell? ⟨w3.heap.size, 1, none⟩ = some (.int .u64 (s.tm : Int)) := row_cell HR8.out (by rw [← Array.getElem?_toList, HDL.out]; rfl)
    have hs7 := HS7.out
    by_cases q1 : h.ht < s.ht
    · have HU : Fact (updM p l fz s h now = (32, l, fz)) := ⟨by
        unfold updM
        rw [if_neg (fun e => e HZ.out), if_neg (fun e => e HSEL.out), HF.out]
        simp only
        rw [if_pos (.inl q1)]⟩
      have d1 : decide ((h.ht : Int) < (s.ht : Int)) = true := by rw [decide_eq_true_eq]; omega
      have n1 : decide (h.ht < s.ht) = true := decide_eq_true q1
      clear q1
      go_wp2_with (first
        | (refine wpList_ok rfl (ShaB.exec_alloc rfl (alloc_st _)) ?_)
        | (refine wpList_store_row rfl 122 (.tmp 9) (.tmp 41) rfl w7.heap.size zStA rfl rfl 122 zStA HA8.out (infoA (s := zStt) rfl zStt_ok) rfl (oneA (s := zStt) rfl) ?_
           rw [World.setRow_alloc_new])
        | (go_at_call 23; fail))
      refine (At_num _ _ _ 32 (by decide)).mono ?_
      rintro ev w9 ⟨v, rfl, he, hb⟩
      have HE := Fact.mk (he.out.low HBW8.out.size)
      have HB9 : Fact (Below w.heap.size w w9) := ⟨HBW8.out.trans (hb.mono HBW8.out.size)⟩
      clear hb he
      go_wp2_with fail
      go_ret
      rw [HU.out]
      exact ⟨v, g, rfl, HE, ⟨HC.out.below HB9.out⟩, ⟨.inl rfl⟩, ⟨Mod.of_below HB9.out⟩⟩
    have d1 : decide ((h.ht : Int) < (s.ht : Int)) = false := by rw [decide_eq_false_iff_not]; omega
    have n1 : decide (h.ht < s.ht) = false := decide_eq_false q1
    by_cases q2 : 1099511627776 < h.ht
    · have HU : Fact (updM p l fz s h now = (32, l, fz)) := ⟨by
        unfold updM
        rw [if_neg (fun e => e HZ.out), if_neg (fun e => e HSEL.out), HF.out]
        simp only
        rw [if_pos (.inr q2)]⟩
      have d2 : decide ((1099511627776 : Int) < (h.ht : Int)) = true := by rw [decide_eq_true_eq]; omega
      clear q1 q2
      go_wp2_with (first
        | (refine wpList_ok rfl (ShaB.exec_alloc rfl (alloc_st _)) ?_)
        | (refine wpList_store_row rfl 122 (.tmp 9) (.tmp 41) rfl w7.heap.size zStA rfl rfl 122 zStA HA8.out (infoA (s := zStt) rfl zStt_ok) rfl (oneA (s := zStt) rfl) ?_
           rw [World.setRow_alloc_new])
        | (go_at_call 23; fail))
      refine (At_num _ _ _ 32 (by decide)).mono ?_
      rintro ev w9 ⟨v, rfl, he, hb⟩
      have HE := Fact.mk (he.out.low HBW8.out.size)
      have HB9 : Fact (Below w.heap.size w w9) := ⟨HBW8.out.trans (hb.mono HBW8.out.size)⟩
      clear hb he
      go_wp2_with fail
      go_ret
      rw [HU.out]
      exact ⟨v, g, rfl, HE, ⟨HC.out.below HB9.out⟩, ⟨.inl rfl⟩, ⟨Mod.of_below HB9.out⟩⟩
    have d2 : decide ((1099511627776 : Int) < (h.ht : Int)) = false := by rw [decide_eq_false_iff_not]; omega
    by_cases q3 : h.tm ≤ s.tm
    · have HU : Fact (updM p l fz s h now = (33, l, fz)) := ⟨by
        unfold updM
        rw [if_neg (fun e => e HZ.out), if_neg (fun e => e HSEL.out), HF.out]
        simp only
        rw [if_neg (by omega), if_pos (.inl q3)]⟩
      have d3 : decide ((h.tm : Int) ≤ (s.tm : Int)) = true := by rw [decide_eq_true_eq]; omega
      have n3 : decide (h.tm ≤ s.tm) = true := decide_eq_true q3
      clear q1 q2 q3
      go_wp2_with (first
        | (refine wpList_ok rfl (ShaB.exec_alloc rfl (alloc_st _)) ?_)
        | (refine wpList_store_row rfl 122 (.tmp 9) (.tmp 41) rfl w7.heap.size zStA rfl rfl 122 zStA HA8.out (infoA (s := zStt) rfl zStt_ok) rfl (oneA (s := zStt) rfl) ?_
           rw [World.setRow_alloc_new])
        | (go_at_call 23; fail))
      refine (At_num _ _ _ 33 (by decide)).mono ?_
      rintro ev w9 ⟨v, rfl, he, hb⟩
      have HE := Fact.mk (he.out.low HBW8.out.size)
      have HB9 : Fact (Below w.heap.size w w9) := ⟨HBW8.out.trans (hb.mono HBW8.out.size)⟩
      clear hb he
      go_wp2_with fail
      go_ret
      rw [HU.out]
      exact ⟨v, g, rfl, HE, ⟨HC.out.below HB9.out⟩, ⟨.inl rfl⟩, ⟨Mod.of_below HB9.out⟩⟩
    have d3 : decide ((h.tm : Int) ≤ (s.tm : Int)) = false := by rw [decide_eq_false_iff_not]; omega
    have n3 : decide (h.tm ≤ s.tm) = false := decide_eq_false q3
    by_cases q4 : 1099511627776 < h.tm
    · have HU : Fact (updM p l fz s h now = (33, l, fz)) := ⟨by
        unfold updM
        rw [if_neg (fun e => e HZ.out), if_neg (fun e => e HSEL.out), HF.out]
        simp only
        rw [if_neg (by omega), if_pos (.inr q4)]⟩
      have d4 : decide ((1099511627776 : Int) < (h.tm : Int)) = true := by rw [decide_eq_true_eq]; omega
      clear q1 q2 q3 q4
      go_wp2_with (first
        | (refine wpList_ok rfl (ShaB.exec_alloc rfl (alloc_st _)) ?_)
        | (refine wpList_store_row rfl 122 (.tmp 9) (.tmp 41) rfl w7.heap.size zStA rfl rfl 122 zStA HA8.out (infoA (s := zStt) rfl zStt_ok) rfl (oneA (s := zStt) rfl) ?_
           rw [World.setRow_alloc_new])
        | (go_at_call 23; fail))
      refine (At_num _ _ _ 33 (by decide)).mono ?_
      rintro ev w9 ⟨v, rfl, he, hb⟩
      have HE := Fact.mk (he.out.low HBW8.out.size)
      have HB9 : Fact (Below w.heap.size w w9) := ⟨HBW8.out.trans (hb.mono HBW8.out.size)⟩
      clear hb he
      go_wp2_with fail
      go_ret
      rw [HU.out]
      exact ⟨v, g, rfl, HE, ⟨HC.out.below HB9.out⟩, ⟨.inl rfl⟩, ⟨Mod.of_below HB9.out⟩⟩
    have d4 : decide ((1099511627776 : Int) < (h.tm : Int)) = false := by rw [decide_eq_false_iff_not]; omega
    obtain ⟨cn, hcn⟩ : ∃ cn : Array Value, cn = (s.next.map vu8).toArray := ⟨_, rfl⟩
    have HCN : Fact (cn.toList = s.next.map vu8) := ⟨by rw [hcn]⟩
    have HLN8 : Fact ((Instr.loadAt 52 (.pointer (some ⟨w3.heap.size, 34, none⟩))).run Tryd.prog (w7.alloc (.cells zStA 122)) = .ok (.agg cn) (w7.alloc (.cells zStA 122))) := ⟨by rw [hcn]; exact load_hash HSO.out.next (st_next HSO.out HDL.out HR8.out)⟩
    have HLV8 : Fact ((Instr.loadAt 52 (.pointer (some ⟨w.heap.size, 34, none⟩))).run Tryd.prog (w7.alloc (.cells zStA 122)) = .ok (.agg cv) (w7.alloc (.cells zStA 122))) := ⟨HLV.out _ HBX8.out⟩
    have heq := eq_hash hash_u hash_c hash_k cv cn h.vals s.next HCV.out HCN.out HK.out.vals HSO.out.next
    obtain ⟨bs, hbs⟩ : ∃ bs, (h.vals == s.next) = bs := ⟨_, rfl⟩
    rw [hbs] at heq
    clear hcn
    cases bs with
    | false =>
      have HU : Fact (updM p l fz s h now = (34, l, fz)) := ⟨by
        unfold updM
        rw [if_neg (fun e => e HZ.out), if_neg (fun e => e HSEL.out), HF.out]
        simp only
        rw [if_neg (by omega), if_neg (by omega), if_pos (by simpa using hbs)]⟩
      clear q1 q2 q3 q4 hbs
      go_wp2_with (first
        | (refine wpList_ok rfl (ShaB.exec_alloc rfl (alloc_st _)) ?_)
        | (refine wpList_store_row rfl 122 (.tmp 9) (.tmp 41) rfl w7.heap.size zStA rfl rfl 122 zStA HA8.out (infoA (s := zStt) rfl zStt_ok) rfl (oneA (s := zStt) rfl) ?_
           rw [World.setRow_alloc_new])
        | (refine wpList_ok rfl (exec_loadAt rfl rfl HLV8.out) ?_)
        | (refine wpList_ok rfl (exec_loadAt rfl rfl HLN8.out) ?_)
        | (go_at_call 23; fail))
      refine (At_num _ _ _ 34 (by decide)).mono ?_
      rintro ev w9 ⟨v, rfl, he, hb⟩
      have HE := Fact.mk (he.out.low HBW8.out.size)
      have HB9 : Fact (Below w.heap.size w w9) := ⟨HBW8.out.trans (hb.mono HBW8.out.size)⟩
      clear hb he
      go_wp2_with fail
      go_ret
      rw [HU.out]
      exact ⟨v, g, rfl, HE, ⟨HC.out.below HB9.out⟩, ⟨.inl rfl⟩, ⟨Mod.of_below HB9.out⟩⟩
    | true =>
      have HU : Fact (updM p l fz s h now = (0, pushM l (ofH h), fz)) := ⟨by
        unfold updM
        rw [if_neg (fun e => e HZ.out), if_neg (fun e => e HSEL.out), HF.out]
        simp only
        rw [if_neg (by omega), if_neg (by omega), if_neg (fun e => e (by simpa using hbs))]⟩
      clear q1 q2 q3 q4 hbs
      go_wp2_with (first
        | (refine wpList_ok rfl (ShaB.exec_alloc rfl (alloc_st _)) ?_)
        | (refine wpList_store_row rfl 122 (.tmp 9) (.tmp 41) rfl w7.heap.size zStA rfl rfl 122 zStA HA8.out (infoA (s := zStt) rfl zStt_ok) rfl (oneA (s := zStt) rfl) ?_
           rw [World.setRow_alloc_new])
        | (refine wpList_ok rfl (exec_loadAt rfl rfl HLV8.out) ?_)
        | (refine wpList_ok rfl (exec_loadAt rfl rfl HLN8.out) ?_))
      generalize w7.alloc (.cells zStA 122) = w8 at HBW8 HBX8 HB8 HR8 HCG8 ⊢
      have HS8 : Fact (w.heap.size < w8.heap.size) := ⟨by have := HBX8.out.size; have := HS2.out; omega⟩
      clear p0' p1' s0' s1' p0 p1 s0 s1 hs7 HLN8 HLV8 HA8 hlt7 hgl7 hcl7 HCB7 HCG7 HBX7 HBW7 HS7 HR7 HB7
      obtain ⟨hB1, hcl8, c8, hr8, ho8, hn8⟩ := HCG8.out
      rw [HM.out] at hr8 ho8
      have HO8 := Fact.mk ho8
      have HRC := Fact.mk hr8
      have HRH : Fact (w8.heap[w.heap.size]? = some (.cells cs 54 (0, 0))) := ⟨(HBX8.out.block _ (by omega)).trans HR2.out⟩
      clear hr8 ho8
      refine wp_region_L (fun W => W.heap[w.heap.size]? = some (.cells cs 54 (0, 0)) ∧ W.heap[cb]? = some (.cells #[.int .u64 (p : Int), .slice (some ⟨g, 0, none⟩) (m + 1) c8, .bool fz] 126 (0, 0))) 11 [10, 8, 9, 0, 4, 3, 2, 1, 7, 6, 5] (.tell 0 (.tell 1 (.tell 2 (.tell 3 (.tell 4 (.tell 5 (.one 6 (.one 7 (.one 8 (.tell 9 (.tell 10 .done))))))))))) (by kernel_rfl) (by kernel_rfl) (by kernel_rfl) (by intro c a d v w h; cases d <;> exact h) ⟨HRH.out, HRC.out⟩ ?_
      have HBd : Fact (Below w8.heap.size w8 w8.drew) := ⟨(Below.refl _ _).drew⟩
      generalize w8.drew = wd8 at HBd ⊢
      refine pd_tell rfl rfl (fun W hS => by
        have a1 : W.cell? ⟨cb, 1, none⟩ = some (.slice (some ⟨g, 0, none⟩) (m + 1) c8) := row_cell hS.2 rfl
        go_simp
        first | done | rfl) ?_
      simp only [List.getElem_toArray, List.getElem_cons_succ, List.getElem_cons_zero, Act.put, List.setIfInBounds_toArray, List.set_cons_succ, List.set_cons_zero]
      refine pd_tell rfl rfl (fun W hS => by
        have a1 : W.cell? ⟨cb, 1, none⟩ = some (.slice (some ⟨g, 0, none⟩) (m + 1) c8) := row_cell hS.2 rfl
        go_simp
        first | done | rfl) ?_
      simp only [List.getElem_toArray, List.getElem_cons_succ, List.getElem_cons_zero, Act.put, List.setIfInBounds_toArray, List.set_cons_succ, List.set_cons_zero]
      refine pd_tell rfl rfl (fun W hS => by
        have a1 : W.cell? ⟨cb, 1, none⟩ = some (.slice (some ⟨g, 0, none⟩) (m + 1) c8) := row_cell hS.2 rfl
        go_simp
        first | done | rfl) ?_
      simp only [List.getElem_toArray, List.getElem_cons_succ, List.getElem_cons_zero, Act.put, List.setIfInBounds_toArray, List.set_cons_succ, List.set_cons_zero]
      refine pd_tell rfl rfl (fun W hS => by
        have a1 : W.cell? ⟨cb, 1, none⟩ = some (.slice (some ⟨g, 0, none⟩) (m + 1) c8) := row_cell hS.2 rfl
        go_simp
        first | done | rfl) ?_
      simp only [List.getElem_toArray, List.getElem_cons_succ, List.getElem_cons_zero, Act.put, List.setIfInBounds_toArray, List.set_cons_succ, List.set_cons_zero]
      refine pd_tell rfl rfl (fun W hS => by
        have a1 : W.cell? ⟨cb, 1, none⟩ = some (.slice (some ⟨g, 0, none⟩) (m + 1) c8) := row_cell hS.2 rfl
        go_simp
        first | done | rfl) ?_
      simp only [List.getElem_toArray, List.getElem_cons_succ, List.getElem_cons_zero, Act.put, List.setIfInBounds_toArray, List.set_cons_succ, List.set_cons_zero]
      refine pd_tell rfl rfl (v := .agg cs) (fun W hS => exec_loadRow (g := w.heap.size) rfl rfl hS.1 Tryd.underlying54 rfl HI.out) ?_
      simp only [List.getElem_toArray, List.getElem_cons_succ, List.getElem_cons_zero, Act.put, List.setIfInBounds_toArray, List.set_cons_succ, List.set_cons_zero]
      have hsz8 : w8.heap.size ≤ wd8.heap.size := HBd.out.size
      refine turn_call (f := 66) (args := #[.agg cs]) rfl rfl rfl Tryd.func66 (by kernel_rfl) rfl (by simp only [List.map_toArray, List.map_cons, List.map_nil]; rfl) ?_
      refine (of_calls wd8 h HK.out cs HCS.out (laid_move HG.out (HBW8.out.trans (HBd.out.mono HBW8.out.size)) H1.out) (by have := HBW8.out.size; have := H1.out; omega)).mono ?_
      rintro e w9 ⟨⟨ds, rfl, hds⟩, hb9⟩
      have HB9 : Fact (Below w8.heap.size w8 w9) := ⟨HBd.out.trans (hb9.mono hsz8)⟩
      have HDS := Fact.mk hds.out
      clear hb9 hds
      refine ⟨_, rfl, ⟨(HB9.out.block _ HS8.out).trans HRH.out, (HB9.out.block _ hcl8).trans HRC.out⟩, ?_⟩
      simp only [List.getElem_toArray, List.getElem_cons_succ, List.getElem_cons_zero, Act.put, List.setIfInBounds_toArray, List.set_cons_succ, List.set_cons_zero]
      have HB10 : Fact (Below w8.heap.size w8 (w9.alloc (.cells ds 122))) := ⟨HB9.out.alloc HB9.out.size _⟩
      refine turn_do rfl rfl (exec_box1 rfl rfl Tryd.underlying124 info_st zStA_size (sizeA HDS.out (ofH_ok HK.out)) (by decide) (by decide)) ⟨(HB10.out.block _ HS8.out).trans HRH.out, (HB10.out.block _ hcl8).trans HRC.out⟩ ?_
      simp only [List.getElem_toArray, List.getElem_cons_succ, List.getElem_cons_zero, Act.put, List.setIfInBounds_toArray, List.set_cons_succ, List.set_cons_zero]
      have HSB : Fact (Sl rSt (w9.alloc (.cells ds 122)) (fun k => k = w9.heap.size) (some ⟨w9.heap.size, 0, none⟩) 1 1 [ofH h]) := ⟨(Sl.box (F := fun _ => False) w9 122 (xs := [ofH h]) (Els.one_ (r := rSt) (show rSt.K _ _ (ofH h) ds.toList from ⟨HDS.out, ofH_ok HK.out⟩)) (by simp)).mono (fun k hk => by simpa using hk)⟩
      generalize w9.alloc (.cells ds 122) = w10 at HB10 HSB ⊢
      obtain ⟨v1, w11, hq, ho11, hg11, hat⟩ := run_app (P := Tryd.prog) rSt w10 B 124 124 122 (.agg zStA) 112 Tryd.underlying124 info_st3 zStA_size (by decide) (by decide) (fun _ => False) _ (.slice (some ⟨g, 0, none⟩) (m + 1) c8) l [ofH h] _ 1 1 (HO8.out.below HB10.out (fun _ h => h.elim)) HSB.out (by have := HB10.out.size; omega) (by rw [HM.out]; omega) (fun _ h => h.elim) (fun _ _ h => h)
      have hge : ∀ k, k < w8.heap.size → k ≠ g → w11.heap[k]? = w8.heap[k]? := fun k hk hne => (hg11.block k (Nat.lt_of_lt_of_le hk HB10.out.size) (by simp [Value.ownBlock]; exact hne)).trans (HB10.out.block k hk)
      have hgw : w.heap.size ≠ g := by have h1 := (HC.out.lt).2; omega
      refine turn_do rfl rfl (v := v1) (exec_append w10 rfl rfl rfl hq) ⟨(hge _ HS8.out hgw).trans HRH.out, (hge _ hcl8 (fun e => hn8 e.symm)).trans HRC.out⟩ ?_
      simp only [List.getElem_toArray, List.getElem_cons_succ, List.getElem_cons_zero, Act.put, List.setIfInBounds_toArray, List.set_cons_succ, List.set_cons_zero]
      have HRC11 : Fact (w11.heap[cb]? = some (.cells #[.int .u64 (p : Int), .slice (some ⟨g, 0, none⟩) (m + 1) c8, .bool fz] 126 (0, 0))) := ⟨(hge _ hcl8 (fun e => hn8 e.symm)).trans HRC.out⟩
      have hv1 : v1.ownBlock ≠ some cb := by
        rcases hat with hat | hat
        · rw [hat]; simpa [Value.ownBlock] using hn8
        · rw [hat]; intro e; injection e with e; have := HB10.out.size; omega
      obtain ⟨g1, c1, hv, hg1, hcg⟩ := Cg.put HRC11.out hB1 ho11 hv1 (by simp)
      have HG1 : Fact (g1 = g ∨ w.heap.size ≤ g1) := ⟨by
        rw [hv] at hat
        rcases hat with hat | hat
        · left; simpa [Value.ownBlock] using hat
        · right
          have : g1 = w10.heap.size := by simpa [Value.ownBlock] using hat
          have := HB10.out.size
          have := HS8.out
          omega⟩
      have HMOD : Fact (Mod cb g w w11) := ⟨(Mod.of_below (HBW8.out.trans (HB10.out.mono HBW8.out.size))).grown hg11 (.inl rfl)⟩
      have hlen : (l ++ [ofH h]).length = m + 2 := by rw [List.length_append, HM.out]; rfl
      rw [hlen] at hv
      subst hv
      have HCG11 := Fact.mk hcg
      have k1 : w11.cell? ⟨cb, 1, none⟩ = some (.slice (some ⟨g, 0, none⟩) (m + 1) c8) := row_cell HRC11.out rfl
      have f1 : w11.frozen? ⟨cb, 1, none⟩ = false := row_free HRC11.out
      refine pd_tell rfl rfl (fun W hS => by
        go_simp
        first | done | rfl) ?_
      simp only [List.getElem_toArray, List.getElem_cons_succ, List.getElem_cons_zero, Act.put, List.setIfInBounds_toArray, List.set_cons_succ, List.set_cons_zero]
      refine pd_tell rfl rfl (fun W hS => by
        go_simp
        first | done | rfl) ?_
      simp only [List.getElem_toArray, List.getElem_cons_succ, List.getElem_cons_zero, Act.put, List.setIfInBounds_toArray, List.set_cons_succ, List.set_cons_zero]
      unfold wpPlanD
      refine last_mute rfl rfl (w' := w11.setCell ⟨cb, 1, none⟩ (.slice (some ⟨g1, 0, none⟩) (m + 2) c1)) (by go_simp; first | done | rfl) ?_
      simp only [List.getElem_toArray, List.getElem_cons_succ, List.getElem_cons_zero, Act.put, List.setIfInBounds_toArray, List.set_cons_succ, List.set_cons_zero]
      have HMOD12 : Fact (Mod cb g w (w11.setCell ⟨cb, 1, none⟩ (.slice (some ⟨g1, 0, none⟩) (m + 2) c1))) := ⟨HMOD.out.setCell _ _⟩
      clear k1 f1 hcg hat hv1 hge hgw hq ho11 hg11 HMOD HRC11 HSB HB10 HB9 HDS hsz8 HBd hn8 hcl8
      generalize w11.setCell ⟨cb, 1, none⟩ (.slice (some ⟨g1, 0, none⟩) (m + 2) c1) = w12 at HCG11 HMOD12 ⊢
      obtain ⟨c2, hr12, hlc12, hcm12, hrow12⟩ := HCG11.out.row
      have hcl12 := HCG11.out.2.1
      have hgl12 := HCG11.out.lt
      rw [hlen] at hr12 hlc12
      have HLEN := Fact.mk hlen
      obtain ⟨n2, hn2⟩ : ∃ n2, m + 2 = n2 := ⟨_, rfl⟩
      rw [hn2] at hr12 hlc12 HLEN
      have k1 : w12.cell? ⟨cb, 1, none⟩ = some (.slice (some ⟨g1, 0, none⟩) n2 c2) := row_cell hr12 rfl
      have hn3 : n2 ≤ 1002 := by omega
      have HN2 := Fact.mk hn2
      have HRC12 := Fact.mk hr12
      have hB2 := hB1
      clear hr12 hlen hn2
      by_cases q5 : 16 < n2
      · have d5 : decide ((16 : Int) < (n2 : Int)) = true := by rw [decide_eq_true_eq]; omega
        have n5 : decide (16 < n2) = true := decide_eq_true q5
        have HPU : Fact (pushM l (ofH h) = (l ++ [ofH h]).drop 1) := ⟨by unfold pushM; rw [if_pos (by have := HN2.out; rw [HM.out]; omega)]⟩
        have HSL : Fact (Sl rSt w12 (fun k => k = g1) (some ⟨g1, 0, none⟩) n2 c2 (l ++ [ofH h])) := ⟨by
          refine ⟨hlc12, hcm12, HLEN.out, fun _ => ⟨⟨g1, 0, none⟩, rfl, rfl, fun i x hi => ?_⟩⟩
          obtain ⟨xo, xr⟩ := hrow12 i x hi
          exact ⟨stC x, ⟨rfl, xo⟩, fun j u hj => by rw [add_plain']; exact xr j u hj⟩⟩
        obtain ⟨ie, hie, hiz⟩ := Option.map_eq_some_iff.1 info_st3
        simp only [Prod.mk.injEq] at hiz
        obtain ⟨A2, hs1, hs2⟩ := slice_from (P := Tryd.prog) rSt 124 122 Tryd.underlying124 hie hiz.2.1 (some ⟨g1, 0, none⟩) n2 c2 .i64 1 (by omega) (by omega)
        have hs3 := hs2 HSL.out
        simp only [Int.toNat_one] at hs1 hs3
        obtain ⟨ad2, rfl, hf2⟩ := hs3.some_ (by omega)
        have HS3 := Fact.mk hs3
        clear hs2 hs3 hiz hie hrow12 q5
        go_wp2_with (go_at_call 71; fail)
        refine (Clone_calls w12 _ ad2 (n2 - 1) (c2 - 1) ((l ++ [ofH h]).drop 1) HS3.out (fun k hk => by rw [hk]; exact hgl12.2) (by have := HN2.out; omega) (by omega)).mono ?_
        rintro e w13 ⟨⟨v2, rfl, ho2⟩, hb13⟩
        have HRC13 : Fact (w13.heap[cb]? = some (.cells #[.int .u64 (p : Int), .slice (some ⟨g1, 0, none⟩) n2 c2, .bool fz] 126 (0, 0))) := ⟨(hb13.block _ hcl12).trans HRC12.out⟩
        have hlt13 := ho2.out.lt
        have hv2 : v2.ownBlock ≠ some cb := fun e => by have := (hlt13 _ e).1; omega
        obtain ⟨g2, c3, hv, hg2, hcg2⟩ := Cg.put HRC13.out hB2 (Ow.low ho2.out (show B ≤ w12.heap.size by omega)) hv2 (by rw [List.length_drop, HLEN.out]; have := HN2.out; omega)
        subst hv
        have HG2 : Fact (w.heap.size ≤ g2) := ⟨by have := (hlt13 g2 (by simp [Value.ownBlock])).1; have := HMOD12.out.size; omega⟩
        have HCG13 := Fact.mk hcg2
        have HMOD13 : Fact (Mod cb g w (w13.setCell ⟨cb, 1, none⟩ (.slice (some ⟨g2, 0, none⟩) ((l ++ [ofH h]).drop 1).length c3))) := ⟨(HMOD12.out.trans (Mod.of_below (cb := cb) (g := g) hb13) (.inl rfl)).setCell _ _⟩
        have k13 : w13.cell? ⟨cb, 1, none⟩ = some (.slice (some ⟨g1, 0, none⟩) n2 c2) := row_cell HRC13.out rfl
        have f13 : w13.frozen? ⟨cb, 1, none⟩ = false := row_free HRC13.out
        obtain ⟨n4, hn4⟩ : ∃ n4, ((l ++ [ofH h]).drop 1).length = n4 := ⟨_, rfl⟩
        rw [hn4] at HCG13 HMOD13 ⊢
        clear hcg2 hv2 hlt13 hb13 ho2 hn4
        go_wp2_with fail
        go_ret
        rw [HU.out, HPU.out]
        exact ⟨.nilIface, g2, rfl, ⟨.inl ⟨rfl, rfl⟩⟩, HCG13, ⟨.inr HG2.out⟩, HMOD13⟩
      · have d5 : decide ((16 : Int) < (n2 : Int)) = false := by rw [decide_eq_false_iff_not]; omega
        have n5 : decide (16 < n2) = false := decide_eq_false q5
        have HPU : Fact (pushM l (ofH h) = l ++ [ofH h]) := ⟨by unfold pushM; rw [if_neg (by have := HN2.out; rw [HM.out]; omega)]⟩
        clear q5
        go_wp2_with fail
        go_ret
        rw [HU.out, HPU.out]
        exact ⟨.nilIface, g1, rfl, ⟨.inl ⟨rfl, rfl⟩⟩, HCG11, HG1, HMOD12⟩
end Go.Proofs.YtkmcjokoinoahaaDoor.ClientK
