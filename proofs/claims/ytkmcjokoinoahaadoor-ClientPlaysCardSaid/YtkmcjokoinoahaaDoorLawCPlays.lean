/- ClientPlays: for every input the law answers true; what was in memory before is as it was. -/
import Derived.Test.YtkmcjokoinoahaaDoorRefG
import Derived.Test.YtkmcjokoinoahaaDoorClientR
import Derived.Deep.CutRange
import Derived.Deep.CutBlock
set_option linter.unusedVariables false
set_option linter.unusedSimpArgs false
namespace Go.Proofs.YtkmcjokoinoahaaDoor.LawCPlays
open Go.RowKit Go.Proofs.YtkmcjokoinoahaaDoor.Lib Go.Proofs.YtkmcjokoinoahaaDoor.LibB Go.Proofs.YtkmcjokoinoahaaDoor.Reg Go.Proofs.YtkmcjokoinoahaaDoor.RegC Go.Proofs.YtkmcjokoinoahaaDoor.RegD Go.Proofs.YtkmcjokoinoahaaDoor.PlainS Go.Proofs.YtkmcjokoinoahaaDoor.ShaB Go.Proofs.YtkmcjokoinoahaaDoor.ShaC Go.Proofs.YtkmcjokoinoahaaDoor.ShaD Go.Proofs.YtkmcjokoinoahaaDoor.ShaDS Go.Proofs.YtkmcjokoinoahaaDoor.ShaE Go.Proofs.YtkmcjokoinoahaaDoor.PlainP Go.Proofs.YtkmcjokoinoahaaDoor.ParcelB Go.Proofs.YtkmcjokoinoahaaDoor.SealA Go.Proofs.YtkmcjokoinoahaaDoor.SealB Go.Proofs.YtkmcjokoinoahaaDoor.ClientA Go.Proofs.YtkmcjokoinoahaaDoor.ClientB Go.Proofs.YtkmcjokoinoahaaDoor.ClientC Go.Proofs.YtkmcjokoinoahaaDoor.ClientD Go.Proofs.YtkmcjokoinoahaaDoor.ClientE Go.Proofs.YtkmcjokoinoahaaDoor.ClientF Go.Proofs.YtkmcjokoinoahaaDoor.ClientG Go.Proofs.YtkmcjokoinoahaaDoor.ClientH Go.Proofs.YtkmcjokoinoahaaDoor.ClientI Go.Proofs.YtkmcjokoinoahaaDoor.ClientJ Go.Proofs.YtkmcjokoinoahaaDoor.RefD Go.Proofs.YtkmcjokoinoahaaDoor.ClientK Go.Proofs.YtkmcjokoinoahaaDoor.ClientL Go.Proofs.YtkmcjokoinoahaaDoor.ClientM Go.Proofs.YtkmcjokoinoahaaDoor.FaultB Go.Proofs.YtkmcjokoinoahaaDoor.FaultC Go.Proofs.YtkmcjokoinoahaaDoor.FaultD Go.Proofs.YtkmcjokoinoahaaDoor.RefE Go.Proofs.YtkmcjokoinoahaaDoor.RefF Go.Proofs.YtkmcjokoinoahaaDoor.RefG Go.Proofs.YtkmcjokoinoahaaDoor.ClientR
theorem eql_nil (e : Ch) (w : World) : (binOp .eql 27 (vOf e) .nilIface).run Tryd.prog w = .ok (.bool false) w := by
  obtain ⟨t, v, h⟩ := vOf_iface e
  rw [h]
  have hu := Tryd.underlying27
  have h : ∀ d : Nat, (Op.equalIn (d + 1) 27 (.iface t v) .nilIface).run Tryd.prog w = .ok false w := fun d => by simp [Op.equalIn, run_underlying hu]
  simp only [binOp]
  simp [Op.equal, Op.maxDepth, h 9999]
theorem guard_eql (e : Ch) (t : TypeId) (x y : Operand) : eqGuard .eql t x y (vOf e) .nilIface = pure () := by
  obtain ⟨u, v, h⟩ := vOf_iface e
  rw [h]
  rfl
/-- A header in a block of its own. -/
def HdIn (w : World) (b : Nat) (h : Hd) : Prop := h.ok ∧ ∃ cs : Array Value, cs.toList = hdC h ∧ w.heap[b]? = some (.cells cs 54 (0, 0))
/-- The two clients, alike. -/
structure Two (B : Nat) (w : World) (BB cb cm p : Nat) (l : List Hd) (fz : Bool) (g gm : Nat) : Prop where
  c : Cg w BB cb g p (l.map ofH) fz
  m : Mc w cm gm p l fz
  n1 : B ≤ cb ∧ B ≤ cm ∧ B ≤ g ∧ B ≤ gm
  n2 : cm ≠ cb ∧ cm ≠ g ∧ gm ≠ cb ∧ gm ≠ g
  len : 1 ≤ l.length ∧ l.length ≤ 16
  low : ∀ x ∈ l, x.ht ≤ 1099511627776 ∧ x.tm ≤ 1099511627776
  nd : (l.map Hd.ht).Nodup
theorem Two.below {B : Nat} {w w' : World} {BB cb cm p : Nat} {l : List Hd} {fz : Bool} {g gm : Nat} (h : Two B w BB cb cm p l fz g gm) (hb : Below w.heap.size w w') : Two B w' BB cb cm p l fz g gm :=
  ⟨h.c.below hb, h.m.below hb, h.n1, h.n2, h.len, h.low, h.nd⟩
theorem Two.last {B : Nat} {w : World} {BB cb cm p : Nat} {l : List Hd} {fz : Bool} {g gm : Nat} (h : Two B w BB cb cm p l fz g gm) :
    ∃ (m : Nat) (s : Hd), l.length = m + 1 ∧ m ≤ 15 ∧ l[m]? = some s ∧ s.ok ∧ s.ht ≤ 1099511627776 ∧ s.tm ≤ 1099511627776 := by
  have h1 := h.len
  have hlt : l.length - 1 < l.length := by omega
  refine ⟨l.length - 1, l[l.length - 1], by omega, by omega, List.getElem?_eq_getElem hlt, ?_, ?_⟩
  · obtain ⟨o, c, -, -, hat⟩ := Mc.pl h.m (by omega)
    exact (hat _ _ (List.getElem?_eq_getElem hlt)).1
  · exact h.low _ (List.getElem_mem hlt)
theorem new_low {h : Hd} {p : Nat} (hz : newE h p = 0) : h.ht ≤ 1099511627776 ∧ h.tm ≤ 1099511627776 ∧ 1 ≤ p ∧ p ≤ 4294967296 := by
  unfold newE at hz
  split at hz
  · cases hz
  split at hz
  · cases hz
  split at hz
  · cases hz
  omega
theorem pushH_len {l : List Hd} {h : Hd} (hl : 1 ≤ l.length ∧ l.length ≤ 16) : 1 ≤ (pushH l h).length ∧ (pushH l h).length ≤ 16 := by
  unfold pushH
  split
  · rw [List.length_drop, List.length_append]; simp; omega
  · rw [List.length_append]; simp; omega
theorem pushH_mem {l : List Hd} {h x : Hd} (hx : x ∈ pushH l h) : x ∈ l ∨ x = h := by
  unfold pushH at hx
  split at hx
  · have := List.mem_of_mem_drop hx
    simpa using this
  · simpa using hx
theorem pushH_nd {l : List Hd} {h : Hd} (hn : (l.map Hd.ht).Nodup) (hx : ∀ x ∈ l, x.ht ≠ h.ht) : ((pushH l h).map Hd.ht).Nodup := by
  have h1 : ((l ++ [h]).map Hd.ht).Nodup := by
    rw [List.map_append, List.nodup_append]
    refine ⟨hn, by simp, fun a ha b hb => ?_⟩
    obtain ⟨x, hxl, rfl⟩ := List.mem_map.1 ha
    have : b = h.ht := by simpa using hb
    rw [this]
    exact hx x hxl
  unfold pushH
  split
  · rw [List.map_drop]
    exact h1.sublist (List.drop_sublist _ _)
  · exact h1
/-- Both took the header. -/
theorem two_upd {B : Nat} {w0 w1 w2 w3 : World} {BB cb cm p : Nat} {l : List Hd} {fz : Bool} {g gm g' : Nat} {s h : Hd} {now : Nat} (ht : Two B w0 BB cb cm p l fz g gm) (hm1 : Mod cb g w0 w1) (hc : Cg w1 BB cb g' p (updM p (l.map ofH) fz (ofH s) h now).2.1 (updM p (l.map ofH) fz (ofH s) h now).2.2) (hg' : g' = g ∨ w0.heap.size ≤ g') (hb : Below w1.heap.size w1 w2) (hu : UpdG w2 w3 cm gm p l fz s h now) (hB : B ≤ w0.heap.size) :
    ∃ l2 fz2 g2 gm2, Two B w3 BB cb cm p l2 fz2 g2 gm2 := by
  obtain ⟨gm', l', e1, hm3, hgm, hl', hm2⟩ := hu
  rw [← e1] at hc
  have hcl := hc.lt
  have hcb := hc.2.1
  have a1 := ht.n1
  have a2 := ht.n2
  have a3 := ht.len
  have hm0 := ht.m.1
  have hm00 := ht.m.2.1
  have hcb0 := ht.c.2.1
  have hs1 := hm1.size
  have hs2 := hb.size
  have c2 := hc.below hb
  have ne1 : cm ≠ g' := by rcases hg' with e | e <;> omega
  have c3 := c2.move (hm2.block cb (by omega) (by omega) (by omega)) (hm2.block g' (by omega) (by omega) (by omega)) hm2.size
  refine ⟨l', _, g', gm', ⟨c3, hm3, ⟨a1.1, a1.2.1, by rcases hg' with e | e <;> omega, by rcases hgm with e | e <;> omega⟩, ⟨a2.1, ne1, by rcases hgm with e | e <;> omega, by rcases hgm with e | e <;> rcases hg' with e' | e' <;> omega⟩, ?_, ?_, ?_⟩⟩
  · rcases hl' with rfl | ⟨-, -, -, rfl⟩
    · exact a3
    · exact pushH_len a3
  · rcases hl' with rfl | ⟨q1, q2, -, rfl⟩
    · exact ht.low
    · intro x hx
      rcases pushH_mem hx with hx | rfl
      · exact ht.low x hx
      · exact ⟨q1, q2⟩
  · rcases hl' with rfl | ⟨-, -, q3, rfl⟩
    · exact ht.nd
    · exact pushH_nd ht.nd q3
/-- The document's client stands while the other one turns. -/
theorem two_mid {B : Nat} {w0 w1 w2 : World} {BB cb cm p : Nat} {l : List Hd} {fz : Bool} {g gm : Nat} (ht : Two B w0 BB cb cm p l fz g gm) (hm1 : Mod cb g w0 w1) (hb : Below w1.heap.size w1 w2) : Mc w2 cm gm p l fz := by
  have a2 := ht.n2
  have hm0 := ht.m.1
  have hm00 := ht.m.2.1
  have hs1 := hm1.size
  exact (ht.m.move (hm1.block cm hm0 a2.1 a2.2.1) (hm1.block gm hm00 a2.2.2.1 a2.2.2.2) hm1.size).below hb
theorem find_nd {l : List Hd} (hn : (l.map Hd.ht).Nodup) {j : Nat} {x : Hd} (hx : l[j]? = some x) : (l.map ofH).find? (qE x.ht) = some (ofH x) := by
  rw [List.find?_eq_some_iff_getElem]
  obtain ⟨hj, he⟩ := List.getElem?_eq_some_iff.1 hx
  refine ⟨by simp [qE, ofH], j, by simpa using hj, by simp [he], fun i hi => ?_⟩
  have hp := List.pairwise_iff_getElem.1 hn i j (by simp; omega) (by simpa using hj) hi
  simp [he] at hp
  simpa [qE, ofH] using hp
theorem builtH0 : Tryd.prog.built 52 [] = some (bArr []) := by kernel_rfl
theorem kn_root {w : World} {B o : Nat} {s : Hd} (k : s.ok) (h : w.rangeAt B o (knC s)) : w.rangeAt B (o + 2) (s.root.map vu8) := by
  intro j v hj
  have hjl : j < (s.root.map vu8).length := (List.getElem?_eq_some_iff.1 hj).1
  have := h (2 + j) v (knC_hd k (by
    unfold hdC
    rw [List.getElem?_append_right (by simp)]
    rw [show 2 + j - ([Value.int .u64 (s.ht : Int), .int .u64 (s.tm : Int)] : List Value).length = j by simp]
    rw [List.getElem?_append_left hjl]
    exact hj))
  rwa [← Nat.add_assoc] at this
theorem exec_neq0 {o : Oper} {a : Act} {w : World} {x y : Operand} {u : TypeId} {z0 : Array Value} (ho : o.op = .binOp .neq 52 x y u) (hx : a.eval x = .agg z0) (hy : a.eval y = .agg z0) (h : ∀ W : World, (Op.equalIn 10000 52 (.agg z0) (.agg z0)).run Tryd.prog W = .ok true W) : (execOp a.eval o).run Tryd.prog w = .ok (.value (.bool false)) w := by
  unfold execOp
  simp only [ho, hx, hy]
  simp [binOp, eqGuard, Op.equal, Op.maxDepth, h]
theorem field_ht {ds : Array Value} {v : Value} (h : ds[0]? = some v) (W : World) : (Instr.field 54 (.agg ds) 0).run Tryd.prog W = .ok v W := by
  simp [Instr.field, run_underlying Tryd.underlying54, part, isAgg, run_underlying Tryd.underlying50, asAgg, h]
theorem add_at (b o n : Nat) : (⟨b, o, none⟩ : Addr).add n = ⟨b, o + n, none⟩ := by
  unfold Addr.add
  split
  · rename_i h0; rw [h0]; rfl
  · rfl
theorem hd_fin {wa W : World} {hb : Nat} {d2 : Array Value} {h : Hd} (ho : h.ok) (hd : d2.toList = hdC h) (hB : Below wa.heap.size wa W) {old : Array Value} (hr : W.heap[hb]? = some (.cells old 54 (0, 0))) (hl : wa.heap.size ≤ hb) :
    HdIn (W.setRow hb d2) hb h ∧ Below wa.heap.size wa (W.setRow hb d2) :=
  ⟨⟨ho, d2, hd, setRow_heap _ _ _ _ _ _ hr⟩, below_setRow hB hl _⟩
theorem HdIn.lt {w : World} {b : Nat} {h : Hd} (k : HdIn w b h) : b < w.heap.size := by
  obtain ⟨-, cs, -, hr⟩ := k
  exact (Array.getElem?_eq_some_iff.1 hr).1
set_option maxHeartbeats 16000000 in
set_option maxRecDepth 100000 in
theorem ClientPlays_calls (w : World) (hg : Laid w) (hl : LaidW w) (h1 : 3 < w.heap.size) (hlr : LaidR w) (h2 : 1 < w.heap.size)
    (ca : Array Value) (ka : Hd) (hka : ka.ok) (hca : ca.toList = hdC ka) (p : Nat) (hp : p < 18446744073709551616) (F : Nat → Prop) (A0 : Option Addr) (N c0 : Nat) (acts : List Ac) (hs : Sl rAc w F A0 N c0 acts) (hF : ∀ k, F k → k < w.heap.size) :
    Calls Tryd.prog 12 #[.agg ca, .int .u64 (p : Int), .slice A0 N c0] w fun ev w' => ev = .returned (.bool true) ∧ Below w.heap.size w w' := by
  have HG := Fact.mk hg
  have HL := Fact.mk hl
  have H1 := Fact.mk h1
  have HLR := Fact.mk hlr
  have H2 := Fact.mk h2
  have HKA := Fact.mk hka
  have HCA := Fact.mk hca
  have HSA := Fact.mk hs
  have HFA := Fact.mk hF
  have hN := hs.len
  have hNm : N ≤ 9223372036854775807 := Nat.le_trans hs.le hs.max_
  have HN := Fact.mk hN
  clear hg hl h1 hlr h2 hka hca hs hF hN
  have HB0 : Fact (Below w.heap.size w (w.alloc (.cells ca 54))) := ⟨(Below.refl _ _).alloc (Nat.le_refl _) _⟩
  have HS0 : Fact ((w.alloc (.cells ca 54)).heap.size = w.heap.size + 1) := ⟨by simp⟩
  have HR0 : Fact ((w.alloc (.cells ca 54)).heap[w.heap.size]? = some (.cells ca 54 (0, 0))) := ⟨heap_alloc_new _ _⟩
  have HIA : Fact ((Tryd.prog.info? 54).map (·.size) = some ca.size) := ⟨HdKit.hd_i (by rw [← Array.length_toList, HCA.out, HdKit.hdC_len HKA.out])⟩
  go_enter Tryd.func12, Tryd.ntmps12
  go_wp2_with (go_at_call 29; fail)
  generalize w.alloc (.cells ca 54) = w0 at HB0 HS0 HR0 ⊢
  refine (ClientE.Awake_calls w0 (HG.out.below HB0.out HG.out.lt) (laid_move HL.out HB0.out H1.out) (Nat.lt_of_lt_of_le H1.out HB0.out.size)).mono ?_
  rintro e w1 ⟨rfl, hb⟩
  have HB1 : Fact (Below w.heap.size w w1) := ⟨HB0.out.trans (hb.mono HB0.out.size)⟩
  have HS1 : Fact (w.heap.size + 1 ≤ w1.heap.size) := ⟨by have := HS0.out; have := hb.size; omega⟩
  have HR1 : Fact (w1.heap[w.heap.size]? = some (.cells ca 54 (0, 0))) := ⟨(hb.block _ (by have := HS0.out; omega)).trans HR0.out⟩
  clear hb HB0 HS0 HR0
  go_wp2_with (first
    | (refine wpList_load_row rfl 54 (.tmp 3) rfl w.heap.size rfl 54 ca (0, 0) _ HR1.out Tryd.underlying54 rfl HIA.out ?_)
    | (go_at_call 30; fail))
  refine (New_calls w1 ka HKA.out ca HCA.out p hp (laid_move HL.out HB1.out H1.out) (Nat.lt_of_lt_of_le H1.out HB1.out.size)).mono ?_
  rintro e w2 ⟨hr, hb⟩
  have HB2 : Fact (Below w.heap.size w w2) := ⟨HB1.out.trans (hb.mono HB1.out.size)⟩
  have HS2 : Fact (w1.heap.size ≤ w2.heap.size) := ⟨hb.size⟩
  have HR2 : Fact (w2.heap[w.heap.size]? = some (.cells ca 54 (0, 0))) := ⟨(hb.block _ (by have := HS1.out; omega)).trans HR1.out⟩
  clear hb
  have hopen := Open_calls w2 ka HKA.out ca HCA.out p hp (laidR_move HLR.out HB2.out H2.out) (Nat.lt_of_lt_of_le H2.out HB2.out.size)
  by_cases hz : newE ka p = 0
  rotate_left
  · obtain ⟨-, rfl⟩ | ⟨h0, -⟩ := hr
    rotate_left
    · exact absurd h0 hz
    have hq3 : newE ka p = 2 ∨ newE ka p = 32 ∨ newE ka p = 33 := by
      unfold newE at hz ⊢
      split
      · exact .inl rfl
      · split
        · exact .inr (.inl rfl)
        · split
          · exact .inr (.inr rfl)
          · rename_i a1 a2 a3
            rw [if_neg a1, if_neg a2, if_neg a3] at hz
            exact absurd rfl hz
    rcases hq3 with hq | hq | hq
    · rw [hq] at hz hopen ⊢
      have HOP := Fact.mk hopen
      have HZ := Fact.mk hz
      clear hq hz hopen
      go_wp2_with (first
        | (refine wpList_load_row rfl 54 (.tmp 3) rfl w.heap.size rfl 54 ca (0, 0) _ HR2.out Tryd.underlying54 rfl HIA.out ?_)
        | (go_at_call 39; fail))
      refine HOP.out.mono ?_
      rintro e w3 ⟨hr, hb⟩
      obtain ⟨-, rfl⟩ | ⟨h0, -⟩ := hr
      rotate_left
      · exact absurd h0 HZ.out
      have HB3 : Fact (Below w.heap.size w w3) := ⟨HB2.out.trans (hb.mono HB2.out.size)⟩
      clear hb HOP HZ
      go_wp2_with fail
      go_ret
      exact ⟨rfl, HB3.out⟩
    · rw [hq] at hz hopen ⊢
      have HOP := Fact.mk hopen
      have HZ := Fact.mk hz
      clear hq hz hopen
      go_wp2_with (first
        | (refine wpList_load_row rfl 54 (.tmp 3) rfl w.heap.size rfl 54 ca (0, 0) _ HR2.out Tryd.underlying54 rfl HIA.out ?_)
        | (go_at_call 39; fail))
      refine HOP.out.mono ?_
      rintro e w3 ⟨hr, hb⟩
      obtain ⟨-, rfl⟩ | ⟨h0, -⟩ := hr
      rotate_left
      · exact absurd h0 HZ.out
      have HB3 : Fact (Below w.heap.size w w3) := ⟨HB2.out.trans (hb.mono HB2.out.size)⟩
      clear hb HOP HZ
      go_wp2_with fail
      go_ret
      exact ⟨rfl, HB3.out⟩
    · rw [hq] at hz hopen ⊢
      have HOP := Fact.mk hopen
      have HZ := Fact.mk hz
      clear hq hz hopen
      go_wp2_with (first
        | (refine wpList_load_row rfl 54 (.tmp 3) rfl w.heap.size rfl 54 ca (0, 0) _ HR2.out Tryd.underlying54 rfl HIA.out ?_)
        | (go_at_call 39; fail))
      refine HOP.out.mono ?_
      rintro e w3 ⟨hr, hb⟩
      obtain ⟨-, rfl⟩ | ⟨h0, -⟩ := hr
      rotate_left
      · exact absurd h0 HZ.out
      have HB3 : Fact (Below w.heap.size w w3) := ⟨HB2.out.trans (hb.mono HB2.out.size)⟩
      clear hb HOP HZ
      go_wp2_with fail
      go_ret
      exact ⟨rfl, HB3.out⟩
  obtain ⟨h0, -⟩ | ⟨-, cb, rfl, hcl⟩ := hr
  · exact absurd hz h0
  obtain ⟨g, hcg⟩ := Cl.cg hcl.out (by simp)
  have HCG2 := Fact.mk hcg
  have HCB2 : Fact (w1.heap.size ≤ cb ∧ w1.heap.size ≤ g) := ⟨hcg.1, hcg.lt.1⟩
  obtain ⟨BB, hBB⟩ : ∃ BB, w1.heap.size = BB := ⟨_, rfl⟩
  rw [hBB] at HCG2
  have HLOW := Fact.mk (new_low hz)
  have HZ := Fact.mk hz
  have HOP := Fact.mk hopen
  clear hz hopen hcg hcl hBB
  go_wp2_with (first
    | (refine wpList_load_row rfl 54 (.tmp 3) rfl w.heap.size rfl 54 ca (0, 0) _ HR2.out Tryd.underlying54 rfl HIA.out ?_)
    | (go_at_call 39; fail))
  refine HOP.out.mono ?_
  rintro e w3 ⟨hr, hb⟩
  obtain ⟨h0, -⟩ | ⟨-, cm, gm, rfl, hcm, hgm, hmc⟩ := hr
  · exact absurd HZ.out h0
  have HB3 : Fact (Below w.heap.size w w3) := ⟨HB2.out.trans (hb.mono HB2.out.size)⟩
  have HR3 : Fact (w3.heap[w.heap.size]? = some (.cells ca 54 (0, 0))) := ⟨(hb.block _ (by have := HS1.out; have := HS2.out; omega)).trans HR2.out⟩
  have HTW : Fact (Two (w.heap.size + 1) w3 BB cb cm p [ka] false g gm) := ⟨by
    have hc3 := HCG2.out.below hb
    have hl := HCG2.out.lt
    have hl2 := HCG2.out.2.1
    have := HCB2.out
    have := HS1.out
    have := HS2.out
    exact ⟨hc3, hmc.out, ⟨by omega, by omega, by omega, by omega⟩, ⟨by omega, by omega, by omega, by omega⟩, ⟨by simp, by simp⟩, fun x hx => by
      obtain rfl : x = ka := by simpa using hx
      exact ⟨HLOW.out.1, HLOW.out.2.1⟩, by simp⟩⟩
  have HP12 : Fact (1 ≤ p ∧ p ≤ 4294967296) := ⟨HLOW.out.2.2⟩
  have HTM : Fact (ka.tm < 18446744073709551616) := ⟨HKA.out.tm⟩
  have p1 := (hd_parts HKA.out HCA.out HR3.out).2.1
  clear hb hcm hgm hmc HOP HZ HCG2 HCB2 HS1 HS2 HB1 HB2 HR1 HR2
  clear w0 w1 w2
  go_wp2_with fail
  clear p1 HR3
  go_loopg [11, 53] N (fun kq v11 v53 wr => ∃ (k now : Nat) (l : List Hd) (fz : Bool) (g gm : Nat), v11 = .int .u64 (now : Int) ∧ v53 = .int .i64 (k : Int) ∧ Fact (k + kq = N) ∧ Fact (now < 18446744073709551616) ∧ Fact (Two (w.heap.size + 1) wr BB cb cm p l fz g gm) ∧ Fact (Below w.heap.size w wr))
  case atStart => exact ⟨0, ka.tm, [ka], false, g, gm, rfl, rfl, ⟨by omega⟩, HTM, HTW, HB3⟩
  case round =>
    obtain ⟨k, now, l, fz, gB, gM, rfl, rfl, HK, HNOW, HTK, HBR⟩ := hrel
    have hkn := HK.out
    by_cases hlt : k < N
    rotate_left
    · clear HTK
      have hkN : ¬ (k : Int) < (N : Int) := by omega
      go_wp2_with fail
      go_ret
      exact ⟨rfl, HBR.out⟩
    obtain ⟨a, haa⟩ : ∃ a, acts[k]? = some a := ⟨_, List.getElem?_eq_getElem (by rw [HN.out]; exact hlt)⟩
    obtain ⟨ad, ds, rfl, hf, ⟨hds, hao⟩, hcell⟩ := HSA.out.at_ haa
    obtain ⟨ac, hac⟩ : ∃ ac : Array Value, ac = (acC a).toArray := ⟨_, rfl⟩
    have HAC : Fact (ac.toList = acC a) := ⟨by rw [hac]⟩
    have HAO := Fact.mk hao
    have HAI : Fact ((Tryd.prog.info? 70).map (·.size) = some ac.size) := ⟨ac_i HAO.out HAC.out⟩
    have HCE : Fact (∀ (j : Nat) v, ac.toList[j]? = some v → wr.cell? ((ad.add (k * 134)).add j) = some v) := ⟨fun j v hj => by
      rw [HAC.out, ← hds] at hj
      rw [add_add']
      exact (HBR.out.cell (p := ad.add (k * 134 + j)) (by rw [Lib.block_add]; exact HFA.out _ hf)).trans (hcell j v hj)⟩
    have HAZ : Fact (ClientP.zAcA.size = ac.size) := ⟨by rw [show ac.size = 134 by rw [← Array.length_toList, HAC.out, acC_len HAO.out]]; kernel_rfl⟩
    have HAO1 : Fact (ac.all (·.oneCell') = true) := ⟨by
      rw [Array.all_eq_true_iff_forall_mem]
      intro v hv
      exact rAc.one (w := w) (F := F) (x := a) ⟨rfl, HAO.out⟩ v (by rw [← HAC.out]; simpa using hv)⟩
    have HA1 : Fact ((wr.alloc (.cells ClientP.zAcA 70)).heap[wr.heap.size]? = some (.cells ClientP.zAcA 70 (0, 0))) := ⟨heap_alloc_new _ _⟩
    have HRA : Fact ((wr.alloc (.cells ac 70)).heap[wr.heap.size]? = some (.cells ac 70 (0, 0))) := ⟨heap_alloc_new _ _⟩
    have HBA : Fact (Below w.heap.size w (wr.alloc (.cells ac 70))) := ⟨HBR.out.alloc HBR.out.size _⟩
    have HTA : Fact (Two (w.heap.size + 1) (wr.alloc (.cells ac 70)) BB cb cm p l fz gB gM) := ⟨HTK.out.below ((Below.refl _ _).alloc (Nat.le_refl _) _)⟩
    have HAL : Fact (wr.heap.size < (wr.alloc (.cells ac 70)).heap.size ∧ w.heap.size ≤ wr.heap.size) := ⟨by simp, HBR.out.size⟩
    have HKL : Fact (cb < wr.heap.size ∧ cm < wr.heap.size ∧ gB < wr.heap.size ∧ gM < wr.heap.size) := ⟨HTK.out.c.2.1, HTK.out.m.1, HTK.out.c.lt.2, HTK.out.m.2.1⟩
    have halloc : ∀ W, (Instr.alloc 70 true (.tuple #[])).run Tryd.prog W = .ok (.pointer (some ⟨W.heap.size, 0, none⟩)) (W.alloc (.cells ClientP.zAcA 70)) := fun W => by kernel_rfl
    have HALC := Fact.mk halloc
    have hkN : (k : Int) < (N : Int) := by omega
    clear hac hds hcell halloc
    go_wp2_with (first
      | (refine wpList_ok rfl (exec_loadS rfl rfl HCE.out Tryd.underlying70 HAI.out) ?_)
      | (refine wpList_ok rfl (ShaB.exec_alloc rfl (HALC.out _)) ?_)
      | (refine wpList_store_row rfl 70 (.tmp 13) (.tmp 57) rfl wr.heap.size ac rfl rfl 70 ClientP.zAcA HA1.out HAI.out HAZ.out HAO1.out ?_
         rw [World.setRow_alloc_new]
         refine Fact.out ?_))
    refine ⟨?_⟩
    clear HA1 HCE HTK HAZ HALC HAO1 hf haa
    obtain ⟨b13, hb13⟩ : ∃ b13, wr.heap.size = b13 := ⟨_, rfl⟩
    generalize wr.alloc (.cells ac 70) = wa at HRA HBA HTA HAL ⊢
    rw [hb13] at HRA HAL HKL ⊢
    clear hb13 HBR
    clear wr
    by_cases h60 : 60 < k
    · have h60' : decide ((60 : Int) < (k : Int)) = true := by rw [decide_eq_true_eq]; omega
      clear h60
      go_wp2_with fail
      go_ret
      exact ⟨rfl, HBA.out⟩
    have h60' : decide ((60 : Int) < (k : Int)) = false := by rw [decide_eq_false_iff_not]; omega
    obtain ⟨m, s, hlm, hm15, hsl, hso, hsh, hst⟩ := HTA.out.last
    have HLM := Fact.mk hlm
    have HSL := Fact.mk hsl
    have HSO := Fact.mk hso
    have HSB := Fact.mk (And.intro hsh hst)
    have HFO : Fact (folH s a).ok := ⟨folH_ok hso HAO.out hsh hst⟩
    have LAT : Fact (∀ W, Below wa.heap.size wa W → Calls Tryd.prog 40 #[.pointer (some ⟨cm, 0, none⟩)] W fun e w' => (∃ ds : Array Value, e = .returned (.agg ds) ∧ Fact (ds.toList = hdC s)) ∧ Below W.heap.size W w') := ⟨fun W hW => RLatest_calls W cm gM p l fz (HTA.out.m.below hW) m HLM.out s HSL.out⟩
    have FOL : Fact (∀ (dl : Array Value) W, dl.toList = hdC s → Below wa.heap.size wa W → Calls Tryd.prog 38 #[.agg dl, .agg ac] W fun e w' => (∃ ds : Array Value, e = .returned (.agg ds) ∧ Fact (ds.toList = hdC (folH s a))) ∧ Below W.heap.size W w') := ⟨fun dl W hd hW => follow_calls W s HSO.out dl hd a HAO.out ac HAC.out HSB.out.1 HSB.out.2 (laidR_move HLR.out (HBA.out.trans (hW.mono HBA.out.size)) H2.out) (Nat.lt_of_lt_of_le H2.out (Nat.le_trans HBA.out.size hW.size))⟩
    have HDI : Fact (∀ d2 : Array Value, d2.toList = hdC (folH s a) → (Tryd.prog.info? 54).map (·.size) = some d2.size) := ⟨fun d2 h => HdKit.hd_i (by rw [← Array.length_toList, h, HdKit.hdC_len HFO.out])⟩
    have HDZ : Fact (∀ d2 : Array Value, d2.toList = hdC (folH s a) → HdKit.zHdA.size = d2.size) := ⟨fun d2 h => by rw [show d2.size = 130 by rw [← Array.length_toList, h, HdKit.hdC_len HFO.out]]; rfl⟩
    have HDO : Fact (∀ d2 : Array Value, d2.toList = hdC (folH s a) → d2.all (·.oneCell') = true) := ⟨fun d2 h => by
      have := HdKit.hdC_one (folH s a)
      rw [← h] at this
      simpa using this⟩
    clear hlm hsl hso hsh hst
    go_upto_region 14 with fail
    go_cut [14] from 54 to 226 (fun s14 wc => ∃ hb, s14 = .pointer (some ⟨hb, 0, none⟩) ∧ Fact (HdIn wc hb (folH s a)) ∧ Fact (Below wa.heap.size wa wc) ∧ Fact (wa.heap.size ≤ hb))
    case first => as_aux_lemma =>
      refine wp_region_P (fun W => Below wa.heap.size wa W) (.tell 0 (.tell 2 (.two 1 (.two 3 (.one 4 (.one 5 .done)) 4 (.one 3 (.one 5 .done))) 4 (.one 1 (.one 3 (.one 5 .done)))))) (by as_aux_lemma => kernel_rfl) (by as_aux_lemma => kernel_rfl) (by as_aux_lemma => kernel_rfl) (by intro c a d v w h; cases d <;> exact h) (Below.refl _ _).drew ?_
      have HBd : Fact (Below wa.heap.size wa wa.drew) := ⟨(Below.refl _ _).drew⟩
      generalize wa.drew = wd at HBd ⊢
      refine plan_tell rfl rfl (fun W hS => by
        go_simp
        first | done | rfl) ?_
      simp only [List.getElem_toArray, List.getElem_cons_succ, List.getElem_cons_zero, Act.put, List.setIfInBounds_toArray, List.set_cons_succ, List.set_cons_zero]
      refine plan_tell rfl rfl (v := .agg ac) (fun W hS => exec_loadRow (g := b13) rfl rfl ((hS.block _ HAL.out.1).trans HRA.out) Tryd.underlying70 rfl HAI.out) ?_
      simp only [List.getElem_toArray, List.getElem_cons_succ, List.getElem_cons_zero, Act.put, List.setIfInBounds_toArray, List.set_cons_succ, List.set_cons_zero]
      refine ⟨?_, ?_⟩
      · refine turn_call (f := 40) (args := #[.pointer (some ⟨cm, 0, none⟩)]) rfl rfl rfl Tryd.func40 (by as_aux_lemma => kernel_rfl) rfl (by simp only [List.map_toArray, List.map_cons, List.map_nil]; rfl) ?_
        refine (LAT.out wd HBd.out).mono ?_
        rintro e w1 ⟨⟨dl, rfl, hdl⟩, hb⟩
        have HB1 : Fact (Below wa.heap.size wa w1) := ⟨HBd.out.trans (hb.mono HBd.out.size)⟩
        have HX1 := Fact.mk hb
        have HDL := Fact.mk hdl.out
        clear hb hdl
        refine ⟨_, rfl, HB1.out, ?_⟩
        simp only [List.getElem_toArray, List.getElem_cons_succ, List.getElem_cons_zero, Act.put, List.setIfInBounds_toArray, List.set_cons_succ, List.set_cons_zero]
        refine ⟨?_, ?_⟩
        · refine turn_call (f := 38) (args := #[.agg dl, .agg ac]) rfl rfl rfl Tryd.func38 (by as_aux_lemma => kernel_rfl) rfl (by simp only [List.map_toArray, List.map_cons, List.map_nil]; rfl) ?_
          refine (FOL.out dl w1 HDL.out HB1.out).mono ?_
          rintro e w2 ⟨⟨d2, rfl, hd2⟩, hb⟩
          have HB2 : Fact (Below wa.heap.size wa w2) := ⟨HB1.out.trans (hb.mono HB1.out.size)⟩
          have HX2 := Fact.mk hb
          have HD2 := Fact.mk hd2.out
          clear hb hd2
          refine ⟨_, rfl, HB2.out, ?_⟩
          simp only [List.getElem_toArray, List.getElem_cons_succ, List.getElem_cons_zero, Act.put, List.setIfInBounds_toArray, List.set_cons_succ, List.set_cons_zero]
          have HB3 : Fact (Below wa.heap.size wa (w2.alloc (.cells HdKit.zHdA 54))) := ⟨HB2.out.alloc HB2.out.size _⟩
          have HR3 : Fact ((w2.alloc (.cells HdKit.zHdA 54)).heap[w2.heap.size]? = some (.cells HdKit.zHdA 54 (0, 0))) := ⟨heap_alloc_new _ _⟩
          have HL3 : Fact (wa.heap.size ≤ w2.heap.size ∧ w2.heap.size < (w2.alloc (.cells HdKit.zHdA 54)).heap.size) := ⟨HB2.out.size, by simp⟩
          refine turn_do rfl rfl (ShaB.exec_alloc rfl (HdKit.alloc_hd _)) HB3.out ?_
          simp only [List.getElem_toArray, List.getElem_cons_succ, List.getElem_cons_zero, Act.put, List.setIfInBounds_toArray, List.set_cons_succ, List.set_cons_zero]
          generalize w2.heap.size = hb0 at HR3 HL3 ⊢
          generalize w2.alloc (.cells HdKit.zHdA 54) = w3 at HB3 HR3 HL3 ⊢
          have HRF : Fact (w3.heap[hb0]? = some (.cells HdKit.zHdA 54 (0, 0))) := ⟨HR3.out⟩
          have hfin := hd_fin HFO.out HD2.out HB3.out HRF.out HL3.out.1
          refine turn_mute rfl rfl (exec_storeRow (g := hb0) (old := HdKit.zHdA) (cells := d2) rfl rfl rfl HRF.out (HDI.out d2 HD2.out) (HDZ.out d2 HD2.out) (HDO.out d2 HD2.out)) hfin.2 ?_
          have HFIN := Fact.mk hfin
          clear hfin
          generalize w3.setRow hb0 d2 = wz at HFIN ⊢
          unfold wpPlan
          go_wp2_with fail
          go_meet
          exact ⟨hb0, rfl, ⟨HFIN.out.1⟩, ⟨HFIN.out.2⟩, ⟨HL3.out.1⟩⟩
        · have HB3 : Fact (Below wa.heap.size wa (w1.alloc (.cells HdKit.zHdA 54))) := ⟨HB1.out.alloc HB1.out.size _⟩
          have HR3 : Fact ((w1.alloc (.cells HdKit.zHdA 54)).heap[w1.heap.size]? = some (.cells HdKit.zHdA 54 (0, 0))) := ⟨heap_alloc_new _ _⟩
          have HL3 : Fact (wa.heap.size ≤ w1.heap.size ∧ w1.heap.size < (w1.alloc (.cells HdKit.zHdA 54)).heap.size) := ⟨HB1.out.size, by simp⟩
          refine turn_do rfl rfl (ShaB.exec_alloc rfl (HdKit.alloc_hd _)) HB3.out ?_
          simp only [List.getElem_toArray, List.getElem_cons_succ, List.getElem_cons_zero, Act.put, List.setIfInBounds_toArray, List.set_cons_succ, List.set_cons_zero]
          generalize w1.heap.size = hb0 at HR3 HL3 ⊢
          generalize w1.alloc (.cells HdKit.zHdA 54) = w3 at HB3 HR3 HL3 ⊢
          refine turn_call (f := 38) (args := #[.agg dl, .agg ac]) rfl rfl rfl Tryd.func38 (by as_aux_lemma => kernel_rfl) rfl (by simp only [List.map_toArray, List.map_cons, List.map_nil]; rfl) ?_
          refine (FOL.out dl w3 HDL.out HB3.out).mono ?_
          rintro e w4 ⟨⟨d2, rfl, hd2⟩, hb⟩
          have HB4 : Fact (Below wa.heap.size wa w4) := ⟨HB3.out.trans (hb.mono HB3.out.size)⟩
          have HX4 := Fact.mk hb
          have HD2 := Fact.mk hd2.out
          clear hb hd2
          refine ⟨_, rfl, HB4.out, ?_⟩
          simp only [List.getElem_toArray, List.getElem_cons_succ, List.getElem_cons_zero, Act.put, List.setIfInBounds_toArray, List.set_cons_succ, List.set_cons_zero]
          have HRF : Fact (w4.heap[hb0]? = some (.cells HdKit.zHdA 54 (0, 0))) := ⟨(HX4.out.block _ HL3.out.2).trans HR3.out⟩
          have hfin := hd_fin HFO.out HD2.out HB4.out HRF.out HL3.out.1
          refine turn_mute rfl rfl (exec_storeRow (g := hb0) (old := HdKit.zHdA) (cells := d2) rfl rfl rfl HRF.out (HDI.out d2 HD2.out) (HDZ.out d2 HD2.out) (HDO.out d2 HD2.out)) hfin.2 ?_
          have HFIN := Fact.mk hfin
          clear hfin
          generalize w4.setRow hb0 d2 = wz at HFIN ⊢
          unfold wpPlan
          go_wp2_with fail
          go_meet
          exact ⟨hb0, rfl, ⟨HFIN.out.1⟩, ⟨HFIN.out.2⟩, ⟨HL3.out.1⟩⟩
      · have HB3 : Fact (Below wa.heap.size wa (wd.alloc (.cells HdKit.zHdA 54))) := ⟨HBd.out.alloc HBd.out.size _⟩
        have HR3 : Fact ((wd.alloc (.cells HdKit.zHdA 54)).heap[wd.heap.size]? = some (.cells HdKit.zHdA 54 (0, 0))) := ⟨heap_alloc_new _ _⟩
        have HL3 : Fact (wa.heap.size ≤ wd.heap.size ∧ wd.heap.size < (wd.alloc (.cells HdKit.zHdA 54)).heap.size) := ⟨HBd.out.size, by simp⟩
        refine turn_do rfl rfl (ShaB.exec_alloc rfl (HdKit.alloc_hd _)) HB3.out ?_
        simp only [List.getElem_toArray, List.getElem_cons_succ, List.getElem_cons_zero, Act.put, List.setIfInBounds_toArray, List.set_cons_succ, List.set_cons_zero]
        generalize wd.heap.size = hb0 at HR3 HL3 ⊢
        generalize wd.alloc (.cells HdKit.zHdA 54) = w3 at HB3 HR3 HL3 ⊢
        refine turn_call (f := 40) (args := #[.pointer (some ⟨cm, 0, none⟩)]) rfl rfl rfl Tryd.func40 (by as_aux_lemma => kernel_rfl) rfl (by simp only [List.map_toArray, List.map_cons, List.map_nil]; rfl) ?_
        refine (LAT.out w3 HB3.out).mono ?_
        rintro e w4 ⟨⟨dl, rfl, hdl⟩, hb⟩
        have HB4 : Fact (Below wa.heap.size wa w4) := ⟨HB3.out.trans (hb.mono HB3.out.size)⟩
        have HX4 := Fact.mk hb
        have HDL := Fact.mk hdl.out
        clear hb hdl
        refine ⟨_, rfl, HB4.out, ?_⟩
        simp only [List.getElem_toArray, List.getElem_cons_succ, List.getElem_cons_zero, Act.put, List.setIfInBounds_toArray, List.set_cons_succ, List.set_cons_zero]
        refine turn_call (f := 38) (args := #[.agg dl, .agg ac]) rfl rfl rfl Tryd.func38 (by as_aux_lemma => kernel_rfl) rfl (by simp only [List.map_toArray, List.map_cons, List.map_nil]; rfl) ?_
        refine (FOL.out dl w4 HDL.out HB4.out).mono ?_
        rintro e w5 ⟨⟨d2, rfl, hd2⟩, hb⟩
        have HB5 : Fact (Below wa.heap.size wa w5) := ⟨HB4.out.trans (hb.mono HB4.out.size)⟩
        have HX5 := Fact.mk hb
        have HD2 := Fact.mk hd2.out
        clear hb hd2
        refine ⟨_, rfl, HB5.out, ?_⟩
        simp only [List.getElem_toArray, List.getElem_cons_succ, List.getElem_cons_zero, Act.put, List.setIfInBounds_toArray, List.set_cons_succ, List.set_cons_zero]
        have HRF : Fact (w5.heap[hb0]? = some (.cells HdKit.zHdA 54 (0, 0))) := ⟨(HX5.out.block _ (Nat.lt_of_lt_of_le HL3.out.2 HX4.out.size)).trans ((HX4.out.block _ HL3.out.2).trans HR3.out)⟩
        have hfin := hd_fin HFO.out HD2.out HB5.out HRF.out HL3.out.1
        refine turn_mute rfl rfl (exec_storeRow (g := hb0) (old := HdKit.zHdA) (cells := d2) rfl rfl rfl HRF.out (HDI.out d2 HD2.out) (HDZ.out d2 HD2.out) (HDO.out d2 HD2.out)) hfin.2 ?_
        have HFIN := Fact.mk hfin
        clear hfin
        generalize w5.setRow hb0 d2 = wz at HFIN ⊢
        unfold wpPlan
        go_wp2_with fail
        go_meet
        exact ⟨hb0, rfl, ⟨HFIN.out.1⟩, ⟨HFIN.out.2⟩, ⟨HL3.out.1⟩⟩
    case rest =>
    obtain ⟨hb, rfl, HHD, HBC, HHB⟩ := hcut
    clear LAT FOL HDI HDZ HDO
    have HRC : Fact (wc.heap[b13]? = some (.cells ac 70 (0, 0))) := ⟨(HBC.out.block _ HAL.out.1).trans HRA.out⟩
    have HTC : Fact (Two (w.heap.size + 1) wc BB cb cm p l fz gB gM) := ⟨HTA.out.below HBC.out⟩
    have HWC : Fact (Below w.heap.size w wc) := ⟨HBA.out.trans (HBC.out.mono HBA.out.size)⟩
    have HLT : Fact (b13 < hb ∧ hb < wc.heap.size ∧ cb < wa.heap.size ∧ cm < wa.heap.size ∧ gB < wa.heap.size ∧ gM < wa.heap.size) := ⟨by have := HAL.out; have := HHB.out; omega, HHD.out.lt, HTA.out.c.2.1, HTA.out.m.1, HTA.out.c.lt.2, HTA.out.m.2.1⟩
    have HAP := Fact.mk (ac_parts HAO.out HAC.out HRC.out)
    have k0 := HAP.out.1
    have kw := HAP.out.2.1
    have kn := HAP.out.2.2.2.2.2.2.2.2.1
    have ks := HAP.out.2.2.2.2.2.2.2.2.2
    obtain ⟨d, hd⟩ : ∃ d, a.kd % 8 = d := ⟨_, rfl⟩
    have hdl : d < 8 := by omega
    have hm1 : (a.kd : Int).tmod 8 = (d : Int) := by rw [Int.tmod_eq_emod_of_nonneg (by omega)]; omega
    have hm2 : (a.kd : Int) % 8 = (d : Int) := by omega
    have HDD := Fact.mk hd
    clear hd
    go_upto_block 2 with fail
    go_cut [11] from 54 to 226 (fun s11 wx => ∃ (now2 : Nat) (h2 : Hd), s11 = .int .u64 (now2 : Int) ∧ Fact (now2 < 18446744073709551616) ∧ Fact (HdIn wx hb h2) ∧ Fact (Below wa.heap.size wa wx))
    case first => as_aux_lemma =>
      obtain ⟨hho, ch, hch, hrh⟩ := HHD.out
      have HHO := Fact.mk hho
      have HCH := Fact.mk hch
      have HRH := Fact.mk hrh
      have HCN : Fact (ch.size = 130) := ⟨by rw [← Array.length_toList, hch, HdKit.hdC_len hho]⟩
      clear hho hch hrh hm1 hm2
      by_cases h5 : d = 5
      · as_aux_lemma =>
        have e5 : ((d : Int) == 5) = true := by simp [h5]
        have e5' : decide ((d : Int) = 5) = true := by simp [h5]
        obtain ⟨da, hda⟩ : ∃ da : Array Value, da = (hdC a.h).toArray := ⟨_, rfl⟩
        have HDA : Fact (da.toList = hdC a.h) := ⟨by rw [hda]⟩
        have HKH : Fact a.h.ok := ⟨HAO.out.h⟩
        have HIH : Fact ((Tryd.prog.info? 54).map (·.size) = some da.size) := ⟨HdKit.hd_i (by rw [← Array.length_toList, HDA.out, HdKit.hdC_len HKH.out])⟩
        have HZH : Fact (ch.size = da.size) := ⟨by rw [HCN.out, ← Array.length_toList, HDA.out, HdKit.hdC_len HKH.out]⟩
        have HOH : Fact (da.all (·.oneCell') = true) := ⟨by
          have := HdKit.hdC_one a.h
          rw [← HDA.out] at this
          simpa using this⟩
        have HLD : Fact (∀ (j : Nat) v, da.toList[j]? = some v → wc.cell? ((⟨b13, 2, none⟩ : Addr).add j) = some v) := ⟨fun j v hj => by
          rw [HDA.out] at hj
          have hjl : j < (hdC a.h).length := (List.getElem?_eq_some_iff.1 hj).1
          have := row_cell (i := 2 + j) HRC.out (v := v) (by
            rw [← Array.getElem?_toList, HAC.out]
            unfold acC
            rw [List.getElem?_append_right (by simp)]
            rw [show 2 + j - ([Value.int .u8 (a.kd : Int), .int .u8 (a.wh : Int)] : List Value).length = j by simp]
            rw [List.getElem?_append_left hjl]
            exact hj)
          rw [add_at]
          exact this⟩
        clear hda h5
        go_wp2_with (first
          | (refine wpList_ok rfl (exec_loadS rfl rfl HLD.out Tryd.underlying54 HIH.out) ?_)
          | (refine wpList_store_row rfl 54 (.tmp 14) (.tmp 70) rfl hb da rfl rfl 54 ch HRH.out HIH.out HZH.out HOH.out ?_
             refine Fact.out ?_))
        refine ⟨?_⟩
        have HR5 : Fact ((wc.setRow hb da).heap[hb]? = some (.cells da 54 (0, 0))) := ⟨setRow_heap _ _ _ _ _ _ HRH.out⟩
        have HB5 : Fact (Below wa.heap.size wa (wc.setRow hb da)) := ⟨below_setRow HBC.out HHB.out _⟩
        have HRA5 : Fact ((wc.setRow hb da).heap[b13]? = some (.cells ac 70 (0, 0))) := ⟨(HB5.out.block _ HAL.out.1).trans HRA.out⟩
        have HW5 : Fact (Below w.heap.size w (wc.setRow hb da)) := ⟨HBA.out.trans (HB5.out.mono HBA.out.size)⟩
        have HL5 : Fact (hb < (wc.setRow hb da).heap.size) := ⟨by rw [setRow_size]; exact HLT.out.2.1⟩
        generalize wc.setRow hb da = w5 at HR5 HB5 HRA5 HW5 HL5 ⊢
        have ks5 := (ac_parts HAO.out HAC.out HRA5.out).2.2.2.2.2.2.2.2.2
        clear ks kn kw k0
        obtain ⟨sl, hsl⟩ : ∃ sl, a.sl = sl := ⟨_, rfl⟩
        rw [hsl] at ks5
        clear hsl
        cases sl with
        | false =>
          go_wp2_with fail
          go_meet
          exact ⟨now, a.h, rfl, HNOW, ⟨HKH.out, da, HDA.out, HR5.out⟩, HB5⟩
        | true =>
          go_wp2_with (first
            | (refine wpList_load_row rfl 54 (.tmp 14) rfl hb rfl 54 da (0, 0) _ HR5.out Tryd.underlying54 rfl HIH.out ?_)
            | (go_at_call 32; fail))
          refine (RSeal_calls w5 a.h HKH.out da HDA.out (laidR_move HLR.out HW5.out H2.out) (Nat.lt_of_lt_of_le H2.out HW5.out.size)).mono ?_
          rintro e w6 ⟨⟨ds, rfl, hds⟩, hb6⟩
          have HDS := Fact.mk hds.out
          have HR6 : Fact (w6.heap[hb]? = some (.cells da 54 (0, 0))) := ⟨(hb6.block _ HL5.out).trans HR5.out⟩
          have HB6 : Fact (Below wa.heap.size wa w6) := ⟨HB5.out.trans (hb6.mono HB5.out.size)⟩
          have HSZ : Fact ((da).size = 130) := ⟨by rw [← Array.length_toList, HDA.out, HdKit.hdC_len HKH.out]⟩
          have HT6 : Fact (w6.there hb 98 32) := ⟨there_row HR6.out HSZ.out (by decide)⟩
          have HT6' : Fact (w6.there hb 98 ds.size) := ⟨by rw [bytes_size HDS.out (sha_len _)]; exact HT6.out⟩
          clear hds hb6
          go_wp2_with (first
            | (refine wpList_store_mid rfl 52 (.tmp 75) (.tmp 74) rfl hb 98 ds rfl rfl HT6'.out (hash_i (bytes_size HDS.out (sha_len _))) (bytes_one HDS.out) ?_))
          go_meet
          exact ⟨now, { a.h with sel := shaL (sealB a.h) }, rfl, HNOW, ⟨sel_ok HKH.out (sha_len _), _, by rw [HDS.out]; exact hdC_seal HKH.out da HDA.out _ (sha_len _), row_setCells _ _ _ _ HR6.out⟩, ⟨below_setCells _ _ HB6.out HHB.out⟩⟩
      have e5 : ((d : Int) == 5) = false := by simp; omega
      have e5' : decide ((d : Int) = 5) = false := by simp; omega
      by_cases h6 : d = 6
      · as_aux_lemma =>
        have e6 : ((d : Int) == 6) = true := by simp [h6]
        have e6' : decide ((d : Int) = 6) = true := by simp [h6]
        obtain ⟨o, cc, hrow, hslm, hat⟩ := Mc.pl HTC.out.m (by have := HTC.out.len; omega)
        obtain ⟨L, hL⟩ : ∃ L, l.length = L := ⟨_, rfl⟩
        have hLb : 1 ≤ L ∧ L ≤ 16 := by rw [← hL]; exact HTC.out.len
        rw [hL] at hrow
        obtain ⟨nn, hnn⟩ : ∃ nn, a.n % L = nn := ⟨_, rfl⟩
        have hnl : nn < L := by rw [← hnn]; exact Nat.mod_lt _ (by omega)
        obtain ⟨x, hx⟩ : ∃ x, l[nn]? = some x := ⟨_, List.getElem?_eq_getElem (by rw [hL]; exact hnl)⟩
        have HKH : Fact x.ok := ⟨(hat nn x hx).1⟩
        have HXR := Fact.mk (hat nn x hx).2
        have ht1 : (a.n : Int).tmod (L : Int) = (nn : Int) := by rw [Int.tmod_eq_emod_of_nonneg (by omega), ← hnn]; omega
        have ht2 : (a.n : Int) % (L : Int) = (nn : Int) := by rw [← hnn]; omega
        have hw1 : IntKind.u64.wrap (L : Int) = (L : Int) := by rw [IntKind.wrap_u64]; omega
        have hw2 : IntKind.i64.wrap (nn : Int) = (nn : Int) := by rw [IntKind.wrap_i64]; omega
        have hL0 : ¬ (L : Int) = 0 := by omega
        have hL2 : ¬ L = 0 := by omega
        have hL1 : ((L : Int) == 0) = false := by simp; omega
        have hni : (nn : Int) < (L : Int) := by omega
        have hap : (⟨gM, o, none⟩ : Addr).add (nn * 162) = ⟨gM, o + nn * 162, none⟩ := add_at _ _ _
        have hcmc : cm < hb := by have := HLT.out; have := HHB.out; omega
        have hgmc : gM < hb := by have := HLT.out; have := HHB.out; omega
        have HCL : Fact (∀ W, Below hb wc W → W.cell? ⟨cm, 1, none⟩ = some (.slice (some ⟨gM, o, none⟩) L cc)) := ⟨fun W hW => row_cell ((hW.block _ hcmc).trans hrow) rfl⟩
        have HKN : Fact (∀ W, Below hb wc W → W.cell? ⟨b13, 132, none⟩ = some (.int .u64 (a.n : Int))) := ⟨fun W hW => (ac_parts HAO.out HAC.out ((hW.block _ (by have := HLT.out; omega)).trans HRC.out)).2.2.2.2.2.2.2.2.1⟩
        obtain ⟨da, hda⟩ : ∃ da : Array Value, da = (hdC x).toArray := ⟨_, rfl⟩
        have HDA : Fact (da.toList = hdC x) := ⟨by rw [hda]⟩
        have HIH : Fact ((Tryd.prog.info? 54).map (·.size) = some da.size) := ⟨HdKit.hd_i (by rw [← Array.length_toList, HDA.out, HdKit.hdC_len HKH.out])⟩
        have HZH : Fact (ch.size = da.size) := ⟨by rw [HCN.out, ← Array.length_toList, HDA.out, HdKit.hdC_len HKH.out]⟩
        have HOH : Fact (da.all (·.oneCell') = true) := ⟨by
          have := HdKit.hdC_one x
          rw [← HDA.out] at this
          simpa using this⟩
        have HLD : Fact (∀ W, Below hb wc W → ∀ (j : Nat) v, da.toList[j]? = some v → W.cell? ((⟨gM, o + nn * 162, none⟩ : Addr).add j) = some v) := ⟨fun W hW j v hj => by
          rw [HDA.out] at hj
          have := (range_below HXR.out hW hgmc) j v (knC_hd HKH.out hj)
          rw [add_at]
          exact this⟩
        clear hda h6 hat hx hnn hrow hslm hL
        go_wp2_with fail
        refine wp_region_P (fun W => Below hb wc W) (.tell 0 (.tell 1 (.tell 2 (.tell 3 (.tell 4 (.tell 5 (.tell 6 (.tell 7 (.tell 8 (.tell 9 (.tell 10 (.tell 11 (.tell 12 (.tell 13 (.tell 14 (.tell 15 (.tell 16 (.one 17 .done)))))))))))))))))) (by as_aux_lemma => kernel_rfl) (by as_aux_lemma => kernel_rfl) (by as_aux_lemma => kernel_rfl) (by intro c a d v w h; cases d <;> exact h) (Below.refl _ _).drew ?_
        have HBd : Fact (Below hb wc wc.drew) := ⟨(Below.refl _ _).drew⟩
        have HRHd : Fact (wc.drew.heap[hb]? = some (.cells ch 54 (0, 0))) := ⟨HRH.out⟩
        have HLd : Fact (hb < wc.drew.heap.size) := ⟨HLT.out.2.1⟩
        generalize wc.drew = wd at HBd HRHd HLd ⊢
        clear k0 kn kw ks
        refine plan_tell rfl rfl (fun W hS => by
          go_simp
          first | done | rfl) ?_
        simp only [List.getElem_toArray, List.getElem_cons_succ, List.getElem_cons_zero, Act.put, List.setIfInBounds_toArray, List.set_cons_succ, List.set_cons_zero]
        refine plan_tell rfl rfl (fun W hS => by
          go_simp
          first | done | rfl) ?_
        simp only [List.getElem_toArray, List.getElem_cons_succ, List.getElem_cons_zero, Act.put, List.setIfInBounds_toArray, List.set_cons_succ, List.set_cons_zero]
        refine plan_tell rfl rfl (fun W hS => by
          go_simp
          first | done | rfl) ?_
        simp only [List.getElem_toArray, List.getElem_cons_succ, List.getElem_cons_zero, Act.put, List.setIfInBounds_toArray, List.set_cons_succ, List.set_cons_zero]
        refine plan_tell rfl rfl (fun W hS => by
          have a1 := HCL.out W hS
          go_simp
          first | done | rfl) ?_
        simp only [List.getElem_toArray, List.getElem_cons_succ, List.getElem_cons_zero, Act.put, List.setIfInBounds_toArray, List.set_cons_succ, List.set_cons_zero]
        refine plan_tell rfl rfl (fun W hS => by
          go_simp
          first | done | rfl) ?_
        simp only [List.getElem_toArray, List.getElem_cons_succ, List.getElem_cons_zero, Act.put, List.setIfInBounds_toArray, List.set_cons_succ, List.set_cons_zero]
        refine plan_tell rfl rfl (fun W hS => by
          have a1 := HKN.out W hS
          go_simp
          first | done | rfl) ?_
        simp only [List.getElem_toArray, List.getElem_cons_succ, List.getElem_cons_zero, Act.put, List.setIfInBounds_toArray, List.set_cons_succ, List.set_cons_zero]
        refine plan_tell rfl rfl (fun W hS => by
          go_simp
          first | done | rfl) ?_
        simp only [List.getElem_toArray, List.getElem_cons_succ, List.getElem_cons_zero, Act.put, List.setIfInBounds_toArray, List.set_cons_succ, List.set_cons_zero]
        refine plan_tell rfl rfl (fun W hS => by
          go_simp
          first | done | rfl) ?_
        simp only [List.getElem_toArray, List.getElem_cons_succ, List.getElem_cons_zero, Act.put, List.setIfInBounds_toArray, List.set_cons_succ, List.set_cons_zero]
        refine plan_tell rfl rfl (fun W hS => by
          go_simp
          first | done | rfl) ?_
        simp only [List.getElem_toArray, List.getElem_cons_succ, List.getElem_cons_zero, Act.put, List.setIfInBounds_toArray, List.set_cons_succ, List.set_cons_zero]
        refine plan_tell rfl rfl (fun W hS => by
          have a1 := HCL.out W hS
          go_simp
          first | done | rfl) ?_
        simp only [List.getElem_toArray, List.getElem_cons_succ, List.getElem_cons_zero, Act.put, List.setIfInBounds_toArray, List.set_cons_succ, List.set_cons_zero]
        refine plan_tell rfl rfl (fun W hS => by
          go_simp
          first | done | rfl) ?_
        simp only [List.getElem_toArray, List.getElem_cons_succ, List.getElem_cons_zero, Act.put, List.setIfInBounds_toArray, List.set_cons_succ, List.set_cons_zero]
        refine plan_tell rfl rfl (fun W hS => by
          go_simp
          first | done | rfl) ?_
        simp only [List.getElem_toArray, List.getElem_cons_succ, List.getElem_cons_zero, Act.put, List.setIfInBounds_toArray, List.set_cons_succ, List.set_cons_zero]
        refine plan_tell rfl rfl (fun W hS => by
          go_simp
          first | done | rfl) ?_
        simp only [List.getElem_toArray, List.getElem_cons_succ, List.getElem_cons_zero, Act.put, List.setIfInBounds_toArray, List.set_cons_succ, List.set_cons_zero]
        refine plan_tell rfl rfl (fun W hS => by
          go_simp
          first | done | rfl) ?_
        simp only [List.getElem_toArray, List.getElem_cons_succ, List.getElem_cons_zero, Act.put, List.setIfInBounds_toArray, List.set_cons_succ, List.set_cons_zero]
        refine plan_tell rfl rfl (fun W hS => by
          go_simp
          first | done | rfl) ?_
        simp only [List.getElem_toArray, List.getElem_cons_succ, List.getElem_cons_zero, Act.put, List.setIfInBounds_toArray, List.set_cons_succ, List.set_cons_zero]
        refine plan_tell rfl rfl (fun W hS => by
          go_simp
          first | done | rfl) ?_
        simp only [List.getElem_toArray, List.getElem_cons_succ, List.getElem_cons_zero, Act.put, List.setIfInBounds_toArray, List.set_cons_succ, List.set_cons_zero]
        refine plan_tell rfl rfl (v := .agg da) (fun W hS => exec_loadS rfl rfl (HLD.out W hS) Tryd.underlying54 HIH.out) ?_
        simp only [List.getElem_toArray, List.getElem_cons_succ, List.getElem_cons_zero, Act.put, List.setIfInBounds_toArray, List.set_cons_succ, List.set_cons_zero]
        have HR5 : Fact ((wd.setRow hb da).heap[hb]? = some (.cells da 54 (0, 0))) := ⟨setRow_heap _ _ _ _ _ _ HRHd.out⟩
        have HBh5 : Fact (Below hb wc (wd.setRow hb da)) := ⟨below_setRow HBd.out (Nat.le_refl _) _⟩
        have HB5 : Fact (Below wa.heap.size wa (wd.setRow hb da)) := ⟨HBC.out.trans (HBh5.out.mono HHB.out)⟩
        have HRA5 : Fact ((wd.setRow hb da).heap[b13]? = some (.cells ac 70 (0, 0))) := ⟨(HB5.out.block _ HAL.out.1).trans HRA.out⟩
        have HW5 : Fact (Below w.heap.size w (wd.setRow hb da)) := ⟨HBA.out.trans (HB5.out.mono HBA.out.size)⟩
        have HL5 : Fact (hb < (wd.setRow hb da).heap.size) := ⟨by rw [setRow_size]; exact HLd.out⟩
        refine turn_mute rfl rfl (exec_storeRow (g := hb) (old := ch) (cells := da) rfl rfl rfl HRHd.out HIH.out HZH.out HOH.out) HBh5.out ?_
        generalize wd.setRow hb da = w5 at HR5 HB5 HRA5 HW5 HL5 HBh5 ⊢
        have ks5 := (ac_parts HAO.out HAC.out HRA5.out).2.2.2.2.2.2.2.2.2
        clear hap hni hL1 hL0 hL2 hw1 hw2 ht1 ht2 hLb hnl HBd HRHd HLd
        unfold wpPlan
        obtain ⟨sl, hsl⟩ : ∃ sl, a.sl = sl := ⟨_, rfl⟩
        rw [hsl] at ks5
        clear hsl
        cases sl with
        | false =>
          go_wp2_with fail
          go_meet
          exact ⟨now, x, rfl, HNOW, ⟨HKH.out, da, HDA.out, HR5.out⟩, HB5⟩
        | true =>
          go_wp2_with (first
            | (refine wpList_load_row rfl 54 (.tmp 14) rfl hb rfl 54 da (0, 0) _ HR5.out Tryd.underlying54 rfl HIH.out ?_)
            | (go_at_call 32; fail))
          refine (RSeal_calls w5 x HKH.out da HDA.out (laidR_move HLR.out HW5.out H2.out) (Nat.lt_of_lt_of_le H2.out HW5.out.size)).mono ?_
          rintro e w6 ⟨⟨ds, rfl, hds⟩, hb6⟩
          have HDS := Fact.mk hds.out
          have HR6 : Fact (w6.heap[hb]? = some (.cells da 54 (0, 0))) := ⟨(hb6.block _ HL5.out).trans HR5.out⟩
          have HB6 : Fact (Below wa.heap.size wa w6) := ⟨HB5.out.trans (hb6.mono HB5.out.size)⟩
          have HSZ : Fact ((da).size = 130) := ⟨by rw [← Array.length_toList, HDA.out, HdKit.hdC_len HKH.out]⟩
          have HT6 : Fact (w6.there hb 98 32) := ⟨there_row HR6.out HSZ.out (by decide)⟩
          have HT6' : Fact (w6.there hb 98 ds.size) := ⟨by rw [bytes_size HDS.out (sha_len _)]; exact HT6.out⟩
          clear hds hb6
          go_wp2_with (first
            | (refine wpList_store_mid rfl 52 (.tmp 99) (.tmp 98) rfl hb 98 ds rfl rfl HT6'.out (hash_i (bytes_size HDS.out (sha_len _))) (bytes_one HDS.out) ?_))
          go_meet
          exact ⟨now, { x with sel := shaL (sealB x) }, rfl, HNOW, ⟨sel_ok HKH.out (sha_len _), _, by rw [HDS.out]; exact hdC_seal HKH.out da HDA.out _ (sha_len _), row_setCells _ _ _ _ HR6.out⟩, ⟨below_setCells _ _ HB6.out HHB.out⟩⟩
      have e6 : ((d : Int) == 6) = false := by simp; omega
      have e6' : decide ((d : Int) = 6) = false := by simp; omega
      by_cases h7 : d = 7
      · as_aux_lemma =>
        have e7 : ((d : Int) == 7) = true := by simp [h7]
        have e7' : decide ((d : Int) = 7) = true := by simp [h7]
        have HDN : Fact (a.n < 18446744073709551616) := ⟨HAO.out.n⟩
        have hr1 : (a.n : Int).tmod 50 = ((a.n % 50 : Nat) : Int) := by rw [Int.tmod_eq_emod_of_nonneg (by omega)]; omega
        have hr2 : (a.n : Int) % 50 = ((a.n % 50 : Nat) : Int) := by omega
        obtain ⟨r, hr⟩ : ∃ r, a.n % 50 = r := ⟨_, rfl⟩
        rw [hr] at hr1 hr2
        obtain ⟨z, hz⟩ : ∃ z, (now + r) % 18446744073709551616 = z := ⟨_, rfl⟩
        have hzw : IntKind.u64.wrap ((now : Int) + (r : Int)) = (z : Int) := by rw [IntKind.wrap_u64]; omega
        have HZL : Fact (z < 18446744073709551616) := ⟨by omega⟩
        clear hz hr h7
        by_cases h8 : a.wh = 255
        · have e8 : ((a.wh : Int) == 255) = true := by simp [h8]
          have e8' : decide ((a.wh : Int) = 255) = true := by simp [h8]
          clear h8
          go_wp2_with fail
          go_meet
          exact ⟨a.n, folH s a, rfl, HDN, HHD, HBC⟩
        · have e8 : ((a.wh : Int) == 255) = false := by simp; omega
          have e8' : decide ((a.wh : Int) = 255) = false := by simp; omega
          clear h8
          go_wp2_with fail
          go_meet
          exact ⟨z, folH s a, rfl, HZL, HHD, HBC⟩
      · as_aux_lemma =>
        have e7 : ((d : Int) == 7) = false := by simp; omega
        have e7' : decide ((d : Int) = 7) = false := by simp; omega
        clear h7
        go_wp2_with fail
        go_meet
        exact ⟨now, folH s a, rfl, HNOW, HHD, HBC⟩
    case rest => as_aux_lemma =>
    obtain ⟨now2, h2, rfl, HNOW2, HHX, HBX⟩ := hcut
    clear HRC HTC HWC HAP k0 kw kn ks HHD HBC
    have HRX : Fact (wc.heap[b13]? = some (.cells ac 70 (0, 0))) := ⟨(HBX.out.block _ HAL.out.1).trans HRA.out⟩
    have HTX : Fact (Two (w.heap.size + 1) wc BB cb cm p l fz gB gM) := ⟨HTA.out.below HBX.out⟩
    have HWX : Fact (Below w.heap.size w wc) := ⟨HBA.out.trans (HBX.out.mono HBA.out.size)⟩
    go_upto_region 28 with fail
    go_cut [127] from 54 to 226 (fun s127 wy => s127 = .bool false ∧ ∃ (l2 : List Hd) (fz2 : Bool) (g2 : Nat) (gm2 : Nat), Fact (Two (w.heap.size + 1) wy BB cb cm p l2 fz2 g2 gm2) ∧ Fact (Below w.heap.size w wy) ∧ Fact (wy.heap[b13]? = some (.cells ac 70 (0, 0))) ∧ Fact (b13 < wy.heap.size))
    case first => as_aux_lemma =>
      obtain ⟨hho, ch, hch, hrh⟩ := HHX.out
      have HHO := Fact.mk hho
      have HCH := Fact.mk hch
      have HRH := Fact.mk hrh
      have HIH : Fact ((Tryd.prog.info? 54).map (·.size) = some ch.size) := ⟨HdKit.hd_i (by rw [← Array.length_toList, hch, HdKit.hdC_len hho])⟩
      clear hho hch hrh
      refine wp_region_P (fun W => W.heap[hb]? = some (.cells ch 54 (0, 0)) ∧ W.heap[b13]? = some (.cells ac 70 (0, 0))) (.tell 0 (.tell 1 (.tell 2 (.tell 3 (.tell 4 (.tell 5 (.tell 6 (.tell 7 (.tell 10 (.tell 11 (.tell 12 (.one 8 (.one 9 (.one 13 (.tell 14 (.tell 15 .done)))))))))))))))) (by as_aux_lemma => kernel_rfl) (by as_aux_lemma => kernel_rfl) (by as_aux_lemma => kernel_rfl) (by intro c a d v w h; cases d <;> exact h) ⟨HRH.out, HRX.out⟩ ?_
      have HBd : Fact (Below wc.heap.size wc wc.drew) := ⟨(Below.refl _ _).drew⟩
      have HRHd : Fact (wc.drew.heap[hb]? = some (.cells ch 54 (0, 0)) ∧ wc.drew.heap[b13]? = some (.cells ac 70 (0, 0))) := ⟨HRH.out, HRX.out⟩
      have HTd : Fact (Two (w.heap.size + 1) wc.drew BB cb cm p l fz gB gM) := ⟨HTX.out.below HBd.out⟩
      have HWd : Fact (Below w.heap.size w wc.drew) := ⟨HWX.out.drew⟩
      have HLTd : Fact (hb < wc.drew.heap.size ∧ b13 < wc.drew.heap.size) := ⟨HHX.out.lt, by have := HHX.out.lt; have := HLT.out; show b13 < wc.heap.size; omega⟩
      generalize wc.drew = wd at HBd HRHd HTd HWd HLTd ⊢
      clear HTX HWX HRX HHX HBX HRH
      by_cases h7 : d = 7
      · as_aux_lemma =>
        have e7 : ((d : Int) == 7) = true := by simp [h7]
        have e7' : decide ((d : Int) = 7) = true := by simp [h7]
        have e7n : ((d : Int) != 7) = false := by simp [h7]
        have h7i : (d : Int) = 7 := by omega
        refine plan_tell rfl rfl (fun W hS => by
          go_simp
          first | done | rfl) ?_
        simp only [List.getElem_toArray, List.getElem_cons_succ, List.getElem_cons_zero, Act.put, List.setIfInBounds_toArray, List.set_cons_succ, List.set_cons_zero]
        refine plan_tell rfl rfl (fun W hS => by
          have a1 := (ac_parts HAO.out HAC.out hS.2).1
          go_simp
          first | done | rfl) ?_
        simp only [List.getElem_toArray, List.getElem_cons_succ, List.getElem_cons_zero, Act.put, List.setIfInBounds_toArray, List.set_cons_succ, List.set_cons_zero]
        refine plan_tell rfl rfl (fun W hS => by
          go_simp
          first | done | rfl) ?_
        simp only [List.getElem_toArray, List.getElem_cons_succ, List.getElem_cons_zero, Act.put, List.setIfInBounds_toArray, List.set_cons_succ, List.set_cons_zero]
        refine plan_tell rfl rfl (v := .bool false) (fun W hS => by
          go_simp
          first | done | rfl) ?_
        simp only [List.getElem_toArray, List.getElem_cons_succ, List.getElem_cons_zero, Act.put, List.setIfInBounds_toArray, List.set_cons_succ, List.set_cons_zero]
        refine plan_tell rfl rfl (fun W hS => by
          go_simp
          first | done | rfl) ?_
        simp only [List.getElem_toArray, List.getElem_cons_succ, List.getElem_cons_zero, Act.put, List.setIfInBounds_toArray, List.set_cons_succ, List.set_cons_zero]
        refine plan_skip rfl rfl ?_
        simp only [List.getElem_toArray, List.getElem_cons_succ, List.getElem_cons_zero, Act.put, List.setIfInBounds_toArray, List.set_cons_succ, List.set_cons_zero]
        refine plan_skip rfl rfl ?_
        simp only [List.getElem_toArray, List.getElem_cons_succ, List.getElem_cons_zero, Act.put, List.setIfInBounds_toArray, List.set_cons_succ, List.set_cons_zero]
        refine plan_skip rfl rfl ?_
        simp only [List.getElem_toArray, List.getElem_cons_succ, List.getElem_cons_zero, Act.put, List.setIfInBounds_toArray, List.set_cons_succ, List.set_cons_zero]
        refine plan_skip rfl rfl ?_
        simp only [List.getElem_toArray, List.getElem_cons_succ, List.getElem_cons_zero, Act.put, List.setIfInBounds_toArray, List.set_cons_succ, List.set_cons_zero]
        refine plan_skip rfl rfl ?_
        simp only [List.getElem_toArray, List.getElem_cons_succ, List.getElem_cons_zero, Act.put, List.setIfInBounds_toArray, List.set_cons_succ, List.set_cons_zero]
        refine plan_skip rfl rfl ?_
        simp only [List.getElem_toArray, List.getElem_cons_succ, List.getElem_cons_zero, Act.put, List.setIfInBounds_toArray, List.set_cons_succ, List.set_cons_zero]
        refine turn_skip rfl rfl ?_
        simp only [List.getElem_toArray, List.getElem_cons_succ, List.getElem_cons_zero, Act.put, List.setIfInBounds_toArray, List.set_cons_succ, List.set_cons_zero]
        refine turn_skip rfl rfl ?_
        simp only [List.getElem_toArray, List.getElem_cons_succ, List.getElem_cons_zero, Act.put, List.setIfInBounds_toArray, List.set_cons_succ, List.set_cons_zero]
        refine turn_skip rfl rfl ?_
        simp only [List.getElem_toArray, List.getElem_cons_succ, List.getElem_cons_zero, Act.put, List.setIfInBounds_toArray, List.set_cons_succ, List.set_cons_zero]
        refine plan_skip rfl rfl ?_
        simp only [List.getElem_toArray, List.getElem_cons_succ, List.getElem_cons_zero, Act.put, List.setIfInBounds_toArray, List.set_cons_succ, List.set_cons_zero]
        refine plan_tell rfl rfl (fun W hS => by
          go_simp
          first | done | rfl) ?_
        simp only [List.getElem_toArray, List.getElem_cons_succ, List.getElem_cons_zero, Act.put, List.setIfInBounds_toArray, List.set_cons_succ, List.set_cons_zero]
        unfold wpPlan
        clear h7 h7i e7 e7' e7n
        go_wp2_with fail
        go_meet
        exact ⟨rfl, l, fz, gB, gM, HTd, HWd, ⟨HRHd.out.2⟩, ⟨HLTd.out.2⟩⟩
      · as_aux_lemma =>
        have e7 : ((d : Int) == 7) = false := by simp; omega
        have e7' : decide ((d : Int) = 7) = false := by simp; omega
        have e7n : ((d : Int) != 7) = true := by simp; omega
        have h7i : ¬ (d : Int) = 7 := by omega
        refine plan_tell rfl rfl (fun W hS => by
          go_simp
          first | done | rfl) ?_
        simp only [List.getElem_toArray, List.getElem_cons_succ, List.getElem_cons_zero, Act.put, List.setIfInBounds_toArray, List.set_cons_succ, List.set_cons_zero]
        refine plan_tell rfl rfl (fun W hS => by
          have a1 := (ac_parts HAO.out HAC.out hS.2).1
          go_simp
          first | done | rfl) ?_
        simp only [List.getElem_toArray, List.getElem_cons_succ, List.getElem_cons_zero, Act.put, List.setIfInBounds_toArray, List.set_cons_succ, List.set_cons_zero]
        refine plan_tell rfl rfl (fun W hS => by
          go_simp
          first | done | rfl) ?_
        simp only [List.getElem_toArray, List.getElem_cons_succ, List.getElem_cons_zero, Act.put, List.setIfInBounds_toArray, List.set_cons_succ, List.set_cons_zero]
        refine plan_tell rfl rfl (v := .bool true) (fun W hS => by
          go_simp
          first | done | rfl) ?_
        simp only [List.getElem_toArray, List.getElem_cons_succ, List.getElem_cons_zero, Act.put, List.setIfInBounds_toArray, List.set_cons_succ, List.set_cons_zero]
        refine plan_tell rfl rfl (fun W hS => by
          go_simp
          first | done | rfl) ?_
        simp only [List.getElem_toArray, List.getElem_cons_succ, List.getElem_cons_zero, Act.put, List.setIfInBounds_toArray, List.set_cons_succ, List.set_cons_zero]
        refine plan_tellG rfl rfl (fun W hS => by
          go_simp
          first | done | rfl) ?_
        simp only [List.getElem_toArray, List.getElem_cons_succ, List.getElem_cons_zero, Act.put, List.setIfInBounds_toArray, List.set_cons_succ, List.set_cons_zero]
        refine plan_tellG rfl rfl (v := .agg ch) (fun W hS => exec_loadRow (g := hb) rfl rfl hS.1 Tryd.underlying54 rfl HIH.out) ?_
        simp only [List.getElem_toArray, List.getElem_cons_succ, List.getElem_cons_zero, Act.put, List.setIfInBounds_toArray, List.set_cons_succ, List.set_cons_zero]
        refine plan_tellG rfl rfl (fun W hS => by
          go_simp
          first | done | rfl) ?_
        simp only [List.getElem_toArray, List.getElem_cons_succ, List.getElem_cons_zero, Act.put, List.setIfInBounds_toArray, List.set_cons_succ, List.set_cons_zero]
        refine plan_tellG rfl rfl (fun W hS => by
          go_simp
          first | done | rfl) ?_
        simp only [List.getElem_toArray, List.getElem_cons_succ, List.getElem_cons_zero, Act.put, List.setIfInBounds_toArray, List.set_cons_succ, List.set_cons_zero]
        refine plan_tellG rfl rfl (v := .agg ch) (fun W hS => exec_loadRow (g := hb) rfl rfl hS.1 Tryd.underlying54 rfl HIH.out) ?_
        simp only [List.getElem_toArray, List.getElem_cons_succ, List.getElem_cons_zero, Act.put, List.setIfInBounds_toArray, List.set_cons_succ, List.set_cons_zero]
        refine plan_tellG rfl rfl (fun W hS => by
          go_simp
          first | done | rfl) ?_
        simp only [List.getElem_toArray, List.getElem_cons_succ, List.getElem_cons_zero, Act.put, List.setIfInBounds_toArray, List.set_cons_succ, List.set_cons_zero]
        clear h7 h7i e7 e7' e7n hm1 hm2
        have hmap : (l.map ofH).length = m + 1 := by rw [List.length_map]; exact HLM.out
        have hsm : (l.map ofH)[m]? = some (ofH s) := by rw [List.getElem?_map, HSL.out]; rfl
        refine turn_callG (f := 33) (args := #[.pointer (some ⟨cb, 0, none⟩), .agg ch, .int .u64 (now2 : Int)]) rfl rfl rfl Tryd.func33 (by as_aux_lemma => kernel_rfl) rfl (by simp only [List.map_toArray, List.map_cons, List.map_nil]; rfl) ?_
        refine (Update_calls wd BB cb gB p (l.map ofH) fz HTd.out.c m hmap (by omega) (ofH s) hsm h2 HHO.out ch HCH.out now2 HNOW2.out (laid_move HL.out HWd.out H1.out) (Nat.lt_of_lt_of_le H1.out HWd.out.size)).mono ?_
        rintro e w1 ⟨v, g', rfl, he, hcg, hgg, hmod⟩
        have HMD := Fact.mk hmod.out
        have HCG1 := Fact.mk hcg.out
        have HGG := Fact.mk hgg.out
        have HE := Fact.mk he.out
        have HW1 : Fact (Below w.heap.size w w1) := ⟨HWd.out.trans (hmod.out.below HWd.out.size (by have := HTd.out.n1; omega) (by have := HTd.out.n1; omega))⟩
        have HR1 : Fact (w1.heap[hb]? = some (.cells ch 54 (0, 0)) ∧ w1.heap[b13]? = some (.cells ac 70 (0, 0))) := ⟨(hmod.out.block _ HLTd.out.1 (by have := HLT.out; have := HHB.out; omega) (by have := HLT.out; have := HHB.out; omega)).trans HRHd.out.1, (hmod.out.block _ HLTd.out.2 (by have := HKL.out; omega) (by have := HKL.out; omega)).trans HRHd.out.2⟩
        have HS1 : Fact (wd.heap.size ≤ w1.heap.size) := ⟨hmod.out.size⟩
        clear he hcg hgg hmod hmap hsm
        refine ⟨_, rfl, HR1.out, ?_⟩
        simp only [List.getElem_toArray, List.getElem_cons_succ, List.getElem_cons_zero, Act.put, List.setIfInBounds_toArray, List.set_cons_succ, List.set_cons_zero]
        refine turn_callG (f := 19) (args := #[v]) rfl rfl rfl Tryd.func19 (by as_aux_lemma => kernel_rfl) rfl (by simp only [List.map_toArray, List.map_cons, List.map_nil]; rfl) ?_
        refine (HE.out.code (HG.out.below HW1.out HG.out.lt)).mono ?_
        rintro e w2 ⟨rfl, hb2⟩
        have HB2 := Fact.mk hb2
        have HR2 : Fact (w2.heap[hb]? = some (.cells ch 54 (0, 0)) ∧ w2.heap[b13]? = some (.cells ac 70 (0, 0))) := ⟨(hb2.block _ (by have := HS1.out; have := HLTd.out; omega)).trans HR1.out.1, (hb2.block _ (by have := HS1.out; have := HLTd.out; omega)).trans HR1.out.2⟩
        have HW2 : Fact (Below w.heap.size w w2) := ⟨HW1.out.trans (hb2.mono HW1.out.size)⟩
        have HMC2 := Fact.mk (two_mid HTd.out HMD.out hb2)
        have HS2 : Fact (wd.heap.size ≤ w2.heap.size) := ⟨Nat.le_trans HS1.out hb2.size⟩
        clear hb2 HE
        refine ⟨_, rfl, HR2.out, ?_⟩
        simp only [List.getElem_toArray, List.getElem_cons_succ, List.getElem_cons_zero, Act.put, List.setIfInBounds_toArray, List.set_cons_succ, List.set_cons_zero]
        refine turn_callG (f := 41) (args := #[.pointer (some ⟨cm, 0, none⟩), .agg ch, .int .u64 (now2 : Int)]) rfl rfl rfl Tryd.func41 (by as_aux_lemma => kernel_rfl) rfl (by simp only [List.map_toArray, List.map_cons, List.map_nil]; rfl) ?_
        refine (RUpdate_calls w2 cm gM p l fz HMC2.out m HLM.out (by omega) s HSL.out HP12.out.1 HP12.out.2 HSB.out.2 h2 HHO.out ch HCH.out now2 HNOW2.out (laidR_move HLR.out HW2.out H2.out) (Nat.lt_of_lt_of_le H2.out HW2.out.size)).mono ?_
        rintro e w3 ⟨rfl, hu⟩
        have HU := Fact.mk hu.out
        have hmod2 : Mod cm cm w2 w3 := by obtain ⟨_, _, _, _, _, _, k⟩ := hu.out; exact k
        have HW3 : Fact (Below w.heap.size w w3) := ⟨HW2.out.trans (hmod2.below HW2.out.size (by have := HTd.out.n1; omega) (by have := HTd.out.n1; omega))⟩
        have HR3 : Fact (w3.heap[hb]? = some (.cells ch 54 (0, 0)) ∧ w3.heap[b13]? = some (.cells ac 70 (0, 0))) := ⟨(hmod2.block _ (by have := HS2.out; have := HLTd.out; omega) (by have := HLT.out; have := HHB.out; omega) (by have := HLT.out; have := HHB.out; omega)).trans HR2.out.1, (hmod2.block _ (by have := HS2.out; have := HLTd.out; omega) (by have := HKL.out; omega) (by have := HKL.out; omega)).trans HR2.out.2⟩
        have HL3 : Fact (b13 < w3.heap.size) := ⟨by have := hmod2.size; have := HS2.out; have := HLTd.out; omega⟩
        have HT3 := Fact.mk (two_upd HTd.out HMD.out HCG1.out HGG.out HB2.out HU.out (by have := HWd.out.size; have := HLTd.out; have := HLT.out; have := HAL.out; omega))
        clear hu hmod2
        refine ⟨_, rfl, HR3.out, ?_⟩
        simp only [List.getElem_toArray, List.getElem_cons_succ, List.getElem_cons_zero, Act.put, List.setIfInBounds_toArray, List.set_cons_succ, List.set_cons_zero]
        clear HMD HCG1 HU HB2 HMC2
        generalize (updM p (l.map ofH) fz (ofH s) h2 now2).1 = c1
        refine plan_tellG rfl rfl (v := .bool false) (fun W hS => by
          go_simp
          first | done | rfl) ?_
        simp only [List.getElem_toArray, List.getElem_cons_succ, List.getElem_cons_zero, Act.put, List.setIfInBounds_toArray, List.set_cons_succ, List.set_cons_zero]
        refine plan_tell rfl rfl (fun W hS => by
          go_simp
          first | done | rfl) ?_
        simp only [List.getElem_toArray, List.getElem_cons_succ, List.getElem_cons_zero, Act.put, List.setIfInBounds_toArray, List.set_cons_succ, List.set_cons_zero]
        unfold wpPlan
        obtain ⟨l2, fz2, g2, gm2, ht3⟩ := HT3.out
        have HT4 := Fact.mk ht3
        clear ht3 HT3
        go_wp2_with fail
        go_meet
        exact ⟨rfl, l2, fz2, g2, gm2, HT4, HW3, ⟨HR3.out.2⟩, HL3⟩
    case rest => as_aux_lemma =>
    obtain ⟨rfl, l2, fz2, g2, gm2, HTY, HWY, HRY, HBY⟩ := hcut
    clear HTX HWX HRX HHX HBX HTA
    obtain ⟨m2, s2, hlm, hm15, hsl, hso, hsh, hst⟩ := HTY.out.last
    have HLM2 := Fact.mk hlm
    have HSL2 := Fact.mk hsl
    have HSO2 := Fact.mk hso
    have hmap : (l2.map ofH).length = m2 + 1 := by rw [List.length_map]; exact hlm
    have hsm : (l2.map ofH)[m2]? = some (ofH s2) := by rw [List.getElem?_map, hsl]; rfl
    have HMAP := Fact.mk hmap
    have HSM := Fact.mk hsm
    have HST2 := Fact.mk hst
    obtain ⟨q0, hq0⟩ : ∃ q0, statE fz2 p (ofH s2) now2 = q0 := ⟨_, rfl⟩
    have HST := Fact.mk (Status_calls wc BB cb p (l2.map ofH) fz2 HTY.out.c.cl m2 hmap (ofH s2) hsm now2 HNOW2.out)
    have HRS : Fact (∀ W, Below wc.heap.size wc W → Calls Tryd.prog 42 #[.pointer (some ⟨cm, 0, none⟩), .int .u64 (now2 : Int)] W fun e w' => e = .returned (.int .i64 q0) ∧ Below W.heap.size W w') := ⟨fun W hW => by
      have := RStatus_calls W cm gm2 p l2 fz2 (HTY.out.m.below hW) m2 HLM2.out s2 HSL2.out HP12.out.1 HP12.out.2 HST2.out now2 HNOW2.out
      rwa [hq0] at this⟩
    rw [hq0] at HST
    have HQ0 := Fact.mk hq0
    clear hlm hsl hso hsh hst hmap hsm hq0
    go_wp2_with (go_at_call 36; fail)
    refine HST.out.mono ?_
    rintro e y1 ⟨v, rfl, he, hb⟩
    have HU1 := Fact.mk hb
    have HWU1 : Fact (Below w.heap.size w y1) := ⟨HWY.out.trans (hb.mono HWY.out.size)⟩
    have HE := Fact.mk he.out
    clear hb he HST
    go_wp2_with (go_at_call 19; fail)
    refine (HE.out.code (HG.out.below HWU1.out HG.out.lt)).mono ?_
    rintro e y2 ⟨rfl, hb⟩
    have HU2 : Fact (Below wc.heap.size wc y2) := ⟨HU1.out.trans (hb.mono HU1.out.size)⟩
    clear hb HE HU1 HWU1
    go_wp2_with (go_at_call 42; fail)
    refine (HRS.out y2 HU2.out).mono ?_
    rintro e y3 ⟨rfl, hb⟩
    have HU3 : Fact (Below wc.heap.size wc y3) := ⟨HU2.out.trans (hb.mono HU2.out.size)⟩
    clear hb HU2 HRS
    go_wp2_with (go_at_call 35; fail)
    refine (Latest_calls y3 BB cb p (l2.map ofH) fz2 (HTY.out.c.below HU3.out).cl m2 HMAP.out (ofH s2) HSM.out).mono ?_
    rintro e y4 ⟨rfl, qd, rfl⟩
    have HU4 : Fact (Below wc.heap.size wc (y3.drewN qd)) := ⟨below_drewN' HU3.out qd⟩
    have hofh : (ofH s2).ht = s2.ht := rfl
    rw [hofh]
    generalize y3.drewN qd = y4 at HU4 ⊢
    clear HU3 hofh
    clear y3 y2 y1
    go_wp2_with (go_at_call 40; fail)
    refine (RLatest_calls y4 cm gm2 p l2 fz2 (HTY.out.m.below HU4.out) m2 HLM2.out s2 HSL2.out).mono ?_
    rintro e y5 ⟨⟨ds, rfl, hds⟩, hb⟩
    have HU5 : Fact (Below wc.heap.size wc y5) := ⟨HU4.out.trans (hb.mono HU4.out.size)⟩
    have HF0 : Fact (ds[0]? = some (.int .u64 (s2.ht : Int))) := ⟨by rw [← Array.getElem?_toList, hds.out]; rfl⟩
    clear hb hds HU4
    have HT5 : Fact (Two (w.heap.size + 1) y5 BB cb cm p l2 fz2 g2 gm2) := ⟨HTY.out.below HU5.out⟩
    have HW5 : Fact (Below w.heap.size w y5) := ⟨HWY.out.trans (HU5.out.mono HWY.out.size)⟩
    have HR5 : Fact (y5.heap[b13]? = some (.cells ac 70 (0, 0)) ∧ b13 < y5.heap.size) := ⟨(HU5.out.block _ HBY.out).trans HRY.out, Nat.lt_of_lt_of_le HBY.out HU5.out.size⟩
    clear HU5 HTY HWY HRY HBY HMAP HSM HQ0 HST2 HSL2 HSO2
    go_wp2_with (first
      | (refine wpList_okG (o := ⟨some 141, _, _, _, _, _⟩) rfl (exec_field rfl rfl (field_ht HF0.out _)) ?_)
      | (go_at_call 34; fail))
    clear HF0
    have hml : 0 < (l2.map ofH).length := by rw [List.length_map]; have := HT5.out.len; omega
    refine (Heights_calls y5 BB cb p (l2.map ofH) fz2 HT5.out.c.cl hml (by rw [List.length_map]; have := HT5.out.len; omega)).mono ?_
    rintro e y6 ⟨⟨A6, c6, rfl, hsl6⟩, hb⟩
    have HSL6 := Fact.mk hsl6.out
    have HT6 : Fact (Two (w.heap.size + 1) y6 BB cb cm p l2 fz2 g2 gm2) := ⟨HT5.out.below hb⟩
    have HW6 : Fact (Below w.heap.size w y6) := ⟨HW5.out.trans (hb.mono HW5.out.size)⟩
    have HR6 : Fact (y6.heap[b13]? = some (.cells ac 70 (0, 0)) ∧ b13 < y6.heap.size) := ⟨(hb.block _ HR5.out.2).trans HR5.out.1, Nat.lt_of_lt_of_le HR5.out.2 hb.size⟩
    clear hb hsl6 HT5 HW5 HR5
    obtain ⟨L, hL⟩ : ∃ L, (l2.map ofH).length = L := ⟨_, rfl⟩
    rw [hL] at HSL6 hml ⊢
    have hL2 : l2.length = L := by rw [← hL, List.length_map]
    obtain ⟨o6, c7, hrow, -, hat⟩ := Mc.pl HT6.out.m (by have := HT6.out.len; omega)
    rw [hL2] at hrow
    have hL16 : L ≤ 16 := by rw [← hL2]; exact HT6.out.len.2
    have HLL := Fact.mk hL2
    have HLM3 := Fact.mk hL
    have HROW := Fact.mk hrow
    have HAT := Fact.mk hat
    have a1 : y6.cell? ⟨cm, 1, none⟩ = some (.slice (some ⟨gm2, o6, none⟩) L c7) := row_cell hrow rfl
    clear hrow hat hL hL2
    go_wp2_with fail
    clear a1
    go_loopg [156] L (fun kq v156 wr => ∃ j : Nat, v156 = .int .i64 (j : Int) ∧ Fact (j + kq = L) ∧ Fact (Below y6.heap.size y6 wr))
    case atStart => exact ⟨0, rfl, ⟨by omega⟩, ⟨Below.refl _ _⟩⟩
    case round =>
      obtain ⟨j, rfl, HJ, HBJ⟩ := hrel
      have hjl := HJ.out
      by_cases hjL : j < L
      · as_aux_lemma =>
        obtain ⟨x, hx⟩ : ∃ x, l2[j]? = some x := ⟨_, List.getElem?_eq_getElem (by rw [HLL.out]; exact hjL)⟩
        obtain ⟨ad, dc, rfl, hfb, hkd, hcell⟩ := HSL6.out.at_ (i := j) (x := x.ht) (by rw [List.getElem?_map, List.getElem?_map, hx]; rfl)
        have hkd' : dc = [.int .u64 (x.ht : Int)] := hkd
        subst hkd'
        have hc0 := hcell 0 _ rfl
        rw [show j * rNat.sz + 0 = j from by show j * 1 + 0 = j; omega] at hc0
        have HX := Fact.mk hx
        have HXO : Fact (x.ok ∧ y6.rangeAt gm2 (o6 + j * 162) (knC x)) := ⟨HAT.out j x hx⟩
        have a0 : wr.cell? (ad.add j) = some (.int .u64 (x.ht : Int)) := (HBJ.out.cell (p := ad.add j) (by rw [Lib.block_add]; exact hfb.2)).trans hc0
        have hji : (j : Int) < (L : Int) := by omega
        clear hx hkd hc0 hcell hfb
        go_wp2_with (go_at_call 37; fail)
        clear a0
        refine (Root_calls wr BB cb p (l2.map ofH) fz2 (HT6.out.below HBJ.out).c.cl (by rw [HLM3.out]; omega) (by rw [HLM3.out]; omega) x.ht).mono ?_
        rintro e y7 ⟨⟨vr, rfl, hv⟩, hb⟩
        have hq := find_nd HT6.out.nd HX.out
        obtain ⟨s7, dr, rfl, hdr, hf⟩ | ⟨hf, -⟩ := hv.out
        rotate_left
        · rw [hq] at hf; cases hf
        obtain rfl : ofH x = s7 := by rw [hq] at hf; injection hf
        have HDR : Fact (dr.toList = x.root.map vu8) := ⟨hdr⟩
        have HB8 : Fact (Below y6.heap.size y6 (y7.alloc (.cells dr 52))) := ⟨(HBJ.out.trans (hb.mono HBJ.out.size)).alloc (Nat.le_trans HBJ.out.size hb.size) _⟩
        have HRD : Fact ((y7.alloc (.cells dr 52)).heap[y7.heap.size]? = some (.cells dr 52 (0, 0))) := ⟨heap_alloc_new _ _⟩
        have HA7 : Fact ((y7.alloc (.cells (bArr []) 52)).heap[y7.heap.size]? = some (.cells (bArr []) 52 (0, 0))) := ⟨heap_alloc_new _ _⟩
        have HLB : Fact (y7.heap.size < (y7.alloc (.cells dr 52)).heap.size) := ⟨by simp⟩
        have hIR : Fact ((Tryd.prog.info? 52).map (·.size) = some dr.size) := ⟨hash_i (bytes_size HDR.out HXO.out.1.root)⟩
        have hIZ : Fact ((bArr []).size = dr.size) := ⟨by rw [bytes_size HDR.out HXO.out.1.root]; rfl⟩
        clear hv hf hdr hq hb
        go_wp2_with (first
          | (refine wpList_ok rfl (ShaB.exec_alloc rfl (alloc_b _)) ?_)
          | (refine wpList_store_row rfl 52 (.tmp 18) (.tmp 165) rfl y7.heap.size dr rfl rfl 52 (bArr []) HA7.out hIR.out hIZ.out (bytes_one HDR.out) ?_
             rw [World.setRow_alloc_new]
             refine Fact.out ?_))
        refine ⟨?_⟩
        clear HA7
        obtain ⟨rb, hrb⟩ : ∃ rb, y7.heap.size = rb := ⟨_, rfl⟩
        generalize y7.alloc (.cells dr 52) = y8 at HB8 HRD HLB ⊢
        rw [hrb] at HRD HLB ⊢
        clear hrb HBJ
        have hcm6 : cm < y6.heap.size := HT6.out.m.1
        have hgm6 : gm2 < y6.heap.size := HT6.out.m.2.1
        have HBU : Fact (∀ W, Below y8.heap.size y8 W → Below y6.heap.size y6 W) := ⟨fun W hW => HB8.out.trans (hW.mono HB8.out.size)⟩
        have HCL : Fact (∀ W, Below y8.heap.size y8 W → W.cell? ⟨cm, 1, none⟩ = some (.slice (some ⟨gm2, o6, none⟩) L c7)) := ⟨fun W hW => row_cell (((HBU.out W hW).block _ hcm6).trans HROW.out) rfl⟩
        have HX0 : Fact (∀ W, Below y8.heap.size y8 W → W.cell? ⟨gm2, o6 + j * 162, none⟩ = some (.int .u64 (x.ht : Int))) := ⟨fun W hW => (range_below HXO.out.2 (HBU.out W hW) hgm6) 0 _ (knC_hd HXO.out.1 rfl)⟩
        obtain ⟨cr, hcr⟩ : ∃ cr : Array Value, cr = (x.root.map vu8).toArray := ⟨_, rfl⟩
        have HCR : Fact (cr.toList = x.root.map vu8) := ⟨by rw [hcr]⟩
        have HLR2 : Fact (∀ W, Below y8.heap.size y8 W → (Instr.loadAt 52 (.pointer (some ⟨gm2, o6 + j * 162 + 2, none⟩))).run Tryd.prog W = .ok (.agg cr) W) := ⟨fun W hW => by rw [hcr]; exact load_hash HXO.out.1.root (kn_root HXO.out.1 (range_below HXO.out.2 (HBU.out W hW) hgm6))⟩
        have heq := eq_hash hash_u hash_c hash_k dr cr x.root x.root HDR.out HCR.out HXO.out.1.root HXO.out.1.root
        rw [beq_self_eq_true] at heq
        have HEQ := Fact.mk heq
        have hap : (⟨gm2, o6, none⟩ : Addr).add (j * 162) = ⟨gm2, o6 + j * 162, none⟩ := add_at _ _ _
        clear hcr heq
        go_wp2_with fail
        refine wp_region_P (fun W => Below y8.heap.size y8 W) (.tell 0 (.tell 1 (.tell 2 (.tell 3 (.tell 4 (.tell 5 (.tell 6 (.tell 7 (.tell 8 (.tell 9 (.tell 10 (.tell 11 (.tell 12 (.tell 13 (.tell 14 (.tell 15 (.tell 16 (.tell 17 (.tell 18 (.tell 19 (.tell 20 (.tell 21 (.tell 22 (.tell 23 (.tell 24 (.tell 25 (.tell 26 (.tell 27 .done)))))))))))))))))))))))))))) (by as_aux_lemma => kernel_rfl) (by as_aux_lemma => kernel_rfl) (by as_aux_lemma => kernel_rfl) (by intro c a d v w h; cases d <;> exact h) (Below.refl _ _).drew ?_
        have HBd : Fact (Below y8.heap.size y8 y8.drew) := ⟨(Below.refl _ _).drew⟩
        generalize y8.drew = wd at HBd ⊢
        refine plan_tell rfl rfl (fun W hS => by
          go_simp
          first | done | rfl) ?_
        simp only [List.getElem_toArray, List.getElem_cons_succ, List.getElem_cons_zero, Act.put, List.setIfInBounds_toArray, List.set_cons_succ, List.set_cons_zero]
        refine plan_tell rfl rfl (fun W hS => by
          go_simp
          first | done | rfl) ?_
        simp only [List.getElem_toArray, List.getElem_cons_succ, List.getElem_cons_zero, Act.put, List.setIfInBounds_toArray, List.set_cons_succ, List.set_cons_zero]
        refine plan_tell rfl rfl (fun W hS => by
          go_simp
          first | done | rfl) ?_
        simp only [List.getElem_toArray, List.getElem_cons_succ, List.getElem_cons_zero, Act.put, List.setIfInBounds_toArray, List.set_cons_succ, List.set_cons_zero]
        refine plan_tell rfl rfl (fun W hS => by
          go_simp
          first | done | rfl) ?_
        simp only [List.getElem_toArray, List.getElem_cons_succ, List.getElem_cons_zero, Act.put, List.setIfInBounds_toArray, List.set_cons_succ, List.set_cons_zero]
        refine plan_tell rfl rfl (fun W hS => by
          have a1 := HCL.out W hS
          go_simp
          first | done | rfl) ?_
        simp only [List.getElem_toArray, List.getElem_cons_succ, List.getElem_cons_zero, Act.put, List.setIfInBounds_toArray, List.set_cons_succ, List.set_cons_zero]
        refine plan_tell rfl rfl (fun W hS => by
          go_simp
          first | done | rfl) ?_
        simp only [List.getElem_toArray, List.getElem_cons_succ, List.getElem_cons_zero, Act.put, List.setIfInBounds_toArray, List.set_cons_succ, List.set_cons_zero]
        refine plan_tell rfl rfl (fun W hS => by
          go_simp
          first | done | rfl) ?_
        simp only [List.getElem_toArray, List.getElem_cons_succ, List.getElem_cons_zero, Act.put, List.setIfInBounds_toArray, List.set_cons_succ, List.set_cons_zero]
        refine plan_tell rfl rfl (fun W hS => by
          go_simp
          first | done | rfl) ?_
        simp only [List.getElem_toArray, List.getElem_cons_succ, List.getElem_cons_zero, Act.put, List.setIfInBounds_toArray, List.set_cons_succ, List.set_cons_zero]
        refine plan_tell rfl rfl (fun W hS => by
          go_simp
          first | done | rfl) ?_
        simp only [List.getElem_toArray, List.getElem_cons_succ, List.getElem_cons_zero, Act.put, List.setIfInBounds_toArray, List.set_cons_succ, List.set_cons_zero]
        refine plan_tell rfl rfl (fun W hS => by
          have a1 := HX0.out W hS
          go_simp
          first | done | rfl) ?_
        simp only [List.getElem_toArray, List.getElem_cons_succ, List.getElem_cons_zero, Act.put, List.setIfInBounds_toArray, List.set_cons_succ, List.set_cons_zero]
        refine plan_tell rfl rfl (v := .bool false) (fun W hS => by
          go_simp
          first | done | rfl) ?_
        simp only [List.getElem_toArray, List.getElem_cons_succ, List.getElem_cons_zero, Act.put, List.setIfInBounds_toArray, List.set_cons_succ, List.set_cons_zero]
        refine plan_tell rfl rfl (fun W hS => by
          go_simp
          first | done | rfl) ?_
        simp only [List.getElem_toArray, List.getElem_cons_succ, List.getElem_cons_zero, Act.put, List.setIfInBounds_toArray, List.set_cons_succ, List.set_cons_zero]
        refine plan_tellG rfl rfl (fun W hS => by
          go_simp
          first | done | rfl) ?_
        simp only [List.getElem_toArray, List.getElem_cons_succ, List.getElem_cons_zero, Act.put, List.setIfInBounds_toArray, List.set_cons_succ, List.set_cons_zero]
        refine plan_tellG rfl rfl (v := .bool false) (fun W hS => by
          go_simp
          first | done | rfl) ?_
        simp only [List.getElem_toArray, List.getElem_cons_succ, List.getElem_cons_zero, Act.put, List.setIfInBounds_toArray, List.set_cons_succ, List.set_cons_zero]
        refine plan_tell rfl rfl (fun W hS => by
          go_simp
          first | done | rfl) ?_
        simp only [List.getElem_toArray, List.getElem_cons_succ, List.getElem_cons_zero, Act.put, List.setIfInBounds_toArray, List.set_cons_succ, List.set_cons_zero]
        refine plan_tell rfl rfl (fun W hS => by
          go_simp
          first | done | rfl) ?_
        simp only [List.getElem_toArray, List.getElem_cons_succ, List.getElem_cons_zero, Act.put, List.setIfInBounds_toArray, List.set_cons_succ, List.set_cons_zero]
        refine plan_tellG rfl rfl (v := .agg dr) (fun W hS => exec_loadRow (g := rb) rfl rfl ((hS.block _ HLB.out).trans HRD.out) hash_u rfl hIR.out) ?_
        simp only [List.getElem_toArray, List.getElem_cons_succ, List.getElem_cons_zero, Act.put, List.setIfInBounds_toArray, List.set_cons_succ, List.set_cons_zero]
        refine plan_tellG rfl rfl (fun W hS => by
          go_simp
          first | done | rfl) ?_
        simp only [List.getElem_toArray, List.getElem_cons_succ, List.getElem_cons_zero, Act.put, List.setIfInBounds_toArray, List.set_cons_succ, List.set_cons_zero]
        refine plan_tellG rfl rfl (fun W hS => by
          go_simp
          first | done | rfl) ?_
        simp only [List.getElem_toArray, List.getElem_cons_succ, List.getElem_cons_zero, Act.put, List.setIfInBounds_toArray, List.set_cons_succ, List.set_cons_zero]
        refine plan_tellG rfl rfl (fun W hS => by
          go_simp
          first | done | rfl) ?_
        simp only [List.getElem_toArray, List.getElem_cons_succ, List.getElem_cons_zero, Act.put, List.setIfInBounds_toArray, List.set_cons_succ, List.set_cons_zero]
        refine plan_tellG rfl rfl (fun W hS => by
          have a1 := HCL.out W hS
          go_simp
          first | done | rfl) ?_
        simp only [List.getElem_toArray, List.getElem_cons_succ, List.getElem_cons_zero, Act.put, List.setIfInBounds_toArray, List.set_cons_succ, List.set_cons_zero]
        refine plan_tellG rfl rfl (fun W hS => by
          go_simp
          first | done | rfl) ?_
        simp only [List.getElem_toArray, List.getElem_cons_succ, List.getElem_cons_zero, Act.put, List.setIfInBounds_toArray, List.set_cons_succ, List.set_cons_zero]
        refine plan_tellG rfl rfl (fun W hS => by
          go_simp
          first | done | rfl) ?_
        simp only [List.getElem_toArray, List.getElem_cons_succ, List.getElem_cons_zero, Act.put, List.setIfInBounds_toArray, List.set_cons_succ, List.set_cons_zero]
        refine plan_tellG rfl rfl (fun W hS => by
          go_simp
          first | done | rfl) ?_
        simp only [List.getElem_toArray, List.getElem_cons_succ, List.getElem_cons_zero, Act.put, List.setIfInBounds_toArray, List.set_cons_succ, List.set_cons_zero]
        refine plan_tellG rfl rfl (fun W hS => by
          go_simp
          first | done | rfl) ?_
        simp only [List.getElem_toArray, List.getElem_cons_succ, List.getElem_cons_zero, Act.put, List.setIfInBounds_toArray, List.set_cons_succ, List.set_cons_zero]
        refine plan_tellG rfl rfl (v := .agg cr) (fun W hS => exec_loadAt rfl rfl (HLR2.out W hS)) ?_
        simp only [List.getElem_toArray, List.getElem_cons_succ, List.getElem_cons_zero, Act.put, List.setIfInBounds_toArray, List.set_cons_succ, List.set_cons_zero]
        refine plan_tellG rfl rfl (v := .bool false) (fun W hS => by
          have hq := HEQ.out W
          go_simp
          first | done | rfl) ?_
        simp only [List.getElem_toArray, List.getElem_cons_succ, List.getElem_cons_zero, Act.put, List.setIfInBounds_toArray, List.set_cons_succ, List.set_cons_zero]
        refine plan_tell rfl rfl (fun W hS => by
          go_simp
          first | done | rfl) ?_
        simp only [List.getElem_toArray, List.getElem_cons_succ, List.getElem_cons_zero, Act.put, List.setIfInBounds_toArray, List.set_cons_succ, List.set_cons_zero]
        unfold wpPlan
        have HBN : Fact (Below y6.heap.size y6 wd) := ⟨HBU.out wd HBd.out⟩
        clear hap HBd
        go_wp2_with fail
        go_roundg (L - (j + 1))
        case measure => omega
        case rel => exact ⟨j + 1, by go_num, ⟨by omega⟩, HBN⟩
      · as_aux_lemma =>
        have hji : ¬ (j : Int) < (L : Int) := by omega
        have HT7 : Fact (Two (w.heap.size + 1) wr BB cb cm p l2 fz2 g2 gm2) := ⟨HT6.out.below HBJ.out⟩
        have HW7 : Fact (Below w.heap.size w wr) := ⟨HW6.out.trans (HBJ.out.mono HW6.out.size)⟩
        have HR7 : Fact (wr.heap[b13]? = some (.cells ac 70 (0, 0)) ∧ b13 < wr.heap.size) := ⟨(HBJ.out.block _ HR6.out.2).trans HR6.out.1, Nat.lt_of_lt_of_le HR6.out.2 HBJ.out.size⟩
        have kn7 := (ac_parts HAO.out HAC.out HR7.out.1).2.2.2.2.2.2.2.2.1
        clear HBJ HROW HAT HSL6
        go_wp2_with (go_at_call 37; fail)
        refine (Root_calls wr BB cb p (l2.map ofH) fz2 HT7.out.c.cl (by rw [HLM3.out]; omega) (by rw [HLM3.out]; omega) a.n).mono ?_
        rintro e y7 ⟨⟨vr, rfl, hv⟩, hb⟩
        have HB7 := Fact.mk hb
        have HV := Fact.mk hv.out
        clear hb hv kn7
        rcases HV.out with ⟨s7, dr, rfl, hdr, hf⟩ | ⟨hf, u, rfl, he⟩
        · as_aux_lemma =>
          have HDR : Fact (dr.size = 32 ∧ dr.all (·.oneCell') = true) := ⟨by
            have hm7 := List.mem_of_find?_eq_some hf
            obtain ⟨y, hy, rfl⟩ := List.mem_map.1 hm7
            obtain ⟨o, c, -, -, hat⟩ := Mc.pl HT7.out.m (by have := HT7.out.len; omega)
            obtain ⟨i, hi, he⟩ := List.getElem_of_mem hy
            have hyo := (hat i y (by rw [List.getElem?_eq_getElem hi, he])).1
            exact ⟨bytes_size hdr hyo.root, bytes_one hdr⟩⟩
          have HF := Fact.mk hf
          have HB8 : Fact (Below wr.heap.size wr (y7.alloc (.cells dr 52))) := ⟨HB7.out.alloc HB7.out.size _⟩
          have HA7 : Fact ((y7.alloc (.cells (bArr []) 52)).heap[y7.heap.size]? = some (.cells (bArr []) 52 (0, 0))) := ⟨heap_alloc_new _ _⟩
          have hIR : Fact ((Tryd.prog.info? 52).map (·.size) = some dr.size) := ⟨hash_i HDR.out.1⟩
          have hIZ : Fact ((bArr []).size = dr.size) := ⟨by rw [HDR.out.1]; rfl⟩
          clear hf hdr HV
          go_wp2_with (first
            | (refine wpList_ok rfl (ShaB.exec_alloc rfl (alloc_b _)) ?_)
            | (refine wpList_store_row rfl 52 (.tmp 20) (.tmp 201) rfl y7.heap.size dr rfl rfl 52 (bArr []) HA7.out hIR.out hIZ.out HDR.out.2 ?_
               rw [World.setRow_alloc_new]
               refine Fact.out ?_))
          refine ⟨?_⟩
          clear HA7 HB7
          obtain ⟨rb, hrb⟩ : ∃ rb, y7.heap.size = rb := ⟨_, rfl⟩
          generalize y7.alloc (.cells dr 52) = y8 at HB8 ⊢
          rw [hrb]
          clear hrb
          have HT8 : Fact (Two (w.heap.size + 1) y8 BB cb cm p l2 fz2 g2 gm2) := ⟨HT7.out.below HB8.out⟩
          have HW8 : Fact (Below w.heap.size w y8) := ⟨HW7.out.trans (HB8.out.mono HW7.out.size)⟩
          have kn8 := (ac_parts HAO.out HAC.out ((HB8.out.block _ HR7.out.2).trans HR7.out.1)).2.2.2.2.2.2.2.2.1
          go_wp2_with (go_at_call 43; fail)
          refine (RAt_calls y8 cm gm2 p l2 fz2 HT8.out.m (by rw [HLL.out]; omega) a.n).mono ?_
          rintro e y9 ⟨rfl, hu9⟩
          obtain rfl : y9 = y8 := hu9
          clear kn8
          rcases atI_spec l2 a.n with ⟨i, y, -, hai, -⟩ | ⟨-, hf2⟩
          rotate_left
          · rw [HF.out] at hf2; cases hf2
          rw [hai]
          have d1 : decide ((0 : Int) ≤ (i : Int)) = true := by rw [decide_eq_true_eq]; omega
          clear hai
          go_wp2_with fail
          go_roundg (N - (k + 1))
          case measure => omega
          case rel => exact ⟨k + 1, now2, l2, fz2, g2, gm2, rfl, by go_num, ⟨by omega⟩, HNOW2, HT8, HW8⟩
        · as_aux_lemma =>
          have HF := Fact.mk hf
          have HB8 : Fact (Below wr.heap.size wr (y7.alloc (.cells (bArr []) 52))) := ⟨HB7.out.alloc HB7.out.size _⟩
          have HA7 : Fact ((y7.alloc (.cells (bArr []) 52)).heap[y7.heap.size]? = some (.cells (bArr []) 52 (0, 0))) := ⟨heap_alloc_new _ _⟩
          have HE8 : Fact (Er wr.heap.size u (y7.alloc (.cells (bArr []) 52)) 32) := ⟨he.move ((Below.refl _ _).alloc (Nat.le_refl _) _)⟩
          have hIR : Fact ((Tryd.prog.info? 52).map (·.size) = some (bArr []).size) := ⟨hash_i rfl⟩
          clear hf he HV
          go_wp2_with (first
            | (refine wpList_ok rfl (ShaB.exec_alloc rfl (alloc_b _)) ?_)
            | (refine wpList_store_row rfl 52 (.tmp 20) (.tmp 201) rfl y7.heap.size (bArr []) rfl rfl 52 (bArr []) HA7.out hIR.out rfl (bytes_one (x := Z32) rfl) ?_
               rw [World.setRow_alloc_new]
               refine Fact.out ?_))
          refine ⟨?_⟩
          clear HB7
          have HLB : Fact (y7.heap.size < (y7.alloc (.cells (bArr []) 52)).heap.size) := ⟨by simp⟩
          obtain ⟨rb, hrb⟩ : ∃ rb, y7.heap.size = rb := ⟨_, rfl⟩
          generalize y7.alloc (.cells (bArr []) 52) = y8 at HB8 HA7 HE8 HLB ⊢
          rw [hrb] at HA7 HLB ⊢
          clear hrb
          have HT8 : Fact (Two (w.heap.size + 1) y8 BB cb cm p l2 fz2 g2 gm2) := ⟨HT7.out.below HB8.out⟩
          have HW8 : Fact (Below w.heap.size w y8) := ⟨HW7.out.trans (HB8.out.mono HW7.out.size)⟩
          have kn8 := (ac_parts HAO.out HAC.out ((HB8.out.block _ HR7.out.2).trans HR7.out.1)).2.2.2.2.2.2.2.2.1
          go_wp2_with (go_at_call 43; fail)
          refine (RAt_calls y8 cm gm2 p l2 fz2 HT8.out.m (by rw [HLL.out]; omega) a.n).mono ?_
          rintro e y9 ⟨rfl, hu9⟩
          obtain rfl : y9 = y8 := hu9
          clear kn8
          rcases atI_spec l2 a.n with ⟨i, y, -, -, hf2⟩ | ⟨hai, -⟩
          · rw [HF.out] at hf2; cases hf2
          rw [hai]
          obtain ⟨h0, -⟩ | ⟨-, b, st, n, hbb, rfl, hi⟩ := HE8.out
          · cases h0
          have en := eql_nil (.step b st n (.num 32))
          have gn := guard_eql (.step b st n (.num 32))
          clear hai hbb hi
          generalize vOf (.step b st n (.num 32)) = u at en gn HE8 ⊢
          go_wp2_with (go_at_call 19; fail)
          refine (HE8.out.code (HG.out.below HW8.out HG.out.lt)).mono ?_
          rintro e y10 ⟨rfl, hb⟩
          have HT10 : Fact (Two (w.heap.size + 1) y10 BB cb cm p l2 fz2 g2 gm2) := ⟨HT8.out.below hb⟩
          have HW10 : Fact (Below w.heap.size w y10) := ⟨HW8.out.trans (hb.mono HW8.out.size)⟩
          have HA10 : Fact (y10.heap[rb]? = some (.cells (bArr []) 52 (0, 0))) := ⟨(hb.block _ HLB.out).trans HA7.out⟩
          clear hb
          obtain ⟨z0, hz0⟩ : ∃ z0 : Array Value, z0 = bArr [] := ⟨_, rfl⟩
          rw [← hz0] at HA10 hIR
          have HZ0 : Fact (z0.toList = Z32.map vu8) := ⟨by rw [hz0]; rfl⟩
          have heq := eq_hash hash_u hash_c hash_k z0 #[.int .u8 0, .int .u8 0, .int .u8 0, .int .u8 0, .int .u8 0, .int .u8 0, .int .u8 0, .int .u8 0, .int .u8 0, .int .u8 0, .int .u8 0, .int .u8 0, .int .u8 0, .int .u8 0, .int .u8 0, .int .u8 0, .int .u8 0, .int .u8 0, .int .u8 0, .int .u8 0, .int .u8 0, .int .u8 0, .int .u8 0, .int .u8 0, .int .u8 0, .int .u8 0, .int .u8 0, .int .u8 0, .int .u8 0, .int .u8 0, .int .u8 0, .int .u8 0] Z32 Z32 HZ0.out rfl (by decide) (by decide)
          rw [beq_self_eq_true] at heq
          clear hz0
          go_wp2_with (first
            | (refine wpList_okG (o := ⟨some 220, _, _, _, _, _⟩) rfl (exec_loadRow (g := rb) rfl rfl HA10.out hash_u rfl hIR.out) ?_))
          go_roundg (N - (k + 1))
          case measure => omega
          case rel => exact ⟨k + 1, now2, l2, fz2, g2, gm2, rfl, by go_num, ⟨by omega⟩, HNOW2, HT10, HW10⟩
end Go.Proofs.YtkmcjokoinoahaaDoor.LawCPlays
