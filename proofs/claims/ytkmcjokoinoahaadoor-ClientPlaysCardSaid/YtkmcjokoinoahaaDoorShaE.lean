/- Sums compared; the laid tables; ferrymanlaw01.Awake: over any world where the tables are laid. -/
import Derived.Test.YtkmcjokoinoahaaDoorShaDS
import Derived.OpenShut
import Derived.WalkSpells
set_option linter.unusedVariables false
set_option linter.unusedSimpArgs false
namespace Go.Proofs.YtkmcjokoinoahaaDoor.ShaE
open Go.RowKit Go.Proofs.YtkmcjokoinoahaaDoor.Lib Go.Proofs.YtkmcjokoinoahaaDoor.LibB Go.Proofs.YtkmcjokoinoahaaDoor.Reg Go.Proofs.YtkmcjokoinoahaaDoor.PlainS Go.Proofs.YtkmcjokoinoahaaDoor.ShaA Go.Proofs.YtkmcjokoinoahaaDoor.ShaB Go.Proofs.YtkmcjokoinoahaaDoor.ShaC Go.Proofs.YtkmcjokoinoahaaDoor.ShaD Go.Proofs.YtkmcjokoinoahaaDoor.ShaDS
/-- A sum's cells: compared with noughts. -/
theorem keys_bytes (l : List UInt8) (n : Nat) (hl : l.length = n) (i : Nat) (hi : i < n) : Tryd.prog.keyLits 1 5 (((l.map vu8).drop (i * 1)).take 1) = some [.int .u8 ((l[i]?.getD 0).toNat : Int)] := by
  have hil : i < l.length := by omega
  have e : ((l.map vu8).drop (i * 1)).take 1 = [vu8 (l[i]?.getD 0)] := by
    rw [Nat.mul_one]
    apply List.ext_getElem?
    intro k
    rw [List.getElem?_take, List.getElem?_drop, List.getElem?_map]
    match k with
    | 0 => simp [hil]
    | k + 1 => simp
  rw [e]
  have := (l[i]?.getD 0).toNat_lt
  unfold Program.keyLits
  rw [Tryd.underlying5]
  simp [vu8, Lit.wf, IntKind.signed, IntKind.bits, IntKind.min, IntKind.max]
  omega
theorem mapM_some {α β : Type} {f : α → Option β} {g : α → β} : ∀ {l : List α}, (∀ x ∈ l, f x = some (g x)) → l.mapM f = some (l.map g)
  | [], _ => rfl
  | x :: r, h => by
    rw [List.mapM_cons, h x List.mem_cons_self, mapM_some (fun y hy => h y (List.mem_cons_of_mem _ hy))]
    rfl
theorem range_map (l : List UInt8) (n : Nat) (hl : l.length = n) {β : Type} (f : UInt8 → β) : ((List.range n).map fun i => [f (l[i]?.getD 0)]).flatten = l.map f := by
  have h1 : ((List.range n).map fun i => [f (l[i]?.getD 0)]) = l.map fun b => [f b] := by
    apply List.ext_getElem?
    intro i
    rw [List.getElem?_map, List.getElem?_map]
    by_cases hi : i < n
    · have hil : i < l.length := by omega
      rw [List.getElem?_range hi, List.getElem?_eq_getElem hil]; simp [hil]
    · rw [List.getElem?_eq_none (by simp; omega), List.getElem?_eq_none (by omega)]; rfl
  rw [h1]
  clear h1 hl
  induction l with
  | nil => rfl
  | cons b r ih => simp [ih]
def litB (b : UInt8) : Lit := .int .u8 (b.toNat : Int)
theorem litB_inj {x y : List UInt8} : x.map litB = y.map litB ↔ x = y := by
  constructor
  · intro h
    exact (List.map_inj_right (fun a b e => by unfold litB at e; injection e with _ e; exact UInt8.toNat_inj.1 (by omega))).1 h
  · rintro rfl; rfl
theorem keys_hash {T : TypeId} (hu : Tryd.prog.underlying T = some (.array 32 5)) (hc : Tryd.prog.cellsOf T = 32) (x : List UInt8) (hx : x.length = 32) : Tryd.prog.keyLits 2 T (x.map vu8) = some (x.map litB) := by
  unfold Program.keyLits
  rw [hu]
  have h1 : Tryd.prog.cellsOf 5 = 1 := by kernel_rfl
  simp only [hc, List.length_map, hx, if_true, h1]
  rw [mapM_some (g := fun i => [litB (x[i]?.getD 0)]) (fun i hi => keys_bytes x 32 hx i (List.mem_range.1 hi))]
  simp only [Option.map_some]
  rw [range_map x 32 hx litB]
set_option maxRecDepth 100000 in
theorem eq_hash {T : TypeId} (hu : Tryd.prog.underlying T = some (.array 32 5)) (hc : Tryd.prog.cellsOf T = 32) (hk : Tryd.prog.keyTypeAt 2 T = true) (xs ys : Array Value) (x y : List UInt8) (hx : xs.toList = x.map vu8) (hy : ys.toList = y.map vu8) (lx : x.length = 32) (ly : y.length = 32) (W : World) :
    (Op.equalIn 10000 T (.agg xs) (.agg ys)).run Tryd.prog W = .ok (x == y) W := by
  have sx : xs.size = 32 := by rw [← Array.length_toList, hx, List.length_map, lx]
  have sy : ys.size = 32 := by rw [← Array.length_toList, hy, List.length_map, ly]
  obtain ⟨r, hr, hi⟩ := run_equalIn_deep (P := Tryd.prog) 9998 2 T hk W 2 2 (.agg xs) (.agg ys) (x.map litB) (y.map litB)
    (by simp [Value.formed, hu, hc, sx]) (by simp [Value.formed, hu, hc, sy]) (by rw [show (Value.agg xs).cells = xs from rfl, hx]; exact keys_hash hu hc x lx) (by rw [show (Value.agg ys).cells = ys from rfl, hy]; exact keys_hash hu hc y ly)
  have hr' : (Op.equalIn 10000 T (.agg xs) (.agg ys)).run Tryd.prog W = .ok r W := hr
  rw [hr']
  congr 1
  rw [Bool.eq_iff_iff, hi, litB_inj]
  simp
theorem hash_u : Tryd.prog.underlying 52 = some (.array 32 5) := Tryd.underlying52
theorem hash_c : Tryd.prog.cellsOf 52 = 32 := by kernel_rfl
theorem hash_k : Tryd.prog.keyTypeAt 2 52 = true := by kernel_rfl
theorem bytes_one {x : List UInt8} {cs : Array Value} (hc : cs.toList = x.map vu8) : cs.all (·.oneCell') = true := by
  rw [Array.all_eq_true_iff_forall_mem]
  intro v hv
  have : v ∈ x.map vu8 := by rw [← hc]; simpa using hv
  obtain ⟨b, _, rfl⟩ := List.mem_map.1 this
  rfl
theorem bytes_size {x : List UInt8} {cs : Array Value} (hc : cs.toList = x.map vu8) (hx : x.length = 32) : cs.size = 32 := by rw [← Array.length_toList, hc, List.length_map, hx]
theorem hash_i {cs : Array Value} (h : cs.size = 32) : (Tryd.prog.info? 52).map (·.size) = some cs.size := by rw [h]; kernel_rfl

/-- A box that holds one slice. -/
theorem sl_one (W : World) (e : TypeId) {F : Nat → Prop} {A : Option Addr} {n c : Nat} {l : List UInt8} (h : Sl rU8 W F A n c l) (hF : ∀ k, F k → k < W.heap.size) : Sl (Rep.slice rU8) (W.alloc (.cells #[.slice A n c] e)) (fun k => k < W.heap.size + 1) (some ⟨W.heap.size, 0, none⟩) 1 1 [l] := by
  have h1 : Sl rU8 (W.alloc (.cells #[.slice A n c] e)) F A n c l := h.move (Same.of_below ((Below.refl _ _).alloc (Nat.le_refl _) _) hF)
  refine (Sl.box (F := F) (xs := [l]) W e (sl_cons h1 (Els.nil _ _ _)) (by simp)).mono ?_
  rintro k (hk | rfl)
  · exact Nat.lt_succ_of_lt (hF k hk)
  · exact Nat.lt_succ_self _
theorem below_box {B : Nat} {w w' : World} {o : Obj} (hB : B ≤ w.heap.size) (h : Below (w.alloc o).heap.size (w.alloc o) w') : Below B w w' := ((Below.refl _ _).alloc hB o).trans (h.mono (by simp; omega))
theorem sum_one (W : World) (e : TypeId) {F : Nat → Prop} {A : Option Addr} {n c : Nat} {l : List UInt8} (h : Sl rU8 W F A n c l) (hF : ∀ k, F k → k < W.heap.size) (hl : l.length ≤ 1000000) (hg : LaidW W) (h1 : 3 < W.heap.size) :
    Calls Tryd.prog 83 #[.slice (some ⟨W.heap.size, 0, none⟩) 1 1] (W.alloc (.cells #[.slice A n c] e)) fun e w' => (∃ cs : Array Value, e = .returned (.agg cs) ∧ Fact (cs.toList = (shaL l).map vu8)) ∧ Below W.heap.size W w' := by
  have hb : Below W.heap.size W (W.alloc (.cells #[.slice A n c] e)) := (Below.refl _ _).alloc (Nat.le_refl _) _
  refine (Sum_calls _ _ _ _ _ [l] l (by simp) (sl_one W e h hF) (fun k hk => by simpa using hk) hl (laid_move hg hb h1) (by simp; omega)).mono ?_
  rintro e w' ⟨he, hb'⟩
  exact ⟨he, below_box (Nat.le_refl _) hb'⟩
theorem sum_at (W : World) (e : TypeId) {B : Nat} (hB : W.heap.size = B) {F : Nat → Prop} {A : Option Addr} {n c : Nat} {l : List UInt8} (h : Sl rU8 W F A n c l) (hF : ∀ k, F k → k < W.heap.size) (hl : l.length ≤ 1000000) (hg : LaidW W) (h1 : 3 < W.heap.size) :
    Calls Tryd.prog 83 #[.slice (some ⟨B, 0, none⟩) 1 1] (W.alloc (.cells #[.slice A n c] e)) fun e w' => (∃ cs : Array Value, e = .returned (.agg cs) ∧ Fact (cs.toList = (shaL l).map vu8)) ∧ Below B W w' := by
  subst hB
  exact sum_one W e h hF hl hg h1
theorem sum_nil (W : World) (hg : LaidW W) (h1 : 3 < W.heap.size) :
    Calls Tryd.prog 83 #[.slice none 0 0] W fun e w' => (∃ cs : Array Value, e = .returned (.agg cs) ∧ Fact (cs.toList = (shaL []).map vu8)) ∧ Below W.heap.size W w' :=
  Sum_calls W (fun _ => False) none 0 0 [] [] rfl (Sl.nil _ _ _ _ _ (by decide)) (fun _ h => h.elim) (by decide) hg h1
theorem sha_len (l : List UInt8) : (shaL l).length = 32 := outL_len _
/-! The tables, as the statements lay them. -/
theorem u32s_of_trod {H : Type} {enc : TypeId × Value → H} {P : Program} {w : World} {base : Nat} {sp : Nat → Bool} {held : Bool} {fuel m : Nat} {t e : TypeId} {cs : List Value} {ds : List (DataW H)} {p : List MemPlace} {ws : List UInt32}
    (ht : P.underlying t = some (.array m e)) (he : P.underlying e = some (.int .u32)) (hC : P.cellsOf e = 1) (hT : P.cellsOf t = m) (hm : ws.length = m) (h : DataW.trod enc P w base sp held fuel t cs = some (.agg ds, p)) (hd : ds = ws.map fun x => .lit (.int .u32 (U x))) : cs = ws.map vu32 := by
  obtain ⟨xs, n, -, hx, hl, hn, hf⟩ := DataW.trod_array ht h
  injection hx with hx1 hx2
  injection hx1 with hx1
  have hxs : xs.map (·.1) = ws.map fun x => .lit (.int .u32 (U x)) := by rw [← hx1, hd]
  apply List.ext_getElem?
  intro i
  by_cases hi : i < m
  · have h1 := hf i hi
    rw [hC, Nat.mul_one, List.getElem?_eq_getElem (by omega)] at h1
    obtain ⟨z, hz, hy, hw⟩ := DataW.trod_int he h1
    have hcl : i < cs.length := by omega
    rw [List.drop_eq_getElem_cons hcl] at hz
    simp only [List.take_succ_cons, List.take_zero, List.cons.injEq, and_true] at hz
    have h2 : (xs.map (·.1))[i]? = some (.lit (.int .u32 z)) := by rw [List.getElem?_map, List.getElem?_eq_getElem (by omega), hy]; rfl
    rw [hxs, List.getElem?_map, List.getElem?_eq_getElem (by omega)] at h2
    simp only [Option.map_some, Option.some.injEq] at h2
    injection h2 with h2
    injection h2 with _ h2
    rw [List.getElem?_eq_getElem hcl, hz, List.getElem?_map, List.getElem?_eq_getElem (by omega), ← h2]
    rfl
  · rw [List.getElem?_eq_none (by omega), List.getElem?_eq_none (by simp; omega)]
theorem var_block {P : Program} {w : World} {n : String} {g : Nat} {cs : Array Value} (hg : P.globalNamed n = some g) (h : w.var? P n = some cs) : ∃ ty fr, w.heap[g]? = some (.cells cs ty fr) := by
  simp only [World.var?, hg, Option.bind_some] at h
  split at h
  · rename_i h1
    injection h with h
    subst h
    exact ⟨_, _, h1⟩
  · cases h
theorem laid_block {P : Program} {w : World} {n : String} {g : Nat} {t e : TypeId} {d : DataW Unit} {l : List (String × DataW Unit)} {ds : List (DataW Unit)} (h : laidMet P l w) (hm : (n, d) ∈ l) (hd : d = .agg ds) (hg : P.globalNamed n = some g) (ht : (P.globals[g]?).map (·.type) = some t) (hu : P.underlying t = some (.array 64 e)) (he : P.underlying e = some (.int .u32)) (hC : P.cellsOf e = 1) (hT : P.cellsOf t = 64)
    (hk : ds = kL.map fun x => .lit (.int .u32 (U x))) : ∃ ty fr, w.heap[g]? = some (.cells (wArr kL) ty fr) := by
  obtain ⟨ps, hl, -, -⟩ := h
  induction l generalizing ps with
  | nil => cases hm
  | cons x r ih =>
    obtain ⟨n', d'⟩ := x
    obtain ⟨g', t', cs, fuel, p, q, e1, e2, e3, e4, e5, e6⟩ := hl
    rcases List.mem_cons.1 hm with hm | hm
    · injection hm with hm1 hm2
      subst hm1 hm2
      obtain rfl := Option.some.inj (hg.symm.trans e1)
      obtain ⟨ty, fr, hh⟩ := var_block hg e3
      obtain rfl := Option.some.inj (ht.symm.trans e2)
      subst hd
      have := u32s_of_trod (m := 64) (ws := kL) hu he hC hT rfl e4 hk
      refine ⟨ty, fr, ?_⟩
      rw [hh]
      congr 2
      apply Array.ext'
      rw [this]
      rfl
    · exact ih hm _ e5
theorem words_g : Tryd.prog.globalNamed "ferryman/sha.words" = some 3 := by kernel_rfl
theorem roots_g : Tryd.prog.globalNamed "ferryman/ferrymanref01.roots" = some 1 := by kernel_rfl
theorem words_t : (Tryd.prog.globals[3]?).map (·.type) = some 164 := by kernel_rfl
theorem roots_t : (Tryd.prog.globals[1]?).map (·.type) = some 164 := by kernel_rfl
theorem laidW_of {W : World} {l : List (String × DataW Unit)} {ds : List (DataW Unit)} (h : laidMet Tryd.prog l W) (hm : ("ferryman/sha.words", DataW.agg ds) ∈ l) (hk : ds = kL.map fun x => .lit (.int .u32 (U x))) : LaidW W :=
  laid_block h hm rfl words_g words_t Tryd.underlying164 Tryd.underlying161 (by kernel_rfl) (by kernel_rfl) hk
theorem laidR_of {W : World} {l : List (String × DataW Unit)} {ds : List (DataW Unit)} (h : laidMet Tryd.prog l W) (hm : ("ferryman/ferrymanref01.roots", DataW.agg ds) ∈ l) (hk : ds = kL.map fun x => .lit (.int .u32 (U x))) : LaidR W :=
  laid_block h hm rfl roots_g roots_t Tryd.underlying164 Tryd.underlying161 (by kernel_rfl) (by kernel_rfl) hk
theorem abc_get : (shaL [97, 98, 99])[0]? = some 0xba ∧ (shaL [97, 98, 99])[1]? = some 0x78 ∧ (shaL [97, 98, 99])[3]? = some 0xbf := by decide +kernel
theorem nul_get : (shaL [])[0]? = some 0xe3 ∧ (shaL [])[1]? = some 0xb0 := by decide +kernel
theorem cs_get {cs : Array Value} {x : List UInt8} (hc : cs.toList = x.map vu8) {i : Nat} {b : UInt8} (h : x[i]? = some b) : cs[i]? = some (.int .u8 (b.toNat : Int)) := by
  rw [← Array.getElem?_toList, hc, List.getElem?_map, h]
  rfl
theorem heap_two (W : World) (o1 o2 : Obj) : ((W.alloc o1).alloc o2).heap[W.heap.size]? = some o1 := by rw [Below.heap_alloc _ _ _ (by simp)]; exact heap_alloc_new _ _
theorem heap_twoB (W : World) (o1 o2 : Obj) : ((W.alloc o1).alloc o2).heap[W.heap.size + 1]? = some o2 := by
  have h := heap_alloc_new (W.alloc o1) o2
  rwa [size_alloc'] at h
end Go.Proofs.YtkmcjokoinoahaaDoor.ShaE
