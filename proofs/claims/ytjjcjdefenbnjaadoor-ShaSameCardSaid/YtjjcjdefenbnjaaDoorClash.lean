/- ferrymanref01.Clash of two unlike texts that have one sum: it says so. A contract over any world. -/
import Derived.Test.YtjjcjdefenbnjaaDoorShaE
import Derived.Deep.MidRow
set_option linter.unusedVariables false
set_option linter.unusedSimpArgs false
namespace Go.Proofs.YtjjcjdefenbnjaaDoor.Clash
open Go.RowKit Go.Proofs.YtjjcjdefenbnjaaDoor.Lib Go.Proofs.YtjjcjdefenbnjaaDoor.LibB Go.Proofs.YtjjcjdefenbnjaaDoor.Reg Go.Proofs.YtjjcjdefenbnjaaDoor.PlainS Go.Proofs.YtjjcjdefenbnjaaDoor.ShaA Go.Proofs.YtjjcjdefenbnjaaDoor.ShaB Go.Proofs.YtjjcjdefenbnjaaDoor.ShaC Go.Proofs.YtjjcjdefenbnjaaDoor.ShaD Go.Proofs.YtjjcjdefenbnjaaDoor.ShaDS Go.Proofs.YtjjcjdefenbnjaaDoor.ShaE
theorem info_hash : (Tryd.prog.info? 25).map (fun i => (i.zero.map (·.cells), i.size, i.bytes)) = some (some (bArr []), 32, 32) := by kernel_rfl
theorem make_two (W : World) : (Instr.makeSlice 53 (.int .i64 2) (.int .i64 2)).run Tryd.prog W = .ok (.slice (some ⟨W.heap.size, 0, none⟩) 2 2) (W.alloc (.cells (madeCells (bArr []) 64) 25)) := by
  obtain ⟨i, hi, hzz⟩ := Option.map_eq_some_iff.1 info_hash
  simp only [Prod.mk.injEq] at hzz
  obtain ⟨hz0, hz1, hz2⟩ := hzz
  obtain ⟨z, hz, hzc⟩ := Option.map_eq_some_iff.1 hz0
  have hr := run_make (P := Tryd.prog) W 53 25 i z Tryd.underlying53 hi hz .i64 .i64 2 2 (by omega) (by omega) (by rw [hz2]; omega) (by omega)
  rw [hz1, hzc] at hr
  exact hr
theorem there_row {w : World} {g n : Nat} {cs : Array Value} {t : TypeId} (h : w.heap[g]? = some (.cells cs t (0, 0))) (hn : cs.size = n) {o m : Nat} (ho : o + m ≤ n) : w.there g o m := fun j hj => by
  have hlt : o + j < cs.size := by omega
  refine ⟨?_, row_free h⟩
  rw [row_cell h (Array.getElem?_eq_getElem hlt)]
  rfl
theorem below_setCells {B b : Nat} {a : World} : ∀ (vs : List Value) (o : Nat) {w : World}, Below B a w → B ≤ b → Below B a (w.setCells b o vs)
  | [], _, _, h, _ => h
  | v :: vs, o, w, h, hb => below_setCells vs (o + 1) (h.setCell (p := ⟨b, o, none⟩) hb v) hb
/-- What lies at i in the sums' row: the sum of x. -/
def SumAt (w : World) (g i : Nat) (x : List UInt8) : Prop := w.rangeAt g (32 * i) ((shaL x).map vu8)
theorem SumAt.below {w w' : World} {g i : Nat} {x : List UInt8} (h : SumAt w g i x) {B : Nat} (hb : Below B w w') (hg : g < B) : SumAt w' g i x := fun j v hj => (hb.cell (p := ⟨g, 32 * i + j, none⟩) hg).trans (h j v hj)
theorem SumAt.load {w : World} {g i : Nat} {x : List UInt8} (h : SumAt w g i x) : (Instr.loadAt 25 (.pointer (some ⟨g, 32 * i, none⟩))).run Tryd.prog w = .ok (.agg ((shaL x).map vu8).toArray) w :=
  run_loadAt_mid w g (32 * i) 25 ((shaL x).map vu8) _ h hash_u rfl (by rw [List.length_map, sha_len]; kernel_rfl)
theorem exec_loadAt {P : Program} {o : Oper} {a : Act} {w : World} {ty : TypeId} {x : Operand} {p v : Value} (ho : o.op = .load ty x) (hx : a.eval x = p) (hr : (Instr.loadAt ty p).run P w = .ok v w) : (execOp a.eval o).run P w = .ok (.value v) w := by
  unfold execOp
  rw [ho]
  show ((Instr.loadAt ty (a.eval x)) >>= _).run P w = _
  rw [Sem.run_bind, hx, hr]
  rfl
set_option maxHeartbeats 8000000 in
set_option maxRecDepth 100000 in
theorem Clash_two (w : World) (F : Nat → Prop) (A : Option Addr) (c : Nat) (la lb : List UInt8) (h : Sl (Rep.slice rU8) w F A 2 c [la, lb]) (hF : ∀ k, F k → k < w.heap.size) (hla : la.length ≤ 1000) (hlb : lb.length ≤ 1000) (hg : LaidR w) (h1 : 0 < w.heap.size) (hs : shaL la = shaL lb) (hne : la ≠ lb) :
    Calls Tryd.prog 11 #[.slice A 2 c] w fun e w' => e = .returned (.bool true) ∧ Below w.heap.size w w' := by
  have H := Fact.mk h
  have HF := Fact.mk hF
  have HG := Fact.mk hg
  have H1 := Fact.mk h1
  have HS := Fact.mk hs
  have HNE := Fact.mk hne
  have HLA := Fact.mk hla
  have HLB := Fact.mk hlb
  obtain ⟨ad, A0, c0, rfl, hfa, hc0, hs0⟩ := sl_at h (i := 0) (v := la) rfl
  obtain ⟨_, A1, c1, e1, _, hc1, hs1⟩ := sl_at h (i := 1) (v := lb) rfl
  injection e1 with e1
  subst e1
  have HFA : Fact (ad.block < w.heap.size) := ⟨hF _ hfa⟩
  have HC0 : Fact (w.cell? ad = some (.slice A0 la.length c0)) := ⟨by rw [add_zero'] at hc0; exact hc0⟩
  have HC1 : Fact (w.cell? ⟨ad.block, ad.off + 1, none⟩ = some (.slice A1 lb.length c1)) := ⟨by rw [add_pos' _ _ (by decide)] at hc1; exact hc1⟩
  have HS0 := Fact.mk hs0
  have HS1 := Fact.mk hs1
  clear h hF hg h1 hs hne hla hlb hc0 hc1 hs0 hs1 hfa
  go_enter Tryd.func11, Tryd.ntmps11
  have hmk := make_two
  go_wp2_with fail
  clear hmk
  generalize hwm : w.alloc (.cells (madeCells (bArr []) 64) 25) = wm
  generalize hgb : w.heap.size = g
  have HBm : Fact (Below g w wm) := ⟨by rw [← hwm, ← hgb]; exact (Below.refl _ _).alloc (Nat.le_refl _) _⟩
  have HTm : Fact (wm.there g 0 64) := ⟨there_row (by rw [← hwm, ← hgb]; exact heap_alloc_new _ _) (size_madeCells _ _) (by decide)⟩
  have HGB := Fact.mk hgb
  have HGL : Fact (g < wm.heap.size) := ⟨by rw [← hwm, ← hgb]; simp⟩
  clear hwm hgb
  go_loopg [4] 2 (fun kq i wr => ∃ k : Nat, i = .int .i64 (k : Int) ∧ Fact (k + kq = 2) ∧ Fact (1 ≤ k → SumAt wr g 0 la) ∧ Fact (2 ≤ k → SumAt wr g 1 lb) ∧ Fact (wr.there g 0 64) ∧ Fact (Below g w wr) ∧ Fact (g < wr.heap.size))
  case atStart => exact ⟨0, rfl, ⟨rfl⟩, ⟨fun h => by omega⟩, ⟨fun h => by omega⟩, HTm, HBm, HGL⟩
  case round =>
    obtain ⟨k, rfl, HK, HA0, HA1, HT, HB, HL⟩ := hrel
    have HSc : Fact (∀ {A' : Option Addr} {m c' : Nat} {x : List UInt8}, Sl rU8 w F A' m c' x → Sl rU8 wr F A' m c' x) := ⟨fun h => h.move (Same.of_below HB.out (fun k hk => by rw [← HGB.out]; exact HF.out k hk))⟩
    have HBw : Fact (Below w.heap.size w wr) := ⟨by rw [HGB.out]; exact HB.out⟩
    have q0 : wr.cell? ad = some (.slice A0 la.length c0) := (HBw.out.cell HFA.out).trans HC0.out
    have q1 : wr.cell? ⟨ad.block, ad.off + 1, none⟩ = some (.slice A1 lb.length c1) := (HBw.out.cell (p := ⟨ad.block, ad.off + 1, none⟩) HFA.out).trans HC1.out
    have hk3 : k = 0 ∨ k = 1 ∨ k = 2 := by have := HK.out; omega
    rcases hk3 with rfl | rfl | rfl
    · go_wp2_with (go_at_call 10; fail)
      refine (RSum_calls _ F A0 la.length c0 la (HSc.out HS0.out) (fun k hk => Nat.lt_of_lt_of_le (HF.out k hk) HBw.out.size) (by have := HLA.out; omega) (laidR_move HG.out HBw.out H1.out) (Nat.lt_of_lt_of_le H1.out HBw.out.size)).mono ?_
      rintro e w5 ⟨⟨cs, rfl, hc⟩, hb⟩
      have HCS := Fact.mk hc.out
      have HB5 : Fact (Below g w w5) := ⟨HB.out.trans (hb.mono (Nat.le_of_lt HL.out))⟩
      have HT5 : Fact (w5.there g 0 64) := ⟨fun j hj => ⟨by rw [hb.cell (p := ⟨g, 0 + j, none⟩) HL.out]; exact (HT.out j hj).1, by rw [hb.frozen (p := ⟨g, 0 + j, none⟩) HL.out]; exact (HT.out j hj).2⟩⟩
      have HL5 : Fact (g < w5.heap.size) := ⟨Nat.lt_of_lt_of_le HL.out hb.size⟩
      have HZ : Fact (cs.size = 32) := ⟨bytes_size HCS.out (sha_len _)⟩
      clear hc hb q0 q1
      go_wp2_with (refine wpList_store_mid rfl 25 (.tmp 23) (.tmp 22) rfl g 0 cs rfl rfl ?_ (hash_i HZ.out) (bytes_one HCS.out) ?_; (rw [HZ.out]; exact fun j hj => HT5.out j (by omega)))
      have hbl : Below g w5 (w5.setCells g 0 cs.toList) := below_setCells _ _ (Below.refl _ _) (Nat.le_refl _)
      go_roundg 1
      case measure => have := HK.out; omega
      case rel =>
        refine ⟨1, rfl, ⟨rfl⟩, ⟨fun _ => ?_⟩, ⟨fun h => by omega⟩, ⟨World.there_setCells HT5.out _ _ _⟩, ⟨HB5.out.trans hbl⟩, ⟨Nat.lt_of_lt_of_le HL5.out hbl.size⟩⟩
        show World.rangeAt _ g 0 _
        rw [← HCS.out]
        exact World.rangeAt_setCells_same w5 g 0 cs.toList (fun j hj => HT5.out j (by rw [Array.length_toList, HZ.out] at hj; omega))
    · go_wp2_with (go_at_call 10; fail)
      refine (RSum_calls _ F A1 lb.length c1 lb (HSc.out HS1.out) (fun k hk => Nat.lt_of_lt_of_le (HF.out k hk) HBw.out.size) (by have := HLB.out; omega) (laidR_move HG.out HBw.out H1.out) (Nat.lt_of_lt_of_le H1.out HBw.out.size)).mono ?_
      rintro e w5 ⟨⟨cs, rfl, hc⟩, hb⟩
      have HCS := Fact.mk hc.out
      have HB5 : Fact (Below g w w5) := ⟨HB.out.trans (hb.mono (Nat.le_of_lt HL.out))⟩
      have HT5 : Fact (w5.there g 0 64) := ⟨fun j hj => ⟨by rw [hb.cell (p := ⟨g, 0 + j, none⟩) HL.out]; exact (HT.out j hj).1, by rw [hb.frozen (p := ⟨g, 0 + j, none⟩) HL.out]; exact (HT.out j hj).2⟩⟩
      have HL5 : Fact (g < w5.heap.size) := ⟨Nat.lt_of_lt_of_le HL.out hb.size⟩
      have HZ : Fact (cs.size = 32) := ⟨bytes_size HCS.out (sha_len _)⟩
      have HT6 : Fact (w5.there g 32 32) := ⟨fun j hj => by have h := HT5.out (32 + j) (by omega); rw [Nat.zero_add] at h; exact h⟩
      have HA5 : Fact (SumAt w5 g 0 la) := ⟨(HA0.out (Nat.le_refl _)).below hb HL.out⟩
      clear hc hb q0 q1
      go_wp2_with (refine wpList_store_mid rfl 25 (.tmp 23) (.tmp 22) rfl g 32 cs rfl rfl ?_ (hash_i HZ.out) (bytes_one HCS.out) ?_; (rw [HZ.out]; exact HT6.out))
      have hbl : Below g w5 (w5.setCells g 32 cs.toList) := below_setCells _ _ (Below.refl _ _) (Nat.le_refl _)
      go_roundg 0
      case measure => have := HK.out; omega
      case rel =>
        refine ⟨2, rfl, ⟨rfl⟩, ⟨fun _ => ?_⟩, ⟨fun _ => ?_⟩, ⟨World.there_setCells HT5.out _ _ _⟩, ⟨HB5.out.trans hbl⟩, ⟨Nat.lt_of_lt_of_le HL5.out hbl.size⟩⟩
        · exact World.rangeAt_setCells_apart HA5.out _ _ _ (.inr (.inl (by rw [List.length_map, sha_len]; decide)))
        · show World.rangeAt _ g 32 _
          rw [← HCS.out]
          exact World.rangeAt_setCells_same w5 g 32 cs.toList (fun j hj => HT6.out j (by rw [Array.length_toList, HZ.out] at hj; omega))
    · have HQ0 : Fact (SumAt wr g 0 la) := ⟨HA0.out (by omega)⟩
      have HQ1 : Fact (SumAt wr g 1 lb) := ⟨HA1.out (by omega)⟩
      clear HA0 HA1 HT q0 q1 HK
      go_wp2_with fail
      go_loopg [5] 2 (fun kq i wx => ∃ k : Nat, i = .int .i64 (k : Int) ∧ Fact (k + kq = 2) ∧ Fact (k ≤ 1) ∧ Fact (SumAt wx g 0 la) ∧ Fact (SumAt wx g 1 lb) ∧ Fact (Below g w wx))
      case atStart => exact ⟨0, rfl, ⟨rfl⟩, ⟨by omega⟩, HQ0, HQ1, HB⟩
      case round =>
        clear HQ0 HQ1 HB HBw HSc
        obtain ⟨k, rfl, HK, HK1, HQ0, HQ1, HB⟩ := hrel
        have hk3 : k = 0 ∨ k = 1 := by have := HK1.out; omega
        rcases hk3 with rfl | rfl
        · go_wp2_with fail
          go_loopg [6] 0 (fun kq x wx => x = .int .i64 0 ∧ Fact (SumAt wx g 0 la) ∧ Fact (SumAt wx g 1 lb) ∧ Fact (Below g w wx))
          case atStart => exact ⟨rfl, HQ0, HQ1, HB⟩
          case round =>
            clear HQ0 HQ1 HB
            obtain ⟨rfl, HQ0, HQ1, HB⟩ := hrel
            go_wp2_with fail
            go_roundg 1
            case measure => have := HK.out; omega
            case rel => exact ⟨1, rfl, ⟨rfl⟩, ⟨by omega⟩, HQ0, HQ1, HB⟩
        · go_wp2_with fail
          go_loopg [6] 0 (fun kq x wx => x = .int .i64 0 ∧ Fact (SumAt wx g 0 la) ∧ Fact (SumAt wx g 1 lb) ∧ Fact (Below g w wx))
          case atStart => exact ⟨rfl, HQ0, HQ1, HB⟩
          case round =>
            clear HQ0 HQ1 HB
            obtain ⟨rfl, HQ0, HQ1, HB⟩ := hrel
            have HBw : Fact (Below w.heap.size w wr) := ⟨by rw [HGB.out]; exact HB.out⟩
            have q0 : ∀ q, (wr.drewN q).cell? ad = some (.slice A0 la.length c0) := fun q => (HBw.out.cell HFA.out).trans HC0.out
            have q1 : ∀ q, (wr.drewN q).cell? ⟨ad.block, ad.off + 1, none⟩ = some (.slice A1 lb.length c1) := fun q => (HBw.out.cell (p := ⟨ad.block, ad.off + 1, none⟩) HFA.out).trans HC1.out
            have l0 : ∀ q, (Instr.loadAt 25 (.pointer (some ⟨g, 0, none⟩))).run Tryd.prog (wr.drewN q) = .ok (.agg ((shaL la).map vu8).toArray) (wr.drewN q) := fun q => SumAt.load (i := 0) (x := la) HQ0.out
            have l1 : ∀ q, (Instr.loadAt 25 (.pointer (some ⟨g, 32, none⟩))).run Tryd.prog (wr.drewN q) = .ok (.agg ((shaL lb).map vu8).toArray) (wr.drewN q) := fun q => SumAt.load (i := 1) (x := lb) HQ1.out
            have heq : ∀ W : World, (Op.equalIn 10000 25 (.agg ((shaL lb).map vu8).toArray) (.agg ((shaL la).map vu8).toArray)).run Tryd.prog W = .ok true W := fun W => by
              have h := eq_hash hash_u hash_c hash_k ((shaL lb).map vu8).toArray ((shaL la).map vu8).toArray _ _ rfl rfl (sha_len _) (sha_len _) W
              rw [HS.out, beq_self_eq_true] at h
              rw [HS.out]
              exact h
            generalize ((shaL la).map vu8).toArray = ca at l0 heq
            generalize ((shaL lb).map vu8).toArray = cb at l1 heq
            have s0 : ∀ q, (convert 22 9 (.slice A0 la.length c0)).run Tryd.prog (wr.drewN q) = .ok (.string ⟨la.toArray⟩) (wr.drewN q) := fun q => run_str _ _ _ Tryd.underlying22 Tryd.underlying5 Tryd.underlying9 ((HS0.out.move (Same.of_below HBw.out HF.out)).move (fun _ _ => rfl))
            have s1 : ∀ q, (convert 22 9 (.slice A1 lb.length c1)).run Tryd.prog (wr.drewN q) = .ok (.string ⟨lb.toArray⟩) (wr.drewN q) := fun q => run_str _ _ _ Tryd.underlying22 Tryd.underlying5 Tryd.underlying9 ((HS1.out.move (Same.of_below HBw.out HF.out)).move (fun _ _ => rfl))
            have hne1 : (lb == la) = false := by rw [beq_eq_false_iff_ne]; exact fun h => HNE.out h.symm
            go_wp2_with fail
            refine wp_region_S (fun W => ∃ q, W = wr.drewN q) ((List.range 22).map fun i => (i, true)) (by kernel_rfl) (by kernel_rfl) (by kernel_rfl) rfl rfl (by intro c a d v w h; cases d <;> exact h) ⟨1, rfl⟩ ?_
            simp only [pick, List.range, List.range.loop, List.map_cons, List.map_nil, List.filterMap_cons, List.filterMap_nil, Option.map_some, List.getElem?_toArray, List.getElem?_cons_zero, List.getElem?_cons_succ]
            have HB6 : Fact (Below g w wr.drew) := ⟨HB.out.drew⟩
            generalize wr.drew = wd at HB6 ⊢
            have L0 := Fact.mk l0
            have L1 := Fact.mk l1
            clear l0 l1
            iterate 22
              (first
                | (apply seq_tell rfl
                   · intro w2 hS
                     obtain ⟨q, rfl⟩ := hS
                     exact exec_loadAt rfl rfl (L1.out q))
                | (apply seq_tell rfl
                   · intro w2 hS
                     obtain ⟨q, rfl⟩ := hS
                     exact exec_loadAt rfl rfl (L0.out q))
                | (apply seq_tell rfl
                   · intro w2 hS
                     obtain ⟨q, rfl⟩ := hS
                     go_simp
                     first | done | rfl)
                | (apply seq_tellG rfl
                   · intro w2 hS
                     obtain ⟨q, rfl⟩ := hS
                     go_simp
                     first | done | rfl)
               simp only [Act.put, List.setIfInBounds_toArray, List.set_cons_succ, List.set_cons_zero])
            unfold wpSeqS
            go_wp2_with fail
            go_ret
            exact ⟨rfl, by rw [HGB.out]; exact HB6.out⟩
end Go.Proofs.YtjjcjdefenbnjaaDoor.Clash
