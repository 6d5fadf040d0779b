/- TlvParses: for every input the law answers true; what was in memory before is as it was. -/
import Derived.Test.YtjjcjdefenbnjaaPlainT
import Derived.Test.YtjjcjdefenbnjaaTlvI
import Derived.Test.YtjjcjdefenbnjaaLawOne
import Derived.Test.YtjjcjdefenbnjaaLibB
import Derived.WalkSpells
set_option linter.unusedVariables false
set_option linter.unusedSimpArgs false
namespace Go.Proofs.Ytjjcjdefenbnjaa.LawParses
open Go.RowKit Go.Proofs.Ytjjcjdefenbnjaa.Lib Go.Proofs.Ytjjcjdefenbnjaa.LibB Go.Proofs.Ytjjcjdefenbnjaa.Reg Go.Proofs.Ytjjcjdefenbnjaa.TlvA Go.Proofs.Ytjjcjdefenbnjaa.TlvB Go.Proofs.Ytjjcjdefenbnjaa.TlvC Go.Proofs.Ytjjcjdefenbnjaa.TlvD Go.Proofs.Ytjjcjdefenbnjaa.TlvE Go.Proofs.Ytjjcjdefenbnjaa.TlvH Go.Proofs.Ytjjcjdefenbnjaa.TlvI Go.Proofs.Ytjjcjdefenbnjaa.PlainT Go.Proofs.Ytjjcjdefenbnjaa.LawOne

theorem parse_len (l : List UInt8) (h : l.length ≤ 4294967296) : (parseG l (-1)).1.length ≤ 4294967296 := by
  by_cases h0 : (parseG l (-1)).2 = 0
  · have h1 := puts_len (parseG l (-1)).1
    rw [(parse_one l (-1) h0).1] at h1
    omega
  · rw [parseG_err l (-1) h0]
    simp

set_option maxHeartbeats 4000000 in
set_option maxRecDepth 100000 in
theorem TlvParses_calls (w : World) (F : Nat → Prop) (A2 : Option Addr) (n2 c2 : Nat) (l2 : List UInt8) (A : Option Addr) (n c : Nat) (l : List (UInt8 × List UInt8)) (cut : Int) (hc0 : 0 ≤ cut) (hc1 : cut ≤ 255) (h2 : Sl rU8 w F A2 n2 c2 l2) (h : Sl fld w F A n c l) (hF : ∀ k, F k → k < w.heap.size) :
    Calls Try.prog 7 #[.slice A2 n2 c2, .slice A n c, .int .u8 cut] w fun e w' => e = .returned (.bool true) ∧ Below w.heap.size w w' := by
  have hlen : l.length = n := h.len
  have hlen2 : l2.length = n2 := h2.len
  have hmx : n ≤ 9223372036854775807 := Nat.le_trans h.le h.max_
  have hmx2 : n2 ≤ 9223372036854775807 := Nat.le_trans h2.le h2.max_
  have HF := Fact.mk hF
  have H := Fact.mk h
  have H2 := Fact.mk h2
  have HL := Fact.mk hlen
  have HL2 := Fact.mk hlen2
  clear h h2 hF hlen hlen2
  by_cases hbig : 2000 < n2 ∨ 30 < n
  · by_cases hb1 : 2000 < n2
    · have k1 : decide (2000 < n2) = true := by simp; omega
      have k1' : decide ((2000 : Int) < n2) = true := by simp; omega
      go_enter Try.func7, Try.ntmps7
      go_wp2_with (go_at_call 19; refine (Awake_calls _).mono ?_; rintro e w1 ⟨rfl, hb⟩; have HB1 := Fact.mk hb; clear hb)
      go_ret
      exact ⟨rfl, HB1.out⟩
    · have k1 : decide (2000 < n2) = false := by simp; omega
      have k1' : decide ((2000 : Int) < n2) = false := by simp; omega
      have k2 : decide (30 < n) = true := by simp; omega
      have k2' : decide ((30 : Int) < n) = true := by simp; omega
      go_enter Try.func7, Try.ntmps7
      go_wp2_with (go_at_call 19; refine (Awake_calls _).mono ?_; rintro e w1 ⟨rfl, hb⟩; have HB1 := Fact.mk hb; clear hb)
      go_ret
      exact ⟨rfl, HB1.out⟩
  · have hn2 : n2 ≤ 2000 := by omega
    have hn : n ≤ 30 := by omega
    have k1 : decide (2000 < n2) = false := by simp; omega
    have k1' : decide ((2000 : Int) < n2) = false := by simp; omega
    have k2 : decide (30 < n) = false := by simp; omega
    have k2' : decide ((30 : Int) < n) = false := by simp; omega
    clear hbig
    go_enter Try.func7, Try.ntmps7
    go_wp2_with (go_at_call 19; refine (Awake_calls _).mono ?_; rintro e w1 ⟨rfl, hb⟩; have HB1 := Fact.mk hb; clear hb)
    go_loopg [7, 28] n (fun kq x i wr => ∃ (k : Nat) (xs : List UInt8), i = .int .i64 (k : Int) ∧ Fact (k + kq = n) ∧ Fact (xs.length ≤ 303 * k) ∧ Fact (Ow rU8 5 wr w.heap.size (fun _ => False) x xs) ∧ Fact (Below w.heap.size w wr))
    case atStart => exact ⟨0, [], rfl, ⟨by omega⟩, ⟨by simp⟩, ⟨Ow.nil _ _ _ _ _⟩, HB1⟩
    case round =>
      obtain ⟨k, xs, rfl, HK, HXL, HO, HB⟩ := hrel
      have hkn : k ≤ 30 := by have := HK.out; omega
      have hxl : xs.length ≤ 9090 := by have := HXL.out; omega
      by_cases hlt : k < n
      · obtain ⟨⟨t, v⟩, hx⟩ : ∃ x, l[k]? = some x := ⟨_, List.getElem?_eq_getElem (by rw [HL.out]; exact hlt)⟩
        obtain ⟨ad, A3, c3, rfl, hf, hc1', hc2', hsv⟩ := fld_at H.out hx
        have hca : wr.cell? (ad.add (k * 2)) = some (.int .u8 (t.toNat : Int)) := (cell_same (by rw [block_add]; exact HB.out.block _ (HF.out _ hf))).trans hc1'
        have hcb : wr.cell? ⟨(ad.add (k * 2)).block, (ad.add (k * 2)).off + 1, none⟩ = some (.slice A3 v.length c3) := (cell_same (by simp only [block_add]; exact HB.out.block _ (HF.out _ hf))).trans hc2'
        have HSV : Fact (Sl rU8 wr F A3 v.length c3 v) := ⟨hsv.move (Same.of_below HB.out HF.out)⟩
        have hvm : v.length ≤ 9223372036854775807 := Nat.le_trans hsv.le hsv.max_
        clear hc1' hc2' hsv hx hf
        by_cases hvl : 300 < v.length
        · have kv : decide (300 < v.length) = true := by simp; omega
          have kv' : decide ((300 : Int) < v.length) = true := by simp; omega
          go_wp2_with fail
          go_ret
          exact ⟨rfl, HB.out.alloc HB.out.size _⟩
        · have kv : decide (300 < v.length) = false := by simp; omega
          have kv' : decide ((300 : Int) < v.length) = false := by simp; omega
          have hvl' : v.length ≤ 300 := by omega
          clear hvl
          go_wp2_with fail
          have hsz : (wr.alloc (.cells #[.int .u8 (t.toNat : Int), .slice A3 v.length c3] 47)).drew.heap.size = wr.heap.size + 1 := by show (wr.alloc _).heap.size = _; simp
          have hS0 : (wr.alloc (.cells #[.int .u8 (t.toNat : Int), .slice A3 v.length c3] 47)).drew.cell? ⟨wr.heap.size, 0, none⟩ = some (.int .u8 (t.toNat : Int)) ∧ (wr.alloc (.cells #[.int .u8 (t.toNat : Int), .slice A3 v.length c3] 47)).drew.cell? ⟨wr.heap.size, 1, none⟩ = some (.slice A3 v.length c3) := ⟨by show (wr.alloc _).cell? _ = _; go_simp, by show (wr.alloc _).cell? _ = _; go_simp⟩
          have HBd : Fact (Below wr.heap.size wr (wr.alloc (.cells #[.int .u8 (t.toNat : Int), .slice A3 v.length c3] 47)).drew) := ⟨((Below.refl _ _).alloc (Nat.le_refl _) _).drew⟩
          refine wp_region_S (fun w' => w'.cell? ⟨wr.heap.size, 0, none⟩ = some (.int .u8 (t.toNat : Int)) ∧ w'.cell? ⟨wr.heap.size, 1, none⟩ = some (.slice A3 v.length c3)) [(0, true), (1, true), (2, true), (3, true), (4, true), (5, true), (6, true), (7, true), (8, true), (9, true), (10, true), (11, true), (14, true), (15, true), (12, false), (13, false), (16, false), (17, true)] (by kernel_rfl) (by kernel_rfl) (by kernel_rfl) rfl rfl (by intro c a d v w h; cases d <;> exact h) hS0 ?_
          simp only [pick, List.filterMap_cons, List.filterMap_nil, Option.map_some, List.getElem?_toArray, List.getElem?_cons_zero, List.getElem?_cons_succ]
          generalize (wr.alloc (.cells #[.int .u8 (t.toNat : Int), .slice A3 v.length c3] 47)).drew = wd at hsz hS0 HBd ⊢
          have HS0 := Fact.mk hS0
          have HSZ := Fact.mk hsz
          clear hS0 hsz
          have HOd : Fact (Ow rU8 5 wd w.heap.size (fun _ => False) u7 xs) := ⟨HO.out.below HBd.out (fun _ h => h.elim)⟩
          have HBW : Fact (Below w.heap.size w wd) := ⟨HB.out.trans (HBd.out.mono HB.out.size)⟩
          have HNE : Fact (some wr.heap.size ≠ u7.ownBlock) := ⟨fun he => by have := (HO.out.lt _ he.symm).2; omega⟩
          iterate 14
            (apply seq_tell rfl
             · intro w' hS
               obtain ⟨hS1, hS2⟩ := hS
               go_simp
               first | done | rfl
             simp only [Act.put, List.setIfInBounds_toArray, List.set_cons_succ, List.set_cons_zero])
          apply seq_do rfl
          · go_simp
            exact ⟨rfl, rfl⟩
          · exact ⟨(cell_same (Below.heap_alloc _ _ _ (by rw [HSZ.out]; simp))).trans HS0.out.1, (cell_same (Below.heap_alloc _ _ _ (by rw [HSZ.out]; simp))).trans HS0.out.2⟩
          simp only [Act.put, List.setIfInBounds_toArray, List.set_cons_succ, List.set_cons_zero]
          refine seq_app rU8 (w0 := w) w.heap.size rfl (.tmp 36) (.tmp 48) 22 5 (.int .u8 0) 1 rfl Try.underlying22 info_u8 rfl (by decide) (by decide) (fun _ => False) (fun k => k = wd.heap.size) u7 xs [t, lo (v.length / 256), lo v.length] _ 3 3 rfl rfl
             (HOd.out.below ((Below.refl _ _).alloc (Nat.le_refl _) _) (fun _ h => h.elim)) (Sl.boxB wd _ (by simp [vu8, lo_int, IntKind.wrap_u8]) rfl (by omega)) (HBW.out.alloc HBW.out.size _) (by have := HBW.out.size; simp; omega) (by omega) (fun _ h => h.elim) (fun _ _ h => h) ?_
          intro v2 w2 ho2 hb2 hg2 hat2
          have HG2 : Fact (Below w.heap.size w w2) := ⟨hb2⟩
          have HO2 := Fact.mk ho2
          have hblk : w2.heap[wr.heap.size]? = wd.heap[wr.heap.size]? := (hg2.block _ (by have := HSZ.out; simp; omega) HNE.out).trans (Below.heap_alloc _ _ _ (by have := HSZ.out; omega))
          have hS2 : w2.cell? ⟨wr.heap.size, 0, none⟩ = some (.int .u8 (t.toNat : Int)) ∧ w2.cell? ⟨wr.heap.size, 1, none⟩ = some (.slice A3 v.length c3) := ⟨(cell_same hblk).trans HS0.out.1, (cell_same hblk).trans HS0.out.2⟩
          have HSV2 : Fact (Sl rU8 w2 F A3 v.length c3 v) := ⟨HSV.out.move (fun k hk => (hb2.block k (HF.out k hk)).trans (HB.out.block k (HF.out k hk)).symm)⟩
          have hat2' := hat2
          clear ho2 hb2 hg2 hat2 hblk
          refine ⟨hS2, ?_⟩
          simp only [Act.put, List.setIfInBounds_toArray, List.set_cons_succ, List.set_cons_zero]
          refine seq_app rU8 (w0 := w) w.heap.size rfl (.tmp 49) (.tmp 51) 22 5 (.int .u8 0) 1 rfl Try.underlying22 info_u8 rfl (by decide) (by decide) (fun _ => False) F v2 (xs ++ [t, lo (v.length / 256), lo v.length]) v A3 v.length c3 rfl rfl
             HO2.out HSV2.out HG2.out HG2.out.size (by simp only [List.length_append, List.length_cons, List.length_nil]; omega) (fun _ h => h.elim) (fun _ _ h => h) ?_
          intro v3 w3 ho3 hb3 hg3 hat3
          have HO3 := Fact.mk ho3
          have HB3 := Fact.mk hb3
          have hne2 : some wr.heap.size ≠ v2.ownBlock := fun he => by
            rcases hat2' with hat | hat
            · exact HNE.out (he.trans hat)
            · rw [hat] at he; injection he with he; simp at he; have := HSZ.out; omega
          have hblk : w3.heap[wr.heap.size]? = w2.heap[wr.heap.size]? := hg3.block _ (by have := lt_of_cell hS2.1; exact this) hne2
          have hS3 : w3.cell? ⟨wr.heap.size, 0, none⟩ = some (.int .u8 (t.toNat : Int)) ∧ w3.cell? ⟨wr.heap.size, 1, none⟩ = some (.slice A3 v.length c3) := ⟨(cell_same hblk).trans hS2.1, (cell_same hblk).trans hS2.2⟩
          clear ho3 hb3 hg3 hat3 hblk hS2 hne2
          refine ⟨hS3, ?_⟩
          simp only [Act.put, List.setIfInBounds_toArray, List.set_cons_succ, List.set_cons_zero]
          apply seq_tell rfl
          · intro w' hS
            go_simp
            first | done | rfl
          simp only [Act.put, List.setIfInBounds_toArray, List.set_cons_succ, List.set_cons_zero]
          clear hS3
          show Exit.inBlock _ _ _ _ _
          go_wp2_with fail
          go_roundg (n - (k + 1))
          case measure => have := HK.out; omega
          case rel => exact ⟨k + 1, xs ++ [t, lo (v.length / 256), lo v.length] ++ v, by go_num, ⟨by omega⟩, ⟨by have := HXL.out; simp only [List.length_append, List.length_cons, List.length_nil]; omega⟩, HO3, HB3⟩
      · go_wp2_with fail
        obtain ⟨Ax, cx, hv, hsx⟩ := HO.out.sl
        subst hv
        have HSX : Fact (Sl rU8 wr (fun k => k < wr.heap.size) Ax xs.length cx xs) := ⟨HO.out.slF.mono (fun _ hk => hk.2)⟩
        have hlx := hsx.le
        have hmxx := hsx.max_
        clear hsx HO
        generalize hq : xs.length = nx at hxl HSX hlx ⊢
        have HQ := Fact.mk hq
        clear hq
        obtain ⟨iz, hi, hszz⟩ := u8_i
        obtain ⟨r, et, hr8⟩ : ∃ r : Nat, cut.tmod 9 = (r : Int) ∧ r ≤ 8 := ⟨(cut % 9).toNat, by rw [Int.tmod_eq_emod_of_nonneg hc0]; omega, by omega⟩
        have ew : IntKind.i64.wrap (r : Int) = (r : Int) := by rw [IntKind.wrap_i64]; omega
        have ew8 : IntKind.u8.wrap (r : Int) = (r : Int) := by rw [IntKind.wrap_u8]; omega
        have ew2 : IntKind.i64.wrap ((nx : Int) - (r : Int)) = (nx : Int) - (r : Int) := by rw [IntKind.wrap_i64]; omega
        have ew0 : IntKind.i64.wrap 0 = 0 := by rw [IntKind.wrap_i64]; omega
        by_cases hle : (r : Int) < nx
        · have hmn : nx - r ≤ nx := by omega
          have HT : Fact (Sl rU8 wr (fun k => k < wr.heap.size) Ax (nx - r) cx (xs.take (nx - r))) := ⟨HSX.out.take_ hmn⟩
          have hsl : ∀ W : World, (Instr.slice 22 (.slice Ax nx cx) none (some (.int .i64 ((nx : Int) - (r : Int)))) none).run Try.prog W = .ok (.slice Ax (nx - r) cx) W := by have h := (slice_to (P := Try.prog) rU8 22 5 Try.underlying22 hi Ax nx cx .i64 ((nx : Int) - (r : Int)) (by omega) (by omega) hlx).1; rw [show ((nx : Int) - (r : Int)).toNat = nx - r by omega] at h; exact h
          refine wp_region_S (fun _ => True) [(0, true), (1, true), (3, true), (5, true), (7, true), (8, true), (9, true), (10, true), (11, true), (12, true), (13, true), (14, true), (15, true), (16, true), (17, true), (20, true), (2, false), (4, false), (6, false), (18, false), (19, true)] (by kernel_rfl) (by kernel_rfl) (by kernel_rfl) rfl rfl (by intro c a d v w h; cases d <;> exact h) trivial ?_
          simp only [pick, List.filterMap_cons, List.filterMap_nil, Option.map_some, List.getElem?_toArray, List.getElem?_cons_zero, List.getElem?_cons_succ]
          have HBd : Fact (Below w.heap.size w wr.drew) := ⟨HB.out.drew⟩
          have HSXd : Fact (Sl rU8 wr.drew (fun k => k < wr.drew.heap.size) Ax nx cx xs) := ⟨HSX.out.move (Same.refl _ _)⟩
          have HTd : Fact (Sl rU8 wr.drew (fun k => k < wr.drew.heap.size) Ax (nx - r) cx (xs.take (nx - r))) := ⟨HT.out.move (Same.refl _ _)⟩
          clear HT HSX HB
          generalize wr.drew = wd at HBd HSXd HTd ⊢
          iterate 16
            (apply seq_tell rfl
             · intro w' hS
               have K1 := hsl w'
               go_simp
               first | done | rfl
             simp only [Act.put, List.setIfInBounds_toArray, List.set_cons_succ, List.set_cons_zero])
          clear hsl
          apply seq_do rfl
          · go_simp
            exact ⟨rfl, rfl⟩
          · trivial
          simp only [Act.put, List.setIfInBounds_toArray, List.set_cons_succ, List.set_cons_zero]
          refine seq_app rU8 (w0 := wd) wd.heap.size rfl (.tmp 56) (.tmp 57) 22 5 (.int .u8 0) 1 rfl Try.underlying22 info_u8 rfl (by decide) (by decide) (fun _ => False) (fun k => k < wd.heap.size) (.slice (some ⟨wd.heap.size, 0, none⟩) 0 0) [] xs Ax nx cx rfl rfl
            (Ow.litB (xs := []) wd wd.heap.size _ (Nat.le_refl _) rfl rfl (by omega)) (HSXd.out.move ((Same.refl _ _).alloc (fun _ h => h) _)) ((Below.refl _ _).alloc (Nat.le_refl _) _) (by simp) (by simp; omega) (fun _ h => h.elim) (fun _ _ h => h) ?_
          intro v4 w4 ho4 hb4 hg4 hat4
          have HB4 := Fact.mk hb4
          have HO4 := Fact.mk ho4
          clear ho4 hb4 hg4 hat4
          refine ⟨trivial, ?_⟩
          simp only [Act.put, List.setIfInBounds_toArray, List.set_cons_succ, List.set_cons_zero]
          refine seq_app rU8 (w0 := wd) wd.heap.size rfl (.tmp 58) (.tmp 59) 22 5 (.int .u8 0) 1 rfl Try.underlying22 info_u8 rfl (by decide) (by decide) (fun _ => False) F v4 ([] ++ xs) l2 A2 n2 c2 rfl rfl
            HO4.out (H2.out.move ((Same.of_below HBd.out HF.out).trans (Same.of_below HB4.out (fun k hk => by have := HF.out k hk; have := HBd.out.size; omega)))) HB4.out HB4.out.size (by have := HQ.out; simp only [List.nil_append]; omega) (fun _ h => h.elim) (fun _ _ h => h) ?_
          intro v5 w5 ho5 hb5 hg5 hat5
          have HB5 := Fact.mk hb5
          obtain ⟨A5, c5, hv5, hs5⟩ := ho5.sl
          have hl5 : ([] ++ xs ++ l2).length = nx + n2 := by have h1 := HQ.out; have h2 := HL2.out; simp only [List.nil_append, List.length_append]; omega
          rw [hl5] at hv5 hs5
          subst hv5
          have HS5 : Fact (Sl rU8 w5 (fun k => k < w5.heap.size) A5 (nx + n2) c5 ([] ++ xs ++ l2)) := ⟨hs5.mono (fun k hk => hk.elim False.elim (fun hv => (ho5.lt k hv).2))⟩
          have HL5 := Fact.mk hl5
          clear ho5 hb5 hg5 hat5 hs5 hl5
          refine ⟨trivial, ?_⟩
          simp only [Act.put, List.setIfInBounds_toArray, List.set_cons_succ, List.set_cons_zero]
          apply seq_do rfl
          · go_simp
            exact ⟨rfl, rfl⟩
          · trivial
          simp only [Act.put, List.setIfInBounds_toArray, List.set_cons_succ, List.set_cons_zero]
          apply seq_tell rfl
          · intro w' hS
            go_simp
            first | done | rfl
          simp only [Act.put, List.setIfInBounds_toArray, List.set_cons_succ, List.set_cons_zero]
          show Exit.then _ _ _ _ _
          have HBE5 : Fact (Below w.heap.size w w5) := ⟨HBd.out.trans (HB5.out.mono HBd.out.size)⟩
          have HBOX : Fact (Sl (Rep.slice rU8) (w5.alloc (.cells #[Value.slice A2 n2 c2, Value.slice Ax nx cx, Value.slice A5 (nx + n2) c5, Value.slice Ax (nx - r) cx] 22)) (fun k => k < w5.heap.size + 1) (some ⟨w5.heap.size, 0, none⟩) 4 4 [l2, xs, [] ++ xs ++ l2, xs.take (nx - r)]) := ⟨(Sl.box w5 _ (sl_cons (F := fun k => k < w5.heap.size) (((H2.out.move (Same.of_below HBE5.out HF.out)).move (Same.alloc (Same.refl _ _) (fun k hk => by have := HF.out k hk; have := HBE5.out.size; omega) _)).mono (fun k hk => by have := HF.out k hk; have := HBE5.out.size; omega))
            (sl_cons (((HSXd.out.move (Same.of_below HB5.out (fun k hk => hk))).mono (fun k hk => by have := HB5.out.size; omega)).move (Same.alloc (Same.refl _ _) (fun k hk => hk) _))
            (sl_cons (HS5.out.move (Same.alloc (Same.refl _ _) (fun k hk => hk) _))
            (sl_cons (((HTd.out.move (Same.of_below HB5.out (fun k hk => hk))).mono (fun k hk => by have := HB5.out.size; omega)).move (Same.alloc (Same.refl _ _) (fun k hk => hk) _)) (Els.nil _ _ _))))) (by simp)).mono (fun k hk => by omega)⟩
          have HBB : Fact (Below w.heap.size w (w5.alloc (.cells #[Value.slice A2 n2 c2, Value.slice Ax nx cx, Value.slice A5 (nx + n2) c5, Value.slice Ax (nx - r) cx] 22))) := ⟨HBE5.out.alloc HBE5.out.size _⟩
          have hbs : (w5.alloc (.cells #[Value.slice A2 n2 c2, Value.slice Ax nx cx, Value.slice A5 (nx + n2) c5, Value.slice Ax (nx - r) cx] 22)).heap.size = w5.heap.size + 1 := by simp
          have HFS : Fact (∀ z ∈ [l2, xs, [] ++ xs ++ l2, xs.take (nx - r)], z.length ≤ 15100) := ⟨by
            have h1 := HL2.out
            have h2 := HQ.out
            have h3 := HL5.out
            intro z hz
            rcases List.mem_cons.1 hz with rfl | hz
            · omega
            · rcases List.mem_cons.1 hz with rfl | hz
              · omega
              · rcases List.mem_cons.1 hz with rfl | hz
                · omega
                · rw [List.mem_singleton.1 hz, List.length_take]; omega⟩
          clear HTd HS5 HL5 HSXd
          generalize w5.alloc (.cells #[Value.slice A2 n2 c2, Value.slice Ax nx cx, Value.slice A5 (nx + n2) c5, Value.slice Ax (nx - r) cx] 22) = wb at HBOX HBB hbs ⊢
          have HBS := Fact.mk hbs
          clear hbs
          generalize [l2, xs, [] ++ xs ++ l2, xs.take (nx - r)] = zs at HBOX HFS
          generalize (⟨w5.heap.size, 0, none⟩ : Addr) = adb at HBOX ⊢
          generalize w5.heap.size = hs7 at HBOX HBS
          go_wp2_with fail
          go_loopg [74] 4 (fun kq i wr => ∃ (k : Nat), i = .int .i64 (k : Int) ∧ Fact (k + kq = 4) ∧ Fact (Below wb.heap.size wb wr))
          case atStart => exact ⟨0, rfl, ⟨by omega⟩, ⟨Below.refl _ _⟩⟩
          case round =>
            obtain ⟨k, rfl, HK, HBR⟩ := hrel
            have HBW : Fact (Below w.heap.size w wr) := ⟨HBB.out.trans (HBR.out.mono HBB.out.size)⟩
            by_cases hlt : k < 4
            · obtain ⟨z, hx⟩ : ∃ x, zs[k]? = some x := ⟨_, List.getElem?_eq_getElem (by rw [HBOX.out.len]; exact hlt)⟩
              obtain ⟨ad, Az, cz, had, hf, hc2, hsz⟩ := sl_at HBOX.out hx
              injection had with had
              subst had
              have hc2' : wr.cell? (adb.add k) = some (.slice Az z.length cz) := (cell_same (by rw [block_add]; exact HBR.out.block _ (by rw [HBS.out]; exact hf))).trans hc2
              have hzl := HFS.out z (List.mem_of_getElem? hx)
              have HSZ : Fact (Sl rU8 wr (fun k => k < wb.heap.size) Az z.length cz z) := ⟨(hsz.move (Same.of_below HBR.out (fun k hk => by rw [HBS.out]; exact hk))).mono (fun k hk => by rw [HBS.out]; exact hk)⟩
              clear hc2 hsz hx hf
              generalize hzn : z.length = nz at hc2' hzl HSZ ⊢
              clear hzn
              go_wp2_with (go_at_call 33; fail)
              refine (Parse_calls wr (fun k => k < wb.heap.size) Az nz cz z HSZ.out (fun k hk => by have := HBR.out.size; omega) (by omega)).mono ?_
              rintro e w8 ⟨v8, rfl, HO8, hb⟩
              have HB8 : Fact (Below wr.heap.size wr w8) := ⟨hb⟩
              have HBB8 : Fact (Below wb.heap.size wb w8) := ⟨HBR.out.trans (hb.mono HBR.out.size)⟩
              obtain ⟨Ap, cp, hv8, hsp⟩ := HO8.out.sl
              subst hv8
              have HSP := Fact.mk hsp
              clear hb hsp HO8
              go_wp2_with (go_at_call 34; fail)
              refine (RParse_calls w8 (fun k => k < wb.heap.size) Az nz cz z (HSZ.out.move (Same.of_below HB8.out (fun k hk => by have := HBR.out.size; omega))) (fun k hk => by have := HBB8.out.size; omega) (by omega)).mono ?_
              rintro e w9 ⟨v9, rfl, HO9, hb⟩
              have HB9 : Fact (Below w8.heap.size w8 w9) := ⟨hb⟩
              have HBB9 : Fact (Below wb.heap.size wb w9) := ⟨HBB8.out.trans (hb.mono HBB8.out.size)⟩
              obtain ⟨Ar, cr, hv9, hsr⟩ := HO9.out.sl
              subst hv9
              have HSR := Fact.mk hsr
              have hul : (parseG z (-1)).1.length ≤ 4294967296 := parse_len z (by have := HSZ.out.len; omega)
              clear hb hsr HO9
              generalize parseG z (-1) = ru at HSP HSR hul ⊢
              obtain ⟨us, eu⟩ := ru
              simp only at HSP HSR hul
              go_wp2_with (go_at_call 35; refine (SameFields_eq w9 (fun k => k < w9.heap.size) Ap Ar us.length cp cr us ((HSP.out.move (Same.of_below HB9.out (fun _ h => h))).mono (fun k hk => by have := HB9.out.size; omega)) HSR.out hul).mono ?_; rintro e w10 ⟨rfl, q, hw⟩; have HW10 := quiet_below hw; clear hw)
              go_roundg (4 - (k + 1))
              case measure => have := HK.out; omega
              case rel => exact ⟨k + 1, by go_num, ⟨by omega⟩, ⟨HBB9.out.trans (HW10.out _)⟩⟩
            · have hk2 : k = 4 := by have := HK.out; omega
              go_wp2_with fail
              go_ret
              exact ⟨rfl, HBW.out⟩
        · have hmn : 0 ≤ nx := by omega
          have HT : Fact (Sl rU8 wr (fun k => k < wr.heap.size) Ax 0 cx (xs.take 0)) := ⟨HSX.out.take_ hmn⟩
          have hsl : ∀ W : World, (Instr.slice 22 (.slice Ax nx cx) none (some (.int .i64 0)) none).run Try.prog W = .ok (.slice Ax 0 cx) W := (slice_to (P := Try.prog) rU8 22 5 Try.underlying22 hi Ax nx cx .i64 0 (by omega) (by omega) hlx).1
          refine wp_region_S (fun _ => True) [(0, true), (1, true), (3, true), (5, true), (7, true), (8, true), (9, true), (10, true), (11, true), (12, true), (13, true), (14, true), (15, true), (16, true), (17, true), (20, true), (2, false), (4, false), (6, false), (18, false), (19, true)] (by kernel_rfl) (by kernel_rfl) (by kernel_rfl) rfl rfl (by intro c a d v w h; cases d <;> exact h) trivial ?_
          simp only [pick, List.filterMap_cons, List.filterMap_nil, Option.map_some, List.getElem?_toArray, List.getElem?_cons_zero, List.getElem?_cons_succ]
          have HBd : Fact (Below w.heap.size w wr.drew) := ⟨HB.out.drew⟩
          have HSXd : Fact (Sl rU8 wr.drew (fun k => k < wr.drew.heap.size) Ax nx cx xs) := ⟨HSX.out.move (Same.refl _ _)⟩
          have HTd : Fact (Sl rU8 wr.drew (fun k => k < wr.drew.heap.size) Ax 0 cx (xs.take 0)) := ⟨HT.out.move (Same.refl _ _)⟩
          clear HT HSX HB
          generalize wr.drew = wd at HBd HSXd HTd ⊢
          iterate 16
            (apply seq_tell rfl
             · intro w' hS
               have K1 := hsl w'
               go_simp
               first | done | rfl
             simp only [Act.put, List.setIfInBounds_toArray, List.set_cons_succ, List.set_cons_zero])
          clear hsl
          apply seq_do rfl
          · go_simp
            exact ⟨rfl, rfl⟩
          · trivial
          simp only [Act.put, List.setIfInBounds_toArray, List.set_cons_succ, List.set_cons_zero]
          refine seq_app rU8 (w0 := wd) wd.heap.size rfl (.tmp 56) (.tmp 57) 22 5 (.int .u8 0) 1 rfl Try.underlying22 info_u8 rfl (by decide) (by decide) (fun _ => False) (fun k => k < wd.heap.size) (.slice (some ⟨wd.heap.size, 0, none⟩) 0 0) [] xs Ax nx cx rfl rfl
            (Ow.litB (xs := []) wd wd.heap.size _ (Nat.le_refl _) rfl rfl (by omega)) (HSXd.out.move ((Same.refl _ _).alloc (fun _ h => h) _)) ((Below.refl _ _).alloc (Nat.le_refl _) _) (by simp) (by simp; omega) (fun _ h => h.elim) (fun _ _ h => h) ?_
          intro v4 w4 ho4 hb4 hg4 hat4
          have HB4 := Fact.mk hb4
          have HO4 := Fact.mk ho4
          clear ho4 hb4 hg4 hat4
          refine ⟨trivial, ?_⟩
          simp only [Act.put, List.setIfInBounds_toArray, List.set_cons_succ, List.set_cons_zero]
          refine seq_app rU8 (w0 := wd) wd.heap.size rfl (.tmp 58) (.tmp 59) 22 5 (.int .u8 0) 1 rfl Try.underlying22 info_u8 rfl (by decide) (by decide) (fun _ => False) F v4 ([] ++ xs) l2 A2 n2 c2 rfl rfl
            HO4.out (H2.out.move ((Same.of_below HBd.out HF.out).trans (Same.of_below HB4.out (fun k hk => by have := HF.out k hk; have := HBd.out.size; omega)))) HB4.out HB4.out.size (by have := HQ.out; simp only [List.nil_append]; omega) (fun _ h => h.elim) (fun _ _ h => h) ?_
          intro v5 w5 ho5 hb5 hg5 hat5
          have HB5 := Fact.mk hb5
          obtain ⟨A5, c5, hv5, hs5⟩ := ho5.sl
          have hl5 : ([] ++ xs ++ l2).length = nx + n2 := by have h1 := HQ.out; have h2 := HL2.out; simp only [List.nil_append, List.length_append]; omega
          rw [hl5] at hv5 hs5
          subst hv5
          have HS5 : Fact (Sl rU8 w5 (fun k => k < w5.heap.size) A5 (nx + n2) c5 ([] ++ xs ++ l2)) := ⟨hs5.mono (fun k hk => hk.elim False.elim (fun hv => (ho5.lt k hv).2))⟩
          have HL5 := Fact.mk hl5
          clear ho5 hb5 hg5 hat5 hs5 hl5
          refine ⟨trivial, ?_⟩
          simp only [Act.put, List.setIfInBounds_toArray, List.set_cons_succ, List.set_cons_zero]
          apply seq_do rfl
          · go_simp
            exact ⟨rfl, rfl⟩
          · trivial
          simp only [Act.put, List.setIfInBounds_toArray, List.set_cons_succ, List.set_cons_zero]
          apply seq_tell rfl
          · intro w' hS
            go_simp
            first | done | rfl
          simp only [Act.put, List.setIfInBounds_toArray, List.set_cons_succ, List.set_cons_zero]
          show Exit.then _ _ _ _ _
          have HBE5 : Fact (Below w.heap.size w w5) := ⟨HBd.out.trans (HB5.out.mono HBd.out.size)⟩
          have HBOX : Fact (Sl (Rep.slice rU8) (w5.alloc (.cells #[Value.slice A2 n2 c2, Value.slice Ax nx cx, Value.slice A5 (nx + n2) c5, Value.slice Ax 0 cx] 22)) (fun k => k < w5.heap.size + 1) (some ⟨w5.heap.size, 0, none⟩) 4 4 [l2, xs, [] ++ xs ++ l2, xs.take 0]) := ⟨(Sl.box w5 _ (sl_cons (F := fun k => k < w5.heap.size) (((H2.out.move (Same.of_below HBE5.out HF.out)).move (Same.alloc (Same.refl _ _) (fun k hk => by have := HF.out k hk; have := HBE5.out.size; omega) _)).mono (fun k hk => by have := HF.out k hk; have := HBE5.out.size; omega))
            (sl_cons (((HSXd.out.move (Same.of_below HB5.out (fun k hk => hk))).mono (fun k hk => by have := HB5.out.size; omega)).move (Same.alloc (Same.refl _ _) (fun k hk => hk) _))
            (sl_cons (HS5.out.move (Same.alloc (Same.refl _ _) (fun k hk => hk) _))
            (sl_cons (((HTd.out.move (Same.of_below HB5.out (fun k hk => hk))).mono (fun k hk => by have := HB5.out.size; omega)).move (Same.alloc (Same.refl _ _) (fun k hk => hk) _)) (Els.nil _ _ _))))) (by simp)).mono (fun k hk => by omega)⟩
          have HBB : Fact (Below w.heap.size w (w5.alloc (.cells #[Value.slice A2 n2 c2, Value.slice Ax nx cx, Value.slice A5 (nx + n2) c5, Value.slice Ax 0 cx] 22))) := ⟨HBE5.out.alloc HBE5.out.size _⟩
          have hbs : (w5.alloc (.cells #[Value.slice A2 n2 c2, Value.slice Ax nx cx, Value.slice A5 (nx + n2) c5, Value.slice Ax 0 cx] 22)).heap.size = w5.heap.size + 1 := by simp
          have HFS : Fact (∀ z ∈ [l2, xs, [] ++ xs ++ l2, xs.take 0], z.length ≤ 15100) := ⟨by
            have h1 := HL2.out
            have h2 := HQ.out
            have h3 := HL5.out
            intro z hz
            rcases List.mem_cons.1 hz with rfl | hz
            · omega
            · rcases List.mem_cons.1 hz with rfl | hz
              · omega
              · rcases List.mem_cons.1 hz with rfl | hz
                · omega
                · rw [List.mem_singleton.1 hz, List.length_take]; omega⟩
          clear HTd HS5 HL5 HSXd
          generalize w5.alloc (.cells #[Value.slice A2 n2 c2, Value.slice Ax nx cx, Value.slice A5 (nx + n2) c5, Value.slice Ax 0 cx] 22) = wb at HBOX HBB hbs ⊢
          have HBS := Fact.mk hbs
          clear hbs
          generalize [l2, xs, [] ++ xs ++ l2, xs.take 0] = zs at HBOX HFS
          generalize (⟨w5.heap.size, 0, none⟩ : Addr) = adb at HBOX ⊢
          generalize w5.heap.size = hs7 at HBOX HBS
          go_wp2_with fail
          go_loopg [74] 4 (fun kq i wr => ∃ (k : Nat), i = .int .i64 (k : Int) ∧ Fact (k + kq = 4) ∧ Fact (Below wb.heap.size wb wr))
          case atStart => exact ⟨0, rfl, ⟨by omega⟩, ⟨Below.refl _ _⟩⟩
          case round =>
            obtain ⟨k, rfl, HK, HBR⟩ := hrel
            have HBW : Fact (Below w.heap.size w wr) := ⟨HBB.out.trans (HBR.out.mono HBB.out.size)⟩
            by_cases hlt : k < 4
            · obtain ⟨z, hx⟩ : ∃ x, zs[k]? = some x := ⟨_, List.getElem?_eq_getElem (by rw [HBOX.out.len]; exact hlt)⟩
              obtain ⟨ad, Az, cz, had, hf, hc2, hsz⟩ := sl_at HBOX.out hx
              injection had with had
              subst had
              have hc2' : wr.cell? (adb.add k) = some (.slice Az z.length cz) := (cell_same (by rw [block_add]; exact HBR.out.block _ (by rw [HBS.out]; exact hf))).trans hc2
              have hzl := HFS.out z (List.mem_of_getElem? hx)
              have HSZ : Fact (Sl rU8 wr (fun k => k < wb.heap.size) Az z.length cz z) := ⟨(hsz.move (Same.of_below HBR.out (fun k hk => by rw [HBS.out]; exact hk))).mono (fun k hk => by rw [HBS.out]; exact hk)⟩
              clear hc2 hsz hx hf
              generalize hzn : z.length = nz at hc2' hzl HSZ ⊢
              clear hzn
              go_wp2_with (go_at_call 33; fail)
              refine (Parse_calls wr (fun k => k < wb.heap.size) Az nz cz z HSZ.out (fun k hk => by have := HBR.out.size; omega) (by omega)).mono ?_
              rintro e w8 ⟨v8, rfl, HO8, hb⟩
              have HB8 : Fact (Below wr.heap.size wr w8) := ⟨hb⟩
              have HBB8 : Fact (Below wb.heap.size wb w8) := ⟨HBR.out.trans (hb.mono HBR.out.size)⟩
              obtain ⟨Ap, cp, hv8, hsp⟩ := HO8.out.sl
              subst hv8
              have HSP := Fact.mk hsp
              clear hb hsp HO8
              go_wp2_with (go_at_call 34; fail)
              refine (RParse_calls w8 (fun k => k < wb.heap.size) Az nz cz z (HSZ.out.move (Same.of_below HB8.out (fun k hk => by have := HBR.out.size; omega))) (fun k hk => by have := HBB8.out.size; omega) (by omega)).mono ?_
              rintro e w9 ⟨v9, rfl, HO9, hb⟩
              have HB9 : Fact (Below w8.heap.size w8 w9) := ⟨hb⟩
              have HBB9 : Fact (Below wb.heap.size wb w9) := ⟨HBB8.out.trans (hb.mono HBB8.out.size)⟩
              obtain ⟨Ar, cr, hv9, hsr⟩ := HO9.out.sl
              subst hv9
              have HSR := Fact.mk hsr
              have hul : (parseG z (-1)).1.length ≤ 4294967296 := parse_len z (by have := HSZ.out.len; omega)
              clear hb hsr HO9
              generalize parseG z (-1) = ru at HSP HSR hul ⊢
              obtain ⟨us, eu⟩ := ru
              simp only at HSP HSR hul
              go_wp2_with (go_at_call 35; refine (SameFields_eq w9 (fun k => k < w9.heap.size) Ap Ar us.length cp cr us ((HSP.out.move (Same.of_below HB9.out (fun _ h => h))).mono (fun k hk => by have := HB9.out.size; omega)) HSR.out hul).mono ?_; rintro e w10 ⟨rfl, q, hw⟩; have HW10 := quiet_below hw; clear hw)
              go_roundg (4 - (k + 1))
              case measure => have := HK.out; omega
              case rel => exact ⟨k + 1, by go_num, ⟨by omega⟩, ⟨HBB9.out.trans (HW10.out _)⟩⟩
            · have hk2 : k = 4 := by have := HK.out; omega
              go_wp2_with fail
              go_ret
              exact ⟨rfl, HBW.out⟩
end Go.Proofs.Ytjjcjdefenbnjaa.LawParses
