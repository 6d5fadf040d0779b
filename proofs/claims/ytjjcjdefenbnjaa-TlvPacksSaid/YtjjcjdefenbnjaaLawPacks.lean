/- TlvPacks: for every input the law answers true; what was in memory before is as it was. -/
import Derived.Test.YtjjcjdefenbnjaaPlainT
import Derived.Test.YtjjcjdefenbnjaaTlvI
import Derived.Test.YtjjcjdefenbnjaaLawOne
import Derived.Test.YtjjcjdefenbnjaaLibB
import Derived.WalkSpells
set_option linter.unusedVariables false
set_option linter.unusedSimpArgs false
namespace Go.Proofs.Ytjjcjdefenbnjaa.LawPacks
open Go.RowKit Go.Proofs.Ytjjcjdefenbnjaa.Lib Go.Proofs.Ytjjcjdefenbnjaa.LibB Go.Proofs.Ytjjcjdefenbnjaa.Reg Go.Proofs.Ytjjcjdefenbnjaa.TlvA Go.Proofs.Ytjjcjdefenbnjaa.TlvB Go.Proofs.Ytjjcjdefenbnjaa.TlvC Go.Proofs.Ytjjcjdefenbnjaa.TlvD Go.Proofs.Ytjjcjdefenbnjaa.TlvE Go.Proofs.Ytjjcjdefenbnjaa.TlvH Go.Proofs.Ytjjcjdefenbnjaa.TlvI Go.Proofs.Ytjjcjdefenbnjaa.PlainT Go.Proofs.Ytjjcjdefenbnjaa.LawOne

theorem packL_most (l : List (List UInt8)) (m : Nat) (h : ∀ v ∈ l, v.length ≤ m) : (packL l).length ≤ (m + 2) * l.length := by
  induction l with
  | nil => simp [packL]
  | cons v r ih =>
    have he : packL (v :: r) = [lo (v.length / 256), lo v.length] ++ v ++ packL r := by simp [packL]
    have h1 := h v List.mem_cons_self
    have ih := ih fun x hx => h x (List.mem_cons_of_mem _ hx)
    rw [he]
    simp only [List.length_append, List.length_cons, List.length_nil]
    rw [Nat.mul_add]
    omega

theorem unpack_len (l : List UInt8) (h : l.length ≤ 4294967296) : (unpackG l).1.length ≤ 4294967296 := by
  by_cases h0 : (unpackG l).2 = 0
  · have h1 := packL_len (unpackG l).1
    rw [(unpack_one l h0).1] at h1
    omega
  · have h1 := moreP_nil l
    unfold moreP at h1
    rw [if_neg h0] at h1
    rw [← h1]
    simp

set_option maxHeartbeats 4000000 in
set_option maxRecDepth 100000 in
theorem TlvPacks_calls (w : World) (F : Nat → Prop) (A : Option Addr) (n c : Nat) (l : List (List UInt8)) (A2 : Option Addr) (n2 c2 : Nat) (l2 : List UInt8) (cut : Int) (hc0 : 0 ≤ cut) (hc1 : cut ≤ 255) (h : Sl (Rep.slice rU8) w F A n c l) (h2 : Sl rU8 w F A2 n2 c2 l2) (hF : ∀ k, F k → k < w.heap.size) :
    Calls Try.prog 10 #[.slice A n c, .slice A2 n2 c2, .int .u8 cut] w fun e w' => e = .returned (.bool true) ∧ Below w.heap.size w w' := by
  have hlen : l.length = n := h.len
  have hlen2 : l2.length = n2 := h2.len
  have hmx : n ≤ 9223372036854775807 := Nat.le_trans h.le h.max_
  have hmx2 : n2 ≤ 9223372036854775807 := Nat.le_trans h2.le h2.max_
  have HF := Fact.mk hF
  have H := Fact.mk h
  have H2 := Fact.mk h2
  have HL := Fact.mk hlen
  have HL2 := Fact.mk hlen2
  clear h h2 hF hlen hlen2
  by_cases hbig : 2000 < n2 ∨ 50 < n
  · by_cases hb1 : 2000 < n2
    · have k1 : decide (2000 < n2) = true := by simp; omega
      have k1' : decide ((2000 : Int) < n2) = true := by simp; omega
      go_enter Try.func10, Try.ntmps10
      go_wp2_with (go_at_call 19; refine (Awake_calls _).mono ?_; rintro e w1 ⟨rfl, hb⟩; have HB1 := Fact.mk hb; clear hb)
      go_ret
      exact ⟨rfl, HB1.out⟩
    · have k1 : decide (2000 < n2) = false := by simp; omega
      have k1' : decide ((2000 : Int) < n2) = false := by simp; omega
      have k2 : decide (50 < n) = true := by simp; omega
      have k2' : decide ((50 : Int) < n) = true := by simp; omega
      go_enter Try.func10, Try.ntmps10
      go_wp2_with (go_at_call 19; refine (Awake_calls _).mono ?_; rintro e w1 ⟨rfl, hb⟩; have HB1 := Fact.mk hb; clear hb)
      go_ret
      exact ⟨rfl, HB1.out⟩
  · have hn2 : n2 ≤ 2000 := by omega
    have hn : n ≤ 50 := by omega
    have k1 : decide (2000 < n2) = false := by simp; omega
    have k1' : decide ((2000 : Int) < n2) = false := by simp; omega
    have k2 : decide (50 < n) = false := by simp; omega
    have k2' : decide ((50 : Int) < n) = false := by simp; omega
    clear hbig
    go_enter Try.func10, Try.ntmps10
    go_wp2_with (go_at_call 19; refine (Awake_calls _).mono ?_; rintro e w1 ⟨rfl, hb⟩; have HB1 := Fact.mk hb; clear hb)
    go_loopg [33] n (fun kq i wr => ∃ (k : Nat), i = .int .i64 (k : Int) ∧ Fact (k + kq = n) ∧ Fact (∀ v ∈ l.take k, v.length ≤ 300) ∧ Fact (Below w.heap.size w wr))
    case atStart => exact ⟨0, rfl, ⟨by omega⟩, ⟨by simp⟩, HB1⟩
    case round =>
      obtain ⟨k, rfl, HK, HV, HB⟩ := hrel
      by_cases hlt : k < n
      · obtain ⟨v, hx⟩ : ∃ x, l[k]? = some x := ⟨_, List.getElem?_eq_getElem (by rw [HL.out]; exact hlt)⟩
        obtain ⟨ad, A3, c3, rfl, hf, hc2, hsv⟩ := sl_at H.out hx
        have hc2' : wr.cell? (ad.add k) = some (.slice A3 v.length c3) := (cell_same (by rw [block_add]; exact HB.out.block _ (HF.out _ hf))).trans hc2
        have htk : l.take (k + 1) = l.take k ++ [v] := by
          obtain ⟨hl', hv'⟩ := List.getElem?_eq_some_iff.1 hx
          rw [List.take_succ_eq_append_getElem hl', hv']
        have HTK := Fact.mk htk
        have hvm : v.length ≤ 9223372036854775807 := Nat.le_trans hsv.le hsv.max_
        clear hc2 hsv hx hf htk
        by_cases hvl : 300 < v.length
        · have kv : decide (300 < v.length) = true := by simp; omega
          have kv' : decide ((300 : Int) < v.length) = true := by simp; omega
          go_wp2_with fail
          go_ret
          exact ⟨rfl, HB.out⟩
        · have kv : decide (300 < v.length) = false := by simp; omega
          have kv' : decide ((300 : Int) < v.length) = false := by simp; omega
          have HVL : Fact (v.length ≤ 300) := ⟨by omega⟩
          clear hvl
          go_wp2_with fail
          go_roundg (n - (k + 1))
          case measure => have := HK.out; omega
          case rel => exact ⟨k + 1, by go_num, ⟨by omega⟩, ⟨by rw [HTK.out]; intro x hx; rcases List.mem_append.1 hx with hx | hx; exact HV.out x hx; rw [List.mem_singleton.1 hx]; exact HVL.out⟩, HB⟩
      · have htk : l.take k = l := List.take_of_length_le (by have := HL.out; omega)
        have hall : ∀ v ∈ l, v.length ≤ 300 := by have h := HV.out; rw [htk] at h; exact h
        have hps : (packL l).length ≤ 15100 := by have h1 := packL_most l 300 hall; rw [HL.out] at h1; omega
        have HALL : Fact (∀ v ∈ l, v.length ≤ 65535) := ⟨fun v hv => by have := hall v hv; omega⟩
        clear htk hall HV
        go_wp2_with (go_at_call 36; fail)
        refine (Pack_calls _ F A n c l (H.out.move (Same.of_below HB.out HF.out)) (fun k hk => by have := HF.out k hk; have := HB.out.size; omega) (by omega) (by omega) HALL.out).mono ?_
        rintro e w2 ⟨v2, rfl, HO2, hb⟩
        have HB2 : Fact (Below w.heap.size w w2) := ⟨HB.out.trans (hb.mono HB.out.size)⟩
        obtain ⟨Ax, cx, hv2, hsx⟩ := HO2.out.sl
        subst hv2
        have hlx := hsx.le
        have hmxx := hsx.max_
        have HSX : Fact (Sl rU8 w2 (fun k => k < w2.heap.size) Ax (packL l).length cx (packL l)) := ⟨HO2.out.slF.mono (fun _ hk => hk.2)⟩
        clear hb hsx HO2
        generalize hq : (packL l).length = nx at hps HSX hlx ⊢
        have HQ := Fact.mk hq
        clear hq
        go_wp2_with (go_at_call 37; fail)
        refine (Unpack_calls _ (fun k => k < w2.heap.size) Ax nx cx (packL l) HSX.out (fun _ h => h) (by omega)).mono ?_
        rintro e w3 ⟨v3, rfl, HO3, hb⟩
        have hup := unpack_pack l HALL.out
        rw [hup] at HO3
        simp only [hup]
        have HBX3 : Fact (Below w2.heap.size w2 w3) := ⟨hb⟩
        obtain ⟨Ay, cy, hv3, hsy⟩ := HO3.out.sl
        simp only at hv3 hsy
        rw [HL.out] at hv3 hsy
        subst hv3
        have HSY := Fact.mk hsy
        clear hb hsy HO3 hup
        have HBX : Fact (Below w2.heap.size w2 w3.drew) := ⟨HBX3.out.drew⟩
        go_wp2_with fail
        have HK1 : Fact (∀ w', Below w2.heap.size w2 w' → (convert 22 9 (.slice Ax nx cx)).run Try.prog w' = .ok (.string ⟨(packL l).toArray⟩) w') := ⟨fun w' hS => run_str _ _ _ Try.underlying22 Try.underlying5 Try.underlying9 (HSX.out.move (Same.of_below hS (fun _ h => h)))⟩
        refine wp_region_S (fun w' => Below w2.heap.size w2 w') [(0, true), (1, true), (2, true), (3, true), (4, true), (5, true), (6, true), (7, true), (8, true), (9, true), (10, false), (11, false), (12, true), (13, true), (14, true), (15, true), (16, true), (17, false), (18, true), (19, true)] (by kernel_rfl) (by kernel_rfl) (by kernel_rfl) rfl rfl (by intro c a d v w h; cases d <;> exact h) HBX.out ?_
        simp only [pick, List.filterMap_cons, List.filterMap_nil, Option.map_some, List.getElem?_toArray, List.getElem?_cons_zero, List.getElem?_cons_succ]
        have HSYd : Fact (Sl (Rep.slice rU8) w3.drew (fun k => k < w3.drew.heap.size) Ay n cy l) := ⟨HSY.out.move (Same.refl _ _)⟩
        generalize w3.drew = wd at HBX HSYd ⊢
        iterate 10
          (first | apply seq_tell rfl | apply seq_tellG rfl
           · intro w' hS
             have K1 := HK1.out w' hS
             go_simp
             first | done | rfl
           simp only [Act.put, List.setIfInBounds_toArray, List.set_cons_succ, List.set_cons_zero])
        have HBd : Fact (Below w.heap.size w wd) := ⟨HB2.out.trans (HBX.out.mono HB2.out.size)⟩
        refine seq_callG (f := 38) (args := #[.slice A n c]) rfl rfl Try.func38 (by kernel_rfl) rfl (by simp only [List.map_toArray, List.map_cons, List.map_nil]; rfl) ?_
        refine (RPack_calls wd F A n c l (H.out.move (Same.of_below HBd.out HF.out)) (fun k hk => by have := HF.out k hk; have := HBd.out.size; omega) (by omega) (by rw [HQ.out]; omega) HALL.out).mono ?_
        rintro e w6 ⟨v6, rfl, HO6, hb6⟩
        have HSS6 : Fact (Below w2.heap.size w2 w6) := ⟨HBX.out.trans (hb6.mono HBX.out.size)⟩
        have HBE : Fact (Below w.heap.size w w6) := ⟨HBd.out.trans (hb6.mono HBd.out.size)⟩
        have HSY6 : Fact (Sl (Rep.slice rU8) w6 (fun k => k < w6.heap.size) Ay n cy l) := ⟨(HSYd.out.move (Same.of_below hb6 (fun _ h => h))).mono (fun k hk => by have := hb6.size; omega)⟩
        obtain ⟨A6, c6, hv6, hs6⟩ := HO6.out.sl
        subst hv6
        have hstr6 := run_str (P := Try.prog) 22 5 9 Try.underlying22 Try.underlying5 Try.underlying9 hs6
        clear hb6 hs6 HO6
        refine ⟨_, rfl, HSS6.out, ?_⟩
        simp only [Act.put, List.setIfInBounds_toArray, List.set_cons_succ, List.set_cons_zero]
        apply seq_doG rfl
        · go_simp
          exact ⟨rfl, rfl⟩
        · exact HSS6.out
        simp only [Act.put, List.setIfInBounds_toArray, List.set_cons_succ, List.set_cons_zero]
        clear hstr6
        iterate 5
          (first | apply seq_tell rfl | apply seq_tellG rfl
           · intro w' hS
             have K1 := HK1.out w' hS
             go_simp
             first | done | rfl
           simp only [Act.put, List.setIfInBounds_toArray, List.set_cons_succ, List.set_cons_zero])
        refine seq_callG (f := 39) (args := #[.slice Ay n cy, .slice A n c]) rfl rfl Try.func39 (by kernel_rfl) rfl (by simp only [List.map_toArray, List.map_cons, List.map_nil]; rfl) ?_
        refine (SameLists_eq w6 (fun k => k < w6.heap.size) Ay A n cy c l HSY6.out ((H.out.move (Same.of_below HBE.out HF.out)).mono (fun k hk => by have := HF.out k hk; have := HBE.out.size; omega)) (by omega)).mono ?_
        rintro e w7 ⟨rfl, q, hw⟩
        have HW7 := quiet_below hw
        have HSS7 : Fact (Below w2.heap.size w2 w7) := ⟨HSS6.out.trans (HW7.out _)⟩
        have HBE7 : Fact (Below w.heap.size w w7) := ⟨HBE.out.trans (HW7.out _)⟩
        clear hw
        refine ⟨_, rfl, HSS7.out, ?_⟩
        simp only [Act.put, List.setIfInBounds_toArray, List.set_cons_succ, List.set_cons_zero]
        iterate 2
          (first | apply seq_tell rfl | apply seq_tellG rfl
           · intro w' hS
             have K1 := HK1.out w' hS
             go_simp
             first | done | rfl
           simp only [Act.put, List.setIfInBounds_toArray, List.set_cons_succ, List.set_cons_zero])
        show Exit.then _ _ _ _ _
        have hmod : cut % 9 ≤ 8 ∧ 0 ≤ cut % 9 := by omega
        by_cases hle : (nx : Int) ≤ cut % 9
        · have hmn : 0 ≤ nx := by omega
          go_wp2_with fail
          have HT : Fact (Sl rU8 w7 (fun k => k < w7.heap.size) Ax 0 cx ((packL l).take 0)) := ⟨((HSX.out.move (Same.of_below HSS7.out (fun _ h => h))).mono (fun k hk => by have := HSS7.out.size; omega)).take_ hmn⟩
          have HBOX : Fact (Sl (Rep.slice rU8) (w7.alloc (.cells #[Value.slice A2 n2 c2, Value.slice Ax 0 cx] 22)) (fun k => k < w7.heap.size + 1) (some ⟨w7.heap.size, 0, none⟩) 2 2 [l2, (packL l).take 0]) := ⟨(Sl.box w7 _ (sl_cons (F := fun k => k < w7.heap.size) (((H2.out.move (Same.of_below HBE7.out HF.out)).move (Same.alloc (Same.refl _ _) (fun k hk => by have := HF.out k hk; have := HBE7.out.size; omega) _)).mono (fun k hk => by have := HF.out k hk; have := HBE7.out.size; omega)) (sl_cons (HT.out.move (Same.alloc (Same.refl _ _) (fun k hk => hk) _)) (Els.nil _ _ _))) (by simp)).mono (fun k hk => by omega)⟩
          have HBB : Fact (Below w.heap.size w (w7.alloc (.cells #[Value.slice A2 n2 c2, Value.slice Ax 0 cx] 22))) := ⟨HBE7.out.alloc HBE7.out.size _⟩
          have hbs : (w7.alloc (.cells #[Value.slice A2 n2 c2, Value.slice Ax 0 cx] 22)).heap.size = w7.heap.size + 1 := by simp
          have HFS : Fact (∀ z ∈ [l2, (packL l).take 0], z.length ≤ 15100) := ⟨by
            intro z hz
            rcases List.mem_cons.1 hz with rfl | hz
            · have := HL2.out; omega
            · rw [List.mem_singleton.1 hz, List.length_take, HQ.out]; omega⟩
          clear HT
          generalize w7.alloc (.cells #[Value.slice A2 n2 c2, Value.slice Ax 0 cx] 22) = wb at HBOX HBB hbs ⊢
          have HBS := Fact.mk hbs
          clear hbs
          generalize [l2, (packL l).take 0] = zs at HBOX HFS
          generalize (⟨w7.heap.size, 0, none⟩ : Addr) = adb at HBOX ⊢
          generalize w7.heap.size = hs7 at HBOX HBS
          go_loopg [85] 2 (fun kq i wr => ∃ (k : Nat), i = .int .i64 (k : Int) ∧ Fact (k + kq = 2) ∧ Fact (Below wb.heap.size wb wr))
          case atStart => exact ⟨0, rfl, ⟨by omega⟩, ⟨Below.refl _ _⟩⟩
          case round =>
            obtain ⟨k, rfl, HK, HBR⟩ := hrel
            have HBW : Fact (Below w.heap.size w wr) := ⟨HBB.out.trans (HBR.out.mono HBB.out.size)⟩
            by_cases hlt : k < 2
            · obtain ⟨z, hx⟩ : ∃ x, zs[k]? = some x := ⟨_, List.getElem?_eq_getElem (by rw [HBOX.out.len]; exact hlt)⟩
              obtain ⟨ad, Az, cz, had, hf, hc2, hsz⟩ := sl_at HBOX.out hx
              injection had with had
              subst had
              have hc2' : wr.cell? (adb.add k) = some (.slice Az z.length cz) := (cell_same (by rw [block_add]; exact HBR.out.block _ (by rw [HBS.out]; exact hf))).trans hc2
              have hzl := HFS.out z (List.mem_of_getElem? hx)
              have HSZ : Fact (Sl rU8 wr (fun k => k < wb.heap.size) Az z.length cz z) := ⟨(hsz.move (Same.of_below HBR.out (fun k hk => by rw [HBS.out]; exact hk))).mono (fun k hk => by rw [HBS.out]; exact hk)⟩
              clear hc2 hsz hx hf
              generalize hzn : z.length = nz at hc2' hzl HSZ ⊢
              clear hzn
              go_wp2_with (go_at_call 37; fail)
              refine (Unpack_calls wr (fun k => k < wb.heap.size) Az nz cz z HSZ.out (fun k hk => by have := HBR.out.size; omega) (by omega)).mono ?_
              rintro e w8 ⟨v8, rfl, HO8, hb⟩
              have HB8 : Fact (Below wr.heap.size wr w8) := ⟨hb⟩
              have HBB8 : Fact (Below wb.heap.size wb w8) := ⟨HBR.out.trans (hb.mono HBR.out.size)⟩
              obtain ⟨Ap, cp, hv8, hsp⟩ := HO8.out.sl
              subst hv8
              have HSP := Fact.mk hsp
              clear hb hsp HO8
              go_wp2_with (go_at_call 40; fail)
              refine (RUnpack_calls w8 (fun k => k < wb.heap.size) Az nz cz z (HSZ.out.move (Same.of_below HB8.out (fun k hk => by have := HBR.out.size; omega))) (fun k hk => by have := HBB8.out.size; omega) (by omega)).mono ?_
              rintro e w9 ⟨v9, rfl, HO9, hb⟩
              have HB9 : Fact (Below w8.heap.size w8 w9) := ⟨hb⟩
              have HBB9 : Fact (Below wb.heap.size wb w9) := ⟨HBB8.out.trans (hb.mono HBB8.out.size)⟩
              obtain ⟨Ar, cr, hv9, hsr⟩ := HO9.out.sl
              subst hv9
              have HSR := Fact.mk hsr
              have hul : (unpackG z).1.length ≤ 4294967296 := unpack_len z (by have := HSZ.out.len; omega)
              clear hb hsr HO9
              generalize unpackG z = ru at HSP HSR hul ⊢
              obtain ⟨us, eu⟩ := ru
              simp only at HSP HSR hul
              go_wp2_with (go_at_call 39; refine (SameLists_eq w9 (fun k => k < w9.heap.size) Ap Ar us.length cp cr us ((HSP.out.move (Same.of_below HB9.out (fun _ h => h))).mono (fun k hk => by have := HB9.out.size; omega)) HSR.out hul).mono ?_; rintro e w10 ⟨rfl, q, hw⟩; have HW10 := quiet_below hw; clear hw)
              go_roundg (2 - (k + 1))
              case measure => have := HK.out; omega
              case rel => exact ⟨k + 1, by go_num, ⟨by omega⟩, ⟨HBB9.out.trans (HW10.out _)⟩⟩
            · have hk2 : k = 2 := by have := HK.out; omega
              obtain ⟨mk, hmc, hmk⟩ : ∃ cells : Array Value, cells.toList = (List.replicate 65536 (0 : UInt8)).map vu8 ∧ ∀ W : World, (Instr.makeSlice 22 (.int .i64 65536) (.int .i64 65536)).run Try.prog W = .ok (.slice (some ⟨W.heap.size, 0, none⟩) 65536 65536) (W.alloc (.cells cells 5)) := ⟨_, made_bytes 65536, fun W => run_make_bytes (P := Try.prog) 22 5 Try.underlying22 info_u8 .i64 65536 (by omega) W⟩
              have HMC := Fact.mk hmc
              clear hmc
              go_wp2_with (go_at_call 36; fail)
              have hrl : ∃ big : List UInt8, big = List.replicate 65536 (0 : UInt8) ∧ big.length = 65536 := ⟨_, rfl, List.length_replicate ..⟩
              obtain ⟨big, hbg, hbl⟩ := hrl
              have hmc := HMC.out
              rw [← hbg] at hmc
              clear hbg HMC
              have hs1 : Sl rU8 (wr.alloc (.cells mk 5)) (fun k => k = wr.heap.size) (some ⟨wr.heap.size, 0, none⟩) 65536 65536 big := Sl.boxM wr _ hmc hbl (by omega)
              have hs2 : Sl (Rep.slice rU8) ((wr.alloc (.cells mk 5)).alloc (.cells #[.slice (some ⟨wr.heap.size, 0, none⟩) 65536 65536] 22)) (fun k => k < wr.heap.size + 2) (some ⟨wr.heap.size + 1, 0, none⟩) 1 1 [big] := by
                have h := Sl.box (wr.alloc (.cells mk 5)) 22 (cells := #[.slice (some ⟨wr.heap.size, 0, none⟩) 65536 65536]) (sl_cons (F := fun k => k < wr.heap.size + 1) ((hs1.move (Same.alloc (Same.refl _ _) (fun k hk => by simp; omega) _)).mono (fun k hk => by omega)) (Els.nil _ _ _)) (by simp)
                rw [size_alloc'] at h
                exact h.mono (fun k hk => by omega)
              refine (Pack_long _ _ _ 1 big hs2 (by omega)).mono ?_
              rintro e w9 ⟨rfl, q, hw⟩
              have HBE9 : Fact (Below w.heap.size w w9) := ⟨by rw [hw]; exact below_drewN' ((HBW.out.alloc HBW.out.size _).alloc (by have := HBW.out.size; simp; omega) _) q⟩
              clear hw hs1 hs2
              go_wp2_with fail
              go_ret
              exact ⟨rfl, HBE9.out⟩
        · go_wp2_with fail
          have hmn : ((nx : Int) - cut % 9).toNat ≤ nx := by omega
          generalize ((nx : Int) - cut % 9).toNat = m at hmn ⊢
          have HT : Fact (Sl rU8 w7 (fun k => k < w7.heap.size) Ax m cx ((packL l).take m)) := ⟨((HSX.out.move (Same.of_below HSS7.out (fun _ h => h))).mono (fun k hk => by have := HSS7.out.size; omega)).take_ hmn⟩
          have HBOX : Fact (Sl (Rep.slice rU8) (w7.alloc (.cells #[Value.slice A2 n2 c2, Value.slice Ax m cx] 22)) (fun k => k < w7.heap.size + 1) (some ⟨w7.heap.size, 0, none⟩) 2 2 [l2, (packL l).take m]) := ⟨(Sl.box w7 _ (sl_cons (F := fun k => k < w7.heap.size) (((H2.out.move (Same.of_below HBE7.out HF.out)).move (Same.alloc (Same.refl _ _) (fun k hk => by have := HF.out k hk; have := HBE7.out.size; omega) _)).mono (fun k hk => by have := HF.out k hk; have := HBE7.out.size; omega)) (sl_cons (HT.out.move (Same.alloc (Same.refl _ _) (fun k hk => hk) _)) (Els.nil _ _ _))) (by simp)).mono (fun k hk => by omega)⟩
          have HBB : Fact (Below w.heap.size w (w7.alloc (.cells #[Value.slice A2 n2 c2, Value.slice Ax m cx] 22))) := ⟨HBE7.out.alloc HBE7.out.size _⟩
          have hbs : (w7.alloc (.cells #[Value.slice A2 n2 c2, Value.slice Ax m cx] 22)).heap.size = w7.heap.size + 1 := by simp
          have HFS : Fact (∀ z ∈ [l2, (packL l).take m], z.length ≤ 15100) := ⟨by
            intro z hz
            rcases List.mem_cons.1 hz with rfl | hz
            · have := HL2.out; omega
            · rw [List.mem_singleton.1 hz, List.length_take, HQ.out]; omega⟩
          clear HT
          generalize w7.alloc (.cells #[Value.slice A2 n2 c2, Value.slice Ax m cx] 22) = wb at HBOX HBB hbs ⊢
          have HBS := Fact.mk hbs
          clear hbs
          generalize [l2, (packL l).take m] = zs at HBOX HFS
          generalize (⟨w7.heap.size, 0, none⟩ : Addr) = adb at HBOX ⊢
          generalize w7.heap.size = hs7 at HBOX HBS
          go_loopg [85] 2 (fun kq i wr => ∃ (k : Nat), i = .int .i64 (k : Int) ∧ Fact (k + kq = 2) ∧ Fact (Below wb.heap.size wb wr))
          case atStart => exact ⟨0, rfl, ⟨by omega⟩, ⟨Below.refl _ _⟩⟩
          case round =>
            obtain ⟨k, rfl, HK, HBR⟩ := hrel
            have HBW : Fact (Below w.heap.size w wr) := ⟨HBB.out.trans (HBR.out.mono HBB.out.size)⟩
            by_cases hlt : k < 2
            · obtain ⟨z, hx⟩ : ∃ x, zs[k]? = some x := ⟨_, List.getElem?_eq_getElem (by rw [HBOX.out.len]; exact hlt)⟩
              obtain ⟨ad, Az, cz, had, hf, hc2, hsz⟩ := sl_at HBOX.out hx
              injection had with had
              subst had
              have hc2' : wr.cell? (adb.add k) = some (.slice Az z.length cz) := (cell_same (by rw [block_add]; exact HBR.out.block _ (by rw [HBS.out]; exact hf))).trans hc2
              have hzl := HFS.out z (List.mem_of_getElem? hx)
              have HSZ : Fact (Sl rU8 wr (fun k => k < wb.heap.size) Az z.length cz z) := ⟨(hsz.move (Same.of_below HBR.out (fun k hk => by rw [HBS.out]; exact hk))).mono (fun k hk => by rw [HBS.out]; exact hk)⟩
              clear hc2 hsz hx hf
              generalize hzn : z.length = nz at hc2' hzl HSZ ⊢
              clear hzn
              go_wp2_with (go_at_call 37; fail)
              refine (Unpack_calls wr (fun k => k < wb.heap.size) Az nz cz z HSZ.out (fun k hk => by have := HBR.out.size; omega) (by omega)).mono ?_
              rintro e w8 ⟨v8, rfl, HO8, hb⟩
              have HB8 : Fact (Below wr.heap.size wr w8) := ⟨hb⟩
              have HBB8 : Fact (Below wb.heap.size wb w8) := ⟨HBR.out.trans (hb.mono HBR.out.size)⟩
              obtain ⟨Ap, cp, hv8, hsp⟩ := HO8.out.sl
              subst hv8
              have HSP := Fact.mk hsp
              clear hb hsp HO8
              go_wp2_with (go_at_call 40; fail)
              refine (RUnpack_calls w8 (fun k => k < wb.heap.size) Az nz cz z (HSZ.out.move (Same.of_below HB8.out (fun k hk => by have := HBR.out.size; omega))) (fun k hk => by have := HBB8.out.size; omega) (by omega)).mono ?_
              rintro e w9 ⟨v9, rfl, HO9, hb⟩
              have HB9 : Fact (Below w8.heap.size w8 w9) := ⟨hb⟩
              have HBB9 : Fact (Below wb.heap.size wb w9) := ⟨HBB8.out.trans (hb.mono HBB8.out.size)⟩
              obtain ⟨Ar, cr, hv9, hsr⟩ := HO9.out.sl
              subst hv9
              have HSR := Fact.mk hsr
              have hul : (unpackG z).1.length ≤ 4294967296 := unpack_len z (by have := HSZ.out.len; omega)
              clear hb hsr HO9
              generalize unpackG z = ru at HSP HSR hul ⊢
              obtain ⟨us, eu⟩ := ru
              simp only at HSP HSR hul
              go_wp2_with (go_at_call 39; refine (SameLists_eq w9 (fun k => k < w9.heap.size) Ap Ar us.length cp cr us ((HSP.out.move (Same.of_below HB9.out (fun _ h => h))).mono (fun k hk => by have := HB9.out.size; omega)) HSR.out hul).mono ?_; rintro e w10 ⟨rfl, q, hw⟩; have HW10 := quiet_below hw; clear hw)
              go_roundg (2 - (k + 1))
              case measure => have := HK.out; omega
              case rel => exact ⟨k + 1, by go_num, ⟨by omega⟩, ⟨HBB9.out.trans (HW10.out _)⟩⟩
            · have hk2 : k = 2 := by have := HK.out; omega
              obtain ⟨mk, hmc, hmk⟩ : ∃ cells : Array Value, cells.toList = (List.replicate 65536 (0 : UInt8)).map vu8 ∧ ∀ W : World, (Instr.makeSlice 22 (.int .i64 65536) (.int .i64 65536)).run Try.prog W = .ok (.slice (some ⟨W.heap.size, 0, none⟩) 65536 65536) (W.alloc (.cells cells 5)) := ⟨_, made_bytes 65536, fun W => run_make_bytes (P := Try.prog) 22 5 Try.underlying22 info_u8 .i64 65536 (by omega) W⟩
              have HMC := Fact.mk hmc
              clear hmc
              go_wp2_with (go_at_call 36; fail)
              have hrl : ∃ big : List UInt8, big = List.replicate 65536 (0 : UInt8) ∧ big.length = 65536 := ⟨_, rfl, List.length_replicate ..⟩
              obtain ⟨big, hbg, hbl⟩ := hrl
              have hmc := HMC.out
              rw [← hbg] at hmc
              clear hbg HMC
              have hs1 : Sl rU8 (wr.alloc (.cells mk 5)) (fun k => k = wr.heap.size) (some ⟨wr.heap.size, 0, none⟩) 65536 65536 big := Sl.boxM wr _ hmc hbl (by omega)
              have hs2 : Sl (Rep.slice rU8) ((wr.alloc (.cells mk 5)).alloc (.cells #[.slice (some ⟨wr.heap.size, 0, none⟩) 65536 65536] 22)) (fun k => k < wr.heap.size + 2) (some ⟨wr.heap.size + 1, 0, none⟩) 1 1 [big] := by
                have h := Sl.box (wr.alloc (.cells mk 5)) 22 (cells := #[.slice (some ⟨wr.heap.size, 0, none⟩) 65536 65536]) (sl_cons (F := fun k => k < wr.heap.size + 1) ((hs1.move (Same.alloc (Same.refl _ _) (fun k hk => by simp; omega) _)).mono (fun k hk => by omega)) (Els.nil _ _ _)) (by simp)
                rw [size_alloc'] at h
                exact h.mono (fun k hk => by omega)
              refine (Pack_long _ _ _ 1 big hs2 (by omega)).mono ?_
              rintro e w9 ⟨rfl, q, hw⟩
              have HBE9 : Fact (Below w.heap.size w w9) := ⟨by rw [hw]; exact below_drewN' ((HBW.out.alloc HBW.out.size _).alloc (by have := HBW.out.size; simp; omega) _) q⟩
              clear hw hs1 hs2
              go_wp2_with fail
              go_ret
              exact ⟨rfl, HBE9.out⟩
end Go.Proofs.Ytjjcjdefenbnjaa.LawPacks
