/- The reader of packets, answers, headers: contracts over any world. -/
import Derived.Test.YtjjcjdefenbnjaaParcelB
import Derived.Laws.IdiomCopy
set_option linter.unusedVariables false
set_option linter.unusedSimpArgs false
namespace Go.Proofs.Ytjjcjdefenbnjaa.ParcelC
open Go.RowKit Go.Proofs.Ytjjcjdefenbnjaa.Lib Go.Proofs.Ytjjcjdefenbnjaa.Reg Go.Proofs.Ytjjcjdefenbnjaa.TlvA Go.Proofs.Ytjjcjdefenbnjaa.TlvC Go.Proofs.Ytjjcjdefenbnjaa.TlvF Go.Proofs.Ytjjcjdefenbnjaa.TlvI Go.Proofs.Ytjjcjdefenbnjaa.LawNums Go.Proofs.Ytjjcjdefenbnjaa.PlainP Go.Proofs.Ytjjcjdefenbnjaa.LawOne Go.Proofs.Ytjjcjdefenbnjaa.DenomA Go.Proofs.Ytjjcjdefenbnjaa.ParcelA Go.Proofs.Ytjjcjdefenbnjaa.ParcelB

/-- A reader at a block; what it reads lies ahead of that block. -/
def Rd (w : World) (pb : Nat) (s : St) : Prop :=
  pb < w.heap.size ∧ ∃ A c, w.cell? ⟨pb, 0, none⟩ = some (.slice A s.1.length c) ∧ w.cell? ⟨pb, 1, none⟩ = some (.int .i64 s.2) ∧ w.frozen? ⟨pb, 0, none⟩ = false ∧ w.frozen? ⟨pb, 1, none⟩ = false ∧ Sl fld w (fun k => k < pb) A s.1.length c s.1
theorem Rd.move {w w' : World} {pb : Nat} {s : St} (h : Rd w pb s) (hb : Below w.heap.size w w') : Rd w' pb s := by
  obtain ⟨h0, A, c, h1, h2, h3, h4, h5⟩ := h
  have hbl := hb.block pb h0
  exact ⟨Nat.lt_of_lt_of_le h0 hb.size, A, c, (cell_same hbl).trans h1, (cell_same hbl).trans h2, (frozen_same hbl).trans h3, (frozen_same hbl).trans h4, h5.move (Same.of_below hb (fun k hk => by omega))⟩
theorem ne01 {pb : Nat} : (⟨pb, 0, none⟩ : Addr) ≠ ⟨pb, 1, none⟩ := by intro e; injection e with _ e; cases e
theorem Rd.fault {w : World} {pb : Nat} {s : St} (h : Rd w pb s) (k : Int) : Rd (w.setCell ⟨pb, 1, none⟩ (.int .i64 k)) pb (s.1, k) := by
  obtain ⟨h0, A, c, h1, h2, h3, h4, h5⟩ := h
  refine ⟨by simp; exact h0, A, c, ?_, World.cell?_setCell_same _ _ _ h2, by simp [h3], by simp [h4], h5.move ?_⟩
  · rw [World.cell?_setCell_other _ _ _ _ ne01.symm]; exact h1
  · intro j hj
    rw [Below.heap_setCell _ _ _ _ (by show j ≠ pb; omega)]
theorem Rd.moveLe {w w' : World} {pb : Nat} {s : St} (h : Rd w pb s) (hb : Below (pb + 1) w w') : Rd w' pb s := by
  obtain ⟨h0, A, c, h1, h2, h3, h4, h5⟩ := h
  have hbl := hb.block pb (Nat.lt_succ_self _)
  exact ⟨Nat.lt_of_lt_of_le h0 hb.size, A, c, (cell_same hbl).trans h1, (cell_same hbl).trans h2, (frozen_same hbl).trans h3, (frozen_same hbl).trans h4, h5.move (Same.of_below hb (fun k hk => by omega))⟩
/-- Of what was there one block alone has turned. -/
def Only (pb : Nat) (w w' : World) : Prop := Below pb w w' ∧ ∀ k, k < w.heap.size → k ≠ pb → w'.heap[k]? = w.heap[k]?
theorem Only.refl (pb : Nat) (w : World) : Only pb w w := ⟨Below.refl _ _, fun _ _ _ => rfl⟩
theorem Only.set {w : World} {pb : Nat} (o : Nat) (v : Value) : Only pb w (w.setCell ⟨pb, o, none⟩ v) := ⟨(Below.refl _ _).setCell (p := ⟨pb, o, none⟩) (Nat.le_refl _) _, fun k _ hk => Below.heap_setCell _ _ _ _ hk⟩
theorem Only.trans {pb : Nat} {a b c : World} (h : Only pb a b) (k : Only pb b c) : Only pb a c := ⟨h.1.trans k.1, fun i hi hp => (k.2 i (Nat.lt_of_lt_of_le hi h.1.size) hp).trans (h.2 i hi hp)⟩
theorem below_set {w : World} {pb : Nat} (o : Nat) (v : Value) : Below pb w (w.setCell ⟨pb, o, none⟩ v) := (Below.refl _ _).setCell (p := ⟨pb, o, none⟩) (Nat.le_refl _) _
set_option maxHeartbeats 1000000 in
set_option maxRecDepth 100000 in
theorem RFail_calls (w : World) (pb : Nat) (s : St) (h : Rd w pb s) (k : Int) : Calls Try.prog 72 #[.pointer (some ⟨pb, 0, none⟩), .int .i64 k] w fun e w' => e = .returned (.tuple #[]) ∧ Fact (Rd w' pb (rFail s k)) ∧ Only pb w w' := by
  have H := Fact.mk h
  obtain ⟨fs, e⟩ := s
  obtain ⟨h0, A, c, h1, h2, h3, h4, h5⟩ := h
  simp only at h2
  clear h0 h1 h3 h5
  by_cases hz : e = 0
  · have HZ := Fact.mk hz
    subst hz
    go_enter Try.func72, Try.ntmps72
    go_wp2_with fail
    go_end0
    exact ⟨rfl, ⟨by unfold rFail; simpa using H.out.fault k⟩, Only.set _ _⟩
  · have k1 : (e == 0) = false := by simpa using hz
    have HZ := Fact.mk hz
    clear hz
    go_enter Try.func72, Try.ntmps72
    go_wp2_with fail
    go_end0
    exact ⟨rfl, ⟨by unfold rFail; simpa [HZ.out] using H.out⟩, Only.refl _ _⟩
set_option maxHeartbeats 1000000 in
set_option maxRecDepth 100000 in
theorem REnd_calls (w : World) (pb : Nat) (s : St) (h : Rd w pb s) : Calls Try.prog 74 #[.pointer (some ⟨pb, 0, none⟩)] w fun e w' => e = .returned (.int .i64 (rEnd s)) ∧ Only pb w w' := by
  have H := Fact.mk h
  obtain ⟨fs, e⟩ := s
  obtain ⟨h0, A, c, h1, h2, h3, h4, h5⟩ := h
  simp only at h1 h2
  clear h0 h3 h4 h5
  by_cases hz : fs = []
  · subst hz
    have HE : Fact (rEnd (([] : Fs), e) = e) := ⟨rfl⟩
    go_enter Try.func74, Try.ntmps74
    go_wp2_with fail
    go_ret
    exact ⟨by rw [HE.out]; rfl, Only.refl _ _⟩
  · have k1 : decide ((0 : Int) < (fs.length : Int)) = true := decide_eq_true (by have := List.length_pos_iff.2 hz; omega)
    have k1' : decide (0 < fs.length) = true := decide_eq_true (List.length_pos_iff.2 hz)
    have HE : Fact (rEnd (fs, e) = (rFail (fs, e) 8).2) := ⟨by unfold rEnd; rw [if_neg hz]⟩
    obtain ⟨n, hn⟩ : ∃ n, fs.length = n := ⟨_, rfl⟩
    rw [hn] at k1 k1' h1
    clear hz hn
    go_enter Try.func74, Try.ntmps74
    go_wp2_with (go_at_call 72; fail)
    refine (RFail_calls w pb (fs, e) H.out 8).mono ?_
    rintro e2 w1 ⟨rfl, hr, hb⟩
    obtain ⟨_, A1, c1, g1, g2, _, _, _⟩ := hr.out
    have HB := Fact.mk hb
    clear hr hb h1 h2 g1
    go_wp2_with fail
    go_ret
    exact ⟨by rw [HE.out]; rfl, HB.out⟩
set_option maxHeartbeats 1000000 in
set_option maxRecDepth 100000 in
theorem ROpen_calls (w : World) (F : Nat → Prop) (A : Option Addr) (n c : Nat) (l : List UInt8) (h : Sl rU8 w F A n c l) (hF : ∀ k, F k → k < w.heap.size) (hn : n ≤ 4294967296) :
    Calls Try.prog 70 #[.slice A n c] w fun e w' => ∃ pb, e = .returned (.pointer (some ⟨pb, 0, none⟩)) ∧ Fact (w.heap.size ≤ pb) ∧ Fact (Rd w' pb (parseG l (-1))) ∧ Below w.heap.size w w' := by
  have H := Fact.mk h
  have HF := Fact.mk hF
  have HN := Fact.mk hn
  clear h hF hn
  go_enter Try.func70, Try.ntmps70
  go_wp2_with (go_at_call 33; fail)
  refine (Parse_calls w F A n c l H.out HF.out HN.out).mono ?_
  rintro e w1 ⟨v, rfl, ho, hb⟩
  obtain ⟨A1, c1, rfl, hs⟩ := ho.out.sl
  have HS := Fact.mk hs
  have HB := Fact.mk hb
  obtain ⟨s, hs'⟩ : ∃ s, parseG l (-1) = s := ⟨_, rfl⟩
  rw [hs'] at HS ⊢
  obtain ⟨m, hm⟩ : ∃ m, s.1.length = m := ⟨_, rfl⟩
  rw [hm] at HS ⊢
  have HM := Fact.mk hm
  have HXX := Fact.mk hs'
  clear hs hb ho hs' hm
  go_wp2_with fail
  go_ret
  rw [HXX.out]
  refine ⟨w1.heap.size, rfl, ⟨HB.out.size⟩, ⟨by simp, A1, c1, ?_, ?_, ?_, ?_, ?_⟩, HB.out.alloc HB.out.size _⟩
  · rw [HM.out]; simp
  · simp
  · simp
  · simp
  · rw [HM.out]; exact HS.out.move (Same.of_below ((Below.refl _ _).alloc (Nat.le_refl _) _) (fun k hk => hk))
/-- The bytes of a reader's fields lie ahead of it. -/
def Got (w : World) (pb : Nat) (A : Option Addr) (c : Nat) (l : List UInt8) : Prop := Sl rU8 w (fun k => k < pb) A l.length c l
theorem Got.nil (w : World) (pb : Nat) : Got w pb none 0 [] := Sl.nil _ _ _ _ _ (by omega)
theorem Got.move {w w' : World} {pb : Nat} {A : Option Addr} {c : Nat} {l : List UInt8} (h : Got w pb A c l) (hb : Below pb w w') : Got w' pb A c l := Sl.move h (Same.of_below hb (fun k hk => hk))
set_option maxHeartbeats 2000000 in
set_option maxRecDepth 100000 in
theorem RBytes_calls (w : World) (pb : Nat) (s : St) (h : Rd w pb s) (ti : Int) (t : UInt8) (ht : ti = (t.toNat : Int)) : Calls Try.prog 73 #[.pointer (some ⟨pb, 0, none⟩), .int .u8 ti] w fun e w' => ∃ A c, e = .returned (.slice A (rB s t).1.length c) ∧ Fact (Got w' pb A c (rB s t).1) ∧ Fact (Rd w' pb (rB s t).2) ∧ Only pb w w' := by
  have H := Fact.mk h
  obtain ⟨fs, e⟩ := s
  obtain ⟨h0, A, c, h1, h2, h3, h4, h5⟩ := h
  simp only at h1 h2 h5
  have HP := Fact.mk h0
  clear h0
  by_cases hz : e = 0
  · subst hz
    rcases fs with _ | ⟨⟨u, v⟩, r⟩
    · have HR : Fact (rB (([] : Fs), 0) t = ([], ([], 0))) := ⟨rB_nil rfl t⟩
      rw [HR.out]
      clear h5 h3 h4
      go_enter Try.func73, Try.ntmps73
      go_wp2_with fail
      go_ret
      exact ⟨none, 0, rfl, ⟨Got.nil _ _⟩, H, Only.refl _ _⟩
    · obtain ⟨ad, cs, rfl, hf, hK, hcell⟩ := h5.at_ (i := 0) (x := (u, v)) rfl
      obtain ⟨cu, cv, rfl, hcu, Av, cap, hcv, hsv⟩ := hK
      have hcu' : cu = [vu8 u] := hcu
      subst hcu'
      subst hcv
      have d0 := hcell 0 _ rfl
      have d1 := hcell 1 _ rfl
      have e0 : ad.add (0 * fld.sz + 0) = ad := by rw [Nat.zero_mul]; exact add_zero' ad
      have e1 : ad.add (0 * fld.sz + 1) = ⟨ad.block, ad.off + 1, none⟩ := by rw [Nat.zero_mul]; exact add_pos' ad 1 (by omega)
      rw [e0] at d0
      rw [e1] at d1
      unfold vu8 at d0
      obtain ⟨m, hm⟩ : ∃ m, ((u, v) :: r).length = m := ⟨_, rfl⟩
      have hm' : m = r.length + 1 := by rw [← hm]; rfl
      have hml := Nat.le_trans h5.le h5.max_
      rw [hm] at h1 hml
      have k1 : ((m : Int) == 0) = false := by simp; omega
      have k2 : (0 : Int) < (m : Int) := by omega
      have k3 : 0 < m := by omega
      have HS := Fact.mk h5
      have HM := Fact.mk hm
      have HM' := Fact.mk hm'
      have HSV := Fact.mk hsv
      have HFA := Fact.mk hf
      clear h5 hcell hcu hsv e0 e1 hm hm' hf
      by_cases hu : u = t
      · have HR : Fact (rB ((u, v) :: r, 0) t = (v, (r, 0))) := ⟨by subst hu; exact rB_yes rfl rfl⟩
        have hut : ((u.toNat : Int) != ti) = false := by rw [ht, hu]; simp
        have hut2 : ((u.toNat : Int) == ti) = true := by rw [ht, hu]; simp
        rw [HR.out]
        obtain ⟨nv, hnv⟩ : ∃ n, v.length = n := ⟨_, rfl⟩
        rw [hnv] at d1 ⊢
        have HNV := Fact.mk hnv
        obtain ⟨i, hi, hsz⟩ : ∃ i, Try.prog.info? 47 = some i ∧ i.size = fld.sz := by
          cases hq : Try.prog.info? 47 with
          | none => have := info_fld; rw [hq] at this; cases this
          | some i => have := info_fld; rw [hq] at this; simp at this; exact ⟨i, rfl, this.2.1⟩
        obtain ⟨A2, hs1, hs2⟩ := slice_from (P := Try.prog) fld 45 47 Try.underlying45 hi hsz (some ad) m c .i64 1 (by omega) (by omega)
        simp only [Int.reduceToNat] at hs1
        have HS2 : Fact (Sl fld w (fun k => k < pb) A2 (m - 1) (c - 1) r) := ⟨by have := hs2 (by rw [← HM.out]; exact HS.out); exact this⟩
        clear hs2 hi hsz hu hnv
        go_enter Try.func73, Try.ntmps73
        go_wp2_with fail
        go_ret
        have hlt : ad.block < pb := HFA.out
        refine ⟨Av, cap, rfl, ⟨?_⟩, ⟨?_⟩, Only.set _ _⟩
        · exact Got.move (w := w) HSV.out (below_set _ _)
        · have hpb := HP.out
          refine ⟨by simp; exact hpb, A2, c - 1, ?_, ?_, by simp [h3], by simp [h4], ?_⟩
          · rw [show (r.length) = m - 1 by have := HM'.out; omega]; exact World.cell?_setCell_same _ _ _ h1
          · rw [World.cell?_setCell_other _ _ _ _ ne01]; exact h2
          · rw [show (r.length) = m - 1 by have := HM'.out; omega]
            exact HS2.out.move (Same.of_below (below_set _ _) (fun k hk => hk))
      · have HR : Fact (rB ((u, v) :: r, 0) t = ([], ((u, v) :: r, 0))) := ⟨rB_no rfl hu⟩
        have hne : (u.toNat : Int) ≠ ti := by rw [ht]; intro e; exact hu (UInt8.toNat_inj.1 (by omega))
        have hut : ((u.toNat : Int) != ti) = true := by simpa using hne
        have hut2 : ((u.toNat : Int) == ti) = false := by simpa using hne
        rw [HR.out]
        clear hu hne
        go_enter Try.func73, Try.ntmps73
        go_wp2_with fail
        go_ret
        exact ⟨none, 0, rfl, ⟨Got.nil _ _⟩, H, Only.refl _ _⟩
  · have HR : Fact (rB (fs, e) t = ([], (fs, e))) := ⟨rB_err hz t⟩
    have k1 : (e != 0) = true := by simpa using hz
    have k2 : (e == 0) = false := by simpa using hz
    rw [HR.out]
    clear h1 h3 h4 h5 hz
    go_enter Try.func73, Try.ntmps73
    go_wp2_with fail
    go_ret
    exact ⟨none, 0, rfl, ⟨Got.nil _ _⟩, H, Only.refl _ _⟩
set_option maxHeartbeats 1000000 in
set_option maxRecDepth 100000 in
theorem RNum_calls (w : World) (pb : Nat) (s : St) (h : Rd w pb s) (ti : Int) (t : UInt8) (ht : ti = (t.toNat : Int)) : Calls Try.prog 71 #[.pointer (some ⟨pb, 0, none⟩), .int .u8 ti] w fun e w' => e = .returned (.int .u64 ((rN s t).1 : Int)) ∧ Fact (Rd w' pb (rN s t).2) ∧ Only pb w w' := by
  have H := Fact.mk h
  have HT := Fact.mk ht
  clear h ht
  go_enter Try.func71, Try.ntmps71
  go_wp2_with (go_at_call 73; fail)
  refine (RBytes_calls w pb s H.out ti t HT.out).mono ?_
  rintro e w1 ⟨A, c, rfl, hg, hr, hb⟩
  obtain ⟨x, hx⟩ : ∃ x, rB s t = x := ⟨_, rfl⟩
  have HXX := Fact.mk hx
  rw [hx] at hg hr ⊢
  clear hx
  obtain ⟨v, fs, e⟩ := x
  have HG := Fact.mk hg.out
  have HR := Fact.mk hr.out
  have HB := Fact.mk hb
  obtain ⟨_, A1, c1, _, h2, _, f1, _⟩ := hr.out
  simp only at h2
  clear hg hr hb
  simp only
  go_wp2_with (go_at_call 23; fail)
  refine (Value_calls w1 _ A _ c v HG.out).mono ?_
  rintro e2 w2 ⟨rfl, rfl⟩
  by_cases hz : e = 0
  · subst hz
    go_wp2_with fail
    go_ret
    unfold rN
    rw [HXX.out]
    simp only [if_true]
    exact ⟨rfl, ⟨by simpa using HR.out.fault (errN v)⟩, HB.out.trans (Only.set _ _)⟩
  · have k2 : (e == 0) = false := by simpa using hz
    have HZ := Fact.mk hz
    clear hz
    go_wp2_with fail
    go_ret
    unfold rN
    rw [HXX.out]
    simp only
    rw [if_neg HZ.out]
    exact ⟨rfl, HR, HB.out⟩
end Go.Proofs.Ytjjcjdefenbnjaa.ParcelC
