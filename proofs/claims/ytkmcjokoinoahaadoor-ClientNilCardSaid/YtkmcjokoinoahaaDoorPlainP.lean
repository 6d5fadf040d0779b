/- Packets, answers, headers as bytes and back: the plain laws; no program in sight. -/
import Derived.Test.YtkmcjokoinoahaaDoorLawNums
import Derived.Test.YtkmcjokoinoahaaDoorLawOne
set_option linter.unusedVariables false
set_option linter.unusedSimpArgs false
namespace Go.Proofs.YtkmcjokoinoahaaDoor.PlainP
open Go.Proofs.YtkmcjokoinoahaaDoor.Lib Go.Proofs.YtkmcjokoinoahaaDoor.TlvA Go.Proofs.YtkmcjokoinoahaaDoor.TlvB Go.Proofs.YtkmcjokoinoahaaDoor.TlvC Go.Proofs.YtkmcjokoinoahaaDoor.TlvF Go.Proofs.YtkmcjokoinoahaaDoor.TlvG Go.Proofs.YtkmcjokoinoahaaDoor.TlvI Go.Proofs.YtkmcjokoinoahaaDoor.PlainT Go.Proofs.YtkmcjokoinoahaaDoor.LawNums Go.Proofs.YtkmcjokoinoahaaDoor.LawOne

abbrev Fs := List (UInt8 × List UInt8)
/-- A field, if it has bytes. -/
def opt (t : UInt8) (v : List UInt8) (rest : Fs) : Fs := if v = [] then rest else (t, v) :: rest
theorem opt_nil (t : UInt8) (rest : Fs) : opt t [] rest = rest := by unfold opt; rw [if_pos rfl]
theorem puts_app (a b : Fs) : puts (a ++ b) = puts a ++ puts b := by unfold puts; rw [List.flatMap_append]
theorem put_opt (fs : Fs) (t : UInt8) (v : List UInt8) (hv : v.length ≤ 65535) : putL (puts fs) t v = puts (fs ++ opt t v []) := by
  unfold opt
  by_cases h : v = []
  · rw [if_pos h, h, putL_nil, List.append_nil]
  · rw [if_neg h, putL_some (by omega) h, puts_app]; simp [puts]
theorem opt_app (t : UInt8) (v : List UInt8) (a b : Fs) : opt t v a ++ b = opt t v (a ++ b) := by unfold opt; split <;> simp

abbrev St := Fs × Int
def rB (s : St) (t : UInt8) : List UInt8 × St :=
  if s.2 = 0 then (match s.1 with | (u, v) :: r => if u = t then (v, (r, s.2)) else ([], s) | [] => ([], s)) else ([], s)
theorem rB_err {s : St} (h : s.2 ≠ 0) (t : UInt8) : rB s t = ([], s) := by unfold rB; rw [if_neg h]
theorem rB_nil {s : St} (h : s.1 = []) (t : UInt8) : rB s t = ([], s) := by unfold rB; rw [h]; split <;> rfl
theorem rB_no {s : St} {u t : UInt8} {v : List UInt8} {r : Fs} (h : s.1 = (u, v) :: r) (hu : u ≠ t) : rB s t = ([], s) := by unfold rB; rw [h]; split <;> simp [hu]
theorem rB_yes {s : St} {t : UInt8} {v : List UInt8} {r : Fs} (h0 : s.2 = 0) (h : s.1 = (t, v) :: r) : rB s t = (v, (r, s.2)) := by unfold rB; rw [if_pos h0, h]; simp
theorem rB_e (s : St) (t : UInt8) : (rB s t).2.2 = s.2 := by
  unfold rB
  split
  · split
    · split <;> rfl
    · rfl
  · rfl
theorem rB_len (s : St) (t : UInt8) : (rB s t).2.1.length ≤ s.1.length := by
  unfold rB
  split
  · split
    · rename_i h; split
      · rw [h]; simp
      · exact Nat.le_refl _
    · exact Nat.le_refl _
  · exact Nat.le_refl _
theorem rB_mem {s : St} {t : UInt8} {f : UInt8 × List UInt8} (h : f ∈ (rB s t).2.1) : f ∈ s.1 := by
  unfold rB at h
  split at h
  · split at h
    · rename_i hs; split at h
      · rw [hs]; exact List.mem_cons_of_mem _ h
      · exact h
    · exact h
  · exact h
def rFail (s : St) (k : Int) : St := (s.1, if s.2 = 0 then k else s.2)
def rN (s : St) (t : UInt8) : Nat × St := (valN (rB s t).1, ((rB s t).2.1, if (rB s t).2.2 = 0 then errN (rB s t).1 else (rB s t).2.2))
def Z32 : List UInt8 := List.replicate 32 0
def rH (s : St) (t : UInt8) : List UInt8 × St :=
  if (rB s t).1 = [] then (Z32, (rB s t).2) else if (rB s t).1.length ≠ 32 ∨ (rB s t).1 = Z32 then (Z32, rFail (rB s t).2 7) else ((rB s t).1, (rB s t).2)
def rEnd (s : St) : Int := if s.1 = [] then s.2 else (rFail s 8).2
/-- What a sum's field holds. -/
def hashF (h : List UInt8) : List UInt8 := if h = Z32 then [] else h

/-- Fields behind a tag. -/
def Up (t : Nat) (fs : Fs) : Prop := (∀ f ∈ fs, t < f.1.toNat) ∧ (∀ f ∈ fs, f.2 ≠ [] ∧ f.2.length ≤ 65535) ∧ fs.Pairwise fun f g => f.1.toNat < g.1.toNat
theorem Up.nil (t : Nat) : Up t [] := ⟨by simp, by simp, List.Pairwise.nil⟩
theorem Up.opt {t : UInt8} {fs : Fs} {v : List UInt8} (h : Up t.toNat fs) (hv : v.length ≤ 65535) {k : Nat} (hk : k < t.toNat) : Up k (opt t v fs) := by
  unfold PlainP.opt
  split
  · exact ⟨fun f hf => Nat.lt_trans hk (h.1 f hf), h.2.1, h.2.2⟩
  · rename_i h0
    refine ⟨fun f hf => ?_, fun f hf => ?_, ?_⟩
    · rcases List.mem_cons.1 hf with rfl | hf
      · exact hk
      · exact Nat.lt_trans hk (h.1 f hf)
    · rcases List.mem_cons.1 hf with rfl | hf
      · exact ⟨h0, hv⟩
      · exact h.2.1 f hf
    · exact List.pairwise_cons.2 ⟨fun g hg => h.1 g hg, h.2.2⟩
theorem Up.parse {fs : Fs} (h : Up 0 fs) : parseG (puts fs) (-1) = (fs, 0) := parse_puts fs (-1) h.2.1 h.2.2 (fun f _ => by omega)

theorem rB_opt {t : UInt8} {v : List UInt8} {fs : Fs} (h : Up t.toNat fs) : rB (opt t v fs, 0) t = (v, (fs, 0)) := by
  unfold opt
  by_cases hv : v = []
  · rw [if_pos hv, hv]
    match fs, h with
    | [], h => exact rB_nil rfl t
    | (u, x) :: r, h =>
      refine rB_no rfl (fun e => ?_)
      have := h.1 (u, x) List.mem_cons_self
      rw [e] at this
      exact Nat.lt_irrefl _ this
  · rw [if_neg hv]; exact rB_yes rfl rfl
theorem rN_opt {t : UInt8} {n : Nat} {fs : Fs} (h : Up t.toNat fs) (hn : n < 18446744073709551616) : rN (opt t (numL n) fs, 0) t = (n, (fs, 0)) := by
  unfold rN
  rw [rB_opt h]
  simp only
  rw [valN_num n hn, errN_num, if_pos trivial]
theorem rH_opt {t : UInt8} {x : List UInt8} {fs : Fs} (h : Up t.toNat fs) (hx : x.length = 32) : rH (opt t (hashF x) fs, 0) t = (x, (fs, 0)) := by
  unfold rH
  rw [rB_opt h]
  simp only
  unfold hashF
  by_cases hz : x = Z32
  · rw [if_pos hz, if_pos rfl, hz]
  · rw [if_neg hz, if_neg (by intro e; rw [e] at hx; cases hx), if_neg (by simp [hx, hz])]
/-- Fields with bytes. -/
def Full (fs : Fs) : Prop := ∀ f ∈ fs, f.2 ≠ [] ∧ f.2.length ≤ 65535
theorem rB_inv {s : St} {t : UInt8} (hf : Full s.1) (h0 : s.2 = 0) : s.1 = opt t (rB s t).1 (rB s t).2.1 ∧ (rB s t).2.2 = 0 ∧ Full (rB s t).2.1 ∧ (rB s t).1.length ≤ 65535 := by
  obtain ⟨fs, e⟩ := s
  simp only at h0 hf ⊢
  match fs, hf with
  | [], hf => rw [rB_nil rfl]; exact ⟨(opt_nil _ _).symm, h0, hf, by simp⟩
  | (u, v) :: r, hf =>
    by_cases hu : u = t
    · subst hu
      rw [rB_yes h0 rfl]
      have := hf (u, v) List.mem_cons_self
      exact ⟨by unfold opt; rw [if_neg this.1], h0, fun f hm => hf f (List.mem_cons_of_mem _ hm), this.2⟩
    · rw [rB_no rfl hu]
      exact ⟨(opt_nil _ _).symm, h0, hf, by simp⟩
theorem errN_ok {v : List UInt8} (h : errN v = 0) : okN v = true := by
  unfold errN at h
  by_cases hk : okN v = true
  · exact hk
  · rw [if_neg hk] at h; cases h
theorem rN_inv {s : St} {t : UInt8} (hf : Full s.1) (h : (rN s t).2.2 = 0) : s.2 = 0 ∧ s.1 = opt t (numL (rN s t).1) (rN s t).2.1 ∧ Full (rN s t).2.1 ∧ (rN s t).1 < 18446744073709551616 := by
  unfold rN at h ⊢
  simp only at h ⊢
  rw [rB_e] at h
  by_cases h0 : s.2 = 0
  · rw [if_pos h0] at h
    obtain ⟨i1, i2, i3, i4⟩ := rB_inv (t := t) hf h0
    refine ⟨h0, ?_, i3, valN_lt _⟩
    rw [num_valN (errN_ok h)]
    exact i1
  · rw [if_neg h0] at h; exact absurd h h0
theorem Z32_len : Z32.length = 32 := by simp [Z32]
theorem rFail_ne {s : St} {k : Int} (hk : k ≠ 0) : (rFail s k).2 ≠ 0 := by
  unfold rFail
  simp only
  split
  · exact hk
  · assumption
theorem rH_inv {s : St} {t : UInt8} (hf : Full s.1) (h : (rH s t).2.2 = 0) : s.2 = 0 ∧ s.1 = opt t (hashF (rH s t).1) (rH s t).2.1 ∧ Full (rH s t).2.1 ∧ (rH s t).1.length = 32 := by
  unfold rH at h ⊢
  by_cases hv : (rB s t).1 = []
  · rw [if_pos hv] at h ⊢
    simp only at h ⊢
    rw [rB_e] at h
    obtain ⟨i1, i2, i3, i4⟩ := rB_inv (t := t) hf h
    refine ⟨h, ?_, i3, Z32_len⟩
    unfold hashF
    rw [if_pos rfl, ← hv]
    exact i1
  · rw [if_neg hv] at h ⊢
    by_cases hb : (rB s t).1.length ≠ 32 ∨ (rB s t).1 = Z32
    · rw [if_pos hb] at h; exact absurd h (rFail_ne (by decide))
    · rw [if_neg hb] at h ⊢
      simp only at h ⊢
      rw [rB_e] at h
      obtain ⟨i1, i2, i3, i4⟩ := rB_inv (t := t) hf h
      rw [not_or] at hb
      refine ⟨h, ?_, i3, by omega⟩
      unfold hashF
      rw [if_neg hb.2]
      exact i1
theorem rEnd_zero {s : St} (h : rEnd s = 0) : s.1 = [] ∧ s.2 = 0 := by
  unfold rEnd at h
  by_cases h1 : s.1 = []
  · rw [if_pos h1] at h; exact ⟨h1, h⟩
  · rw [if_neg h1] at h; exact absurd h (rFail_ne (by decide))
theorem rEnd_nil : rEnd (([] : Fs), 0) = 0 := rfl
theorem rEnd_more (f : UInt8 × List UInt8) (r : Fs) : rEnd (f :: r, 0) = 8 := rfl

/-- A packet. -/
structure Pk where
  ch : Nat
  seq : Nat
  tmo : Nat
  den : List UInt8
  amt : Nat
  frm : List UInt8
  to : List UInt8
def Pk.zero : Pk := ⟨0, 0, 0, [], 0, [], []⟩
structure Pk.ok (p : Pk) : Prop where
  ch : p.ch < 4
  seq : p.seq < 18446744073709551616
  tmo : p.tmo < 18446744073709551616
  amt : p.amt < 18446744073709551616
  den : p.den.length ≤ 65535
  frm : p.frm.length ≤ 65535
  to : p.to.length ≤ 65535
def pkL (p : Pk) : List UInt8 := putL (putL (putL (putL (putL (putL (putL [] 1 (numL p.ch)) 2 (numL p.seq)) 3 (numL p.tmo)) 4 p.den) 5 (numL p.amt)) 6 p.frm) 7 p.to
def pkFs (p : Pk) (r : Fs) : Fs := opt 1 (numL p.ch) (opt 2 (numL p.seq) (opt 3 (numL p.tmo) (opt 4 p.den (opt 5 (numL p.amt) (opt 6 p.frm (opt 7 p.to r))))))
theorem num_short (n : Nat) : (numL n).length ≤ 65535 := Nat.le_trans (num_len n) (by decide)
theorem puts_nil : puts [] = [] := rfl
theorem pkL_eq {p : Pk} (h : p.ok) : pkL p = puts (pkFs p []) := by
  unfold pkL pkFs
  rw [← puts_nil, put_opt _ _ _ (num_short _), put_opt _ _ _ (num_short _), put_opt _ _ _ (num_short _), put_opt _ _ _ h.den, put_opt _ _ _ (num_short _), put_opt _ _ _ h.frm, put_opt _ _ _ h.to]
  simp only [opt_app, List.nil_append, List.append_assoc]
theorem pkFs_app (p : Pk) (r : Fs) : pkFs p [] ++ r = pkFs p r := by unfold pkFs; simp only [opt_app, List.nil_append]
theorem pkFs_up {p : Pk} (h : p.ok) {r : Fs} (hr : Up 7 r) : Up 0 (pkFs p r) := by
  unfold pkFs
  exact Up.opt (t := 1) (Up.opt (t := 2) (Up.opt (t := 3) (Up.opt (t := 4) (Up.opt (t := 5) (Up.opt (t := 6) (Up.opt (t := 7) hr h.to (k := 6) (by decide)) h.frm (k := 5) (by decide)) (num_short _) (k := 4) (by decide)) h.den (k := 3) (by decide)) (num_short _) (k := 2) (by decide)) (num_short _) (k := 1) (by decide)) (num_short _) (k := 0) (by decide)
def rdPk (s : St) : Pk × St :=
  let a := rN s 1
  let s1 := if 4 ≤ a.1 then rFail a.2 2 else a.2
  let b := rN s1 2
  let c := rN b.2 3
  let d := rB c.2 4
  let e := rN d.2 5
  let f := rB e.2 6
  let g := rB f.2 7
  (⟨a.1 % 4, b.1, c.1, d.1, e.1, f.1, g.1⟩, g.2)
def readPk (l : List UInt8) : Pk × Int := if rEnd (rdPk (parseG l (-1))).2 = 0 then ((rdPk (parseG l (-1))).1, 0) else (Pk.zero, rEnd (rdPk (parseG l (-1))).2)
theorem rdPk_fs {p : Pk} (h : p.ok) {r : Fs} (hr : Up 7 r) : rdPk (pkFs p r, 0) = (p, (r, 0)) := by
  have u6 : Up 6 (opt 7 p.to r) := Up.opt (t := 7) hr h.to (by decide)
  have u5 : Up 5 (opt 6 p.frm (opt 7 p.to r)) := Up.opt (t := 6) u6 h.frm (by decide)
  have u4 : Up 4 (opt 5 (numL p.amt) (opt 6 p.frm (opt 7 p.to r))) := Up.opt (t := 5) u5 (num_short _) (by decide)
  have u3 : Up 3 (opt 4 p.den (opt 5 (numL p.amt) (opt 6 p.frm (opt 7 p.to r)))) := Up.opt (t := 4) u4 h.den (by decide)
  have u2 : Up 2 (opt 3 (numL p.tmo) (opt 4 p.den (opt 5 (numL p.amt) (opt 6 p.frm (opt 7 p.to r))))) := Up.opt (t := 3) u3 (num_short _) (by decide)
  have u1 : Up 1 (opt 2 (numL p.seq) (opt 3 (numL p.tmo) (opt 4 p.den (opt 5 (numL p.amt) (opt 6 p.frm (opt 7 p.to r)))))) := Up.opt (t := 2) u2 (num_short _) (by decide)
  unfold rdPk pkFs
  have hch := h.ch
  simp only [rN_opt (t := 1) u1 (show p.ch < 18446744073709551616 by omega), rN_opt (t := 2) u2 h.seq, rN_opt (t := 3) u3 h.tmo, rB_opt (t := 4) u4, rN_opt (t := 5) u5 h.amt, rB_opt (t := 6) u6, rB_opt (t := 7) hr, if_neg (show ¬ 4 ≤ p.ch by omega)]
  rw [Nat.mod_eq_of_lt hch]
theorem back_pk {p : Pk} (h : p.ok) : readPk (pkL p) = (p, 0) := by
  unfold readPk
  rw [pkL_eq h, (pkFs_up h (Up.nil 7)).parse, rdPk_fs h (Up.nil 7), if_pos rEnd_nil]
theorem nine_up (k : Nat) (hk : k < 9) : Up k [(9, [1])] := ⟨by simp; exact hk, by simp, by simp⟩
theorem more_pk {p : Pk} (h : p.ok) : (readPk (putL (pkL p) 9 [1])).2 = 8 := by
  unfold readPk
  rw [pkL_eq h, put_opt _ _ _ (by decide), show opt 9 [1] [] = [((9 : UInt8), [(1 : UInt8)])] from rfl, pkFs_app, (pkFs_up h (nine_up 7 (by decide))).parse, rdPk_fs h (nine_up 7 (by decide)), rEnd_more, if_neg (by decide)]
theorem parse_full {l : List UInt8} : Full (parseG l (-1)).1 := by
  by_cases h : (parseG l (-1)).2 = 0
  · exact (parse_one l (-1) h).2
  · rw [parseG_err _ _ h]; intro f hf; cases hf
theorem one_pk {l : List UInt8} (h : (readPk l).2 = 0) : (readPk l).1.ok ∧ pkL (readPk l).1 = l := by
  unfold readPk at h ⊢
  by_cases hz : rEnd (rdPk (parseG l (-1))).2 = 0
  · rw [if_pos hz]
    clear h
    have hz := rEnd_zero hz
    have hfull := parse_full (l := l)
    have hone := fun h => (parse_one l (-1) h).1
    generalize parseG l (-1) = s at *
    unfold rdPk at hz ⊢
    simp only at hz ⊢
    generalize ha : rN s 1 = a at *
    generalize hs1 : (if 4 ≤ a.1 then rFail a.2 2 else a.2) = s1 at *
    generalize hb : rN s1 2 = b at *
    generalize hc : rN b.2 3 = c at *
    generalize hd : rB c.2 4 = d at *
    generalize he : rN d.2 5 = e at *
    generalize hf : rB e.2 6 = f at *
    generalize hg : rB f.2 7 = g at *
    have e7 : f.2.2 = 0 := by rw [← hg, rB_e] at hz; exact hz.2
    have e6 : e.2.2 = 0 := by rw [← hf, rB_e] at e7; exact e7
    have s1f : Full s1.1 → True := fun _ => trivial
    -- the state behind the first number
    have hs1e : s1.2 = 0 → a.1 < 4 ∧ s1 = a.2 := by
      intro h
      by_cases h4 : 4 ≤ a.1
      · rw [if_pos h4] at hs1; rw [← hs1] at h; exact absurd h (rFail_ne (by decide))
      · rw [if_neg h4] at hs1; exact ⟨by omega, hs1.symm⟩
    have hs1f : s1.1 = a.2.1 := by rw [← hs1]; split <;> rfl
    have fa : Full a.2.1 := by rw [← ha]; unfold rN; exact fun x hx => hfull x (rB_mem hx)
    have fb : Full b.2.1 := by rw [← hb]; unfold rN; exact fun x hx => fa x (by rw [← hs1f]; exact rB_mem hx)
    have fc : Full c.2.1 := by rw [← hc]; unfold rN; exact fun x hx => fb x (rB_mem hx)
    have fd : Full d.2.1 := by rw [← hd]; exact fun x hx => fc x (rB_mem hx)
    have k5 := rN_inv (s := d.2) (t := 5) fd (by rw [he]; exact e6)
    rw [he] at k5
    have e3 : c.2.2 = 0 := by have := k5.1; rw [← hd, rB_e] at this; exact this
    have k3 := rN_inv (s := b.2) (t := 3) fb (by rw [hc]; exact e3)
    rw [hc] at k3
    have k2 := rN_inv (s := s1) (t := 2) (by rw [hs1f]; exact fa) (by rw [hb]; exact k3.1)
    rw [hb] at k2
    obtain ⟨h4, hsa⟩ := hs1e k2.1
    have k1 := rN_inv (s := s) (t := 1) hfull (by rw [ha, ← hsa]; exact k2.1)
    rw [ha] at k1
    have k4 := rB_inv (s := c.2) (t := 4) fc e3
    rw [hd] at k4
    have k6 := rB_inv (s := e.2) (t := 6) k5.2.2.1 e6
    rw [hf] at k6
    have k7 := rB_inv (s := f.2) (t := 7) k6.2.2.1 e7
    rw [hg] at k7
    have hok : Pk.ok ⟨a.1 % 4, b.1, c.1, d.1, e.1, f.1, g.1⟩ := ⟨by simp only; omega, k2.2.2.2, k3.2.2.2, k5.2.2.2, k4.2.2.2, k6.2.2.2, k7.2.2.2⟩
    refine ⟨hok, ?_⟩
    rw [pkL_eq hok, ← hone k1.1]
    congr 1
    unfold pkFs
    simp only
    rw [Nat.mod_eq_of_lt h4, k1.2.1, ← hsa, k2.2.1, k3.2.1, k4.1, k5.2.1, k6.1, k7.1, hz.1]
  · rw [if_neg hz] at h; exact absurd h hz

/-- An answer. -/
def ackL (y : Bool) (c : Nat) : List UInt8 := putL (if y then putL [] 1 (numL 1) else []) 2 (numL c)
def ackFs (a c : Nat) (r : Fs) : Fs := opt 1 (numL a) (opt 2 (numL c) r)
def yesN (y : Bool) : Nat := if y then 1 else 0
theorem num0 : numL 0 = [] := by decide
theorem ackL_eq (y : Bool) (c : Nat) : ackL y c = puts (ackFs (yesN y) c []) := by
  unfold ackL ackFs
  cases y
  · show putL [] 2 (numL c) = puts (opt 1 (numL 0) _)
    rw [num0, opt_nil, ← puts_nil, put_opt _ _ _ (num_short _), List.nil_append]
  · show putL (putL [] 1 (numL 1)) 2 (numL c) = puts (opt 1 (numL 1) _)
    rw [← puts_nil, put_opt _ _ _ (num_short _), put_opt _ _ _ (num_short _)]
    simp only [opt_app, List.nil_append]
def rdAck (s : St) : Nat × Nat × St :=
  let a := rN s 1
  let b := rN a.2 2
  (a.1, b.1, if 1 < a.1 ∨ 2147483648 < b.1 ∨ (a.1 = 1 ↔ b.1 ≠ 0) then rFail b.2 2 else b.2)
def readAck (l : List UInt8) : Bool × Nat × Int :=
  let x := rdAck (parseG l (-1))
  if rEnd x.2.2 = 0 then (x.1 == 1, x.2.1, 0) else (false, 0, rEnd x.2.2)
theorem back_ack {y : Bool} {c : Nat} (hc : c ≤ 2147483648) (hy : y = true ↔ c = 0) : readAck (ackL y c) = (y, c, 0) := by
  have u1 : Up 1 (opt 2 (numL c) []) := Up.opt (t := 2) (Up.nil 2) (num_short _) (by decide)
  have u0 : Up 0 (ackFs (yesN y) c []) := Up.opt (t := 1) u1 (num_short _) (by decide)
  have hy1 : yesN y < 18446744073709551616 := by cases y <;> simp [yesN]
  unfold readAck
  rw [ackL_eq, u0.parse]
  have : rdAck (ackFs (yesN y) c [], 0) = (yesN y, c, ([], 0)) := by
    unfold rdAck ackFs
    simp only [rN_opt (t := 1) u1 hy1, rN_opt (t := 2) (Up.nil 2) (show c < 18446744073709551616 by omega)]
    rw [if_neg]
    cases y
    · have h0 : c ≠ 0 := fun h => by have := hy.2 h; cases this
      simp [yesN]; omega
    · have h0 : c = 0 := hy.1 rfl
      simp [yesN, h0]
  rw [this]
  simp only [rEnd_nil, if_true]
  cases y <;> rfl
theorem one_ack {l : List UInt8} (h : (readAck l).2.2 = 0) : (readAck l).2.1 ≤ 2147483648 ∧ ((readAck l).1 = true ↔ (readAck l).2.1 = 0) ∧ ackL (readAck l).1 (readAck l).2.1 = l := by
  unfold readAck at h ⊢
  simp only at h ⊢
  by_cases hz : rEnd (rdAck (parseG l (-1))).2.2 = 0
  · rw [if_pos hz]
    clear h
    have hz := rEnd_zero hz
    have hfull := parse_full (l := l)
    have hone := fun h => (parse_one l (-1) h).1
    generalize parseG l (-1) = s at *
    unfold rdAck at hz ⊢
    simp only at hz ⊢
    generalize ha : rN s 1 = a at *
    generalize hb : rN a.2 2 = b at *
    by_cases hbad : 1 < a.1 ∨ 2147483648 < b.1 ∨ (a.1 = 1 ↔ b.1 ≠ 0)
    · rw [if_pos hbad] at hz; exact absurd hz.2 (rFail_ne (by decide))
    rw [if_neg hbad] at hz
    have fa : Full a.2.1 := by rw [← ha]; unfold rN; exact fun x hx => hfull x (rB_mem hx)
    have k2 := rN_inv (s := a.2) (t := 2) fa (by rw [hb]; exact hz.2)
    rw [hb] at k2
    have k1 := rN_inv (s := s) (t := 1) hfull (by rw [ha]; exact k2.1)
    rw [ha] at k1
    have h1 : a.1 ≤ 1 := by omega
    have h2 : b.1 ≤ 2147483648 := by omega
    refine ⟨h2, ?_, ?_⟩
    · rw [beq_iff_eq]
      by_cases h3 : a.1 = 1
      · by_cases h4 : b.1 = 0
        · simp [h3, h4]
        · exact absurd (.inr (.inr (by simp [h3, h4]))) hbad
      · by_cases h4 : b.1 = 0
        · exact absurd (.inr (.inr (by simp [h3, h4]))) hbad
        · simp [h3, h4]
    · rw [ackL_eq, ← hone k1.1]
      congr 1
      unfold ackFs
      have : yesN (a.1 == 1) = a.1 := by
        have : a.1 = 0 ∨ a.1 = 1 := by omega
        rcases this with h | h <;> rw [h] <;> rfl
      rw [this, k1.2.1, k2.2.1, hz.1]
  · rw [if_neg hz] at h; exact absurd h hz

/-- A header. -/
structure Hd where
  ht : Nat
  tm : Nat
  root : List UInt8
  vals : List UInt8
  next : List UInt8
  sel : List UInt8
def Hd.zero : Hd := ⟨0, 0, Z32, Z32, Z32, Z32⟩
structure Hd.ok (h : Hd) : Prop where
  ht : h.ht < 18446744073709551616
  tm : h.tm < 18446744073709551616
  root : h.root.length = 32
  vals : h.vals.length = 32
  next : h.next.length = 32
  sel : h.sel.length = 32
def putH (l : List UInt8) (t : UInt8) (x : List UInt8) : List UInt8 := if x = Z32 then l else putL l t x
theorem putH_eq (l : List UInt8) (t : UInt8) (x : List UInt8) : putH l t x = putL l t (hashF x) := by
  unfold putH hashF
  split
  · rw [putL_nil]
  · rfl
def hdL (h : Hd) : List UInt8 := putH (putH (putH (putH (putL (putL [] 1 (numL h.ht)) 2 (numL h.tm)) 3 h.root) 4 h.vals) 5 h.next) 6 h.sel
def hdFs (h : Hd) (r : Fs) : Fs := opt 1 (numL h.ht) (opt 2 (numL h.tm) (opt 3 (hashF h.root) (opt 4 (hashF h.vals) (opt 5 (hashF h.next) (opt 6 (hashF h.sel) r)))))
theorem hashF_short {x : List UInt8} (h : x.length = 32) : (hashF x).length ≤ 65535 := by
  unfold hashF
  split
  · simp
  · omega
theorem hdL_eq {h : Hd} (k : h.ok) : hdL h = puts (hdFs h []) := by
  unfold hdL hdFs
  rw [putH_eq, putH_eq, putH_eq, putH_eq, ← puts_nil, put_opt _ _ _ (num_short _), put_opt _ _ _ (num_short _), put_opt _ _ _ (hashF_short k.root), put_opt _ _ _ (hashF_short k.vals), put_opt _ _ _ (hashF_short k.next), put_opt _ _ _ (hashF_short k.sel)]
  simp only [opt_app, List.nil_append, List.append_assoc]
theorem hdFs_app (h : Hd) (r : Fs) : hdFs h [] ++ r = hdFs h r := by unfold hdFs; simp only [opt_app, List.nil_append]
theorem hdFs_up {h : Hd} (k : h.ok) {r : Fs} (hr : Up 6 r) : Up 0 (hdFs h r) := by
  unfold hdFs
  exact Up.opt (t := 1) (Up.opt (t := 2) (Up.opt (t := 3) (Up.opt (t := 4) (Up.opt (t := 5) (Up.opt (t := 6) hr (hashF_short k.sel) (k := 5) (by decide)) (hashF_short k.next) (k := 4) (by decide)) (hashF_short k.vals) (k := 3) (by decide)) (hashF_short k.root) (k := 2) (by decide)) (num_short _) (k := 1) (by decide)) (num_short _) (k := 0) (by decide)
def rdHd (s : St) : Hd × St :=
  let a := rN s 1
  let b := rN a.2 2
  let c := rH b.2 3
  let d := rH c.2 4
  let e := rH d.2 5
  let f := rH e.2 6
  (⟨a.1, b.1, c.1, d.1, e.1, f.1⟩, f.2)
def readHd (l : List UInt8) : Hd × Int := if rEnd (rdHd (parseG l (-1))).2 = 0 then ((rdHd (parseG l (-1))).1, 0) else (Hd.zero, rEnd (rdHd (parseG l (-1))).2)
theorem rdHd_fs {h : Hd} (k : h.ok) {r : Fs} (hr : Up 6 r) : rdHd (hdFs h r, 0) = (h, (r, 0)) := by
  have u5 : Up 5 (opt 6 (hashF h.sel) r) := Up.opt (t := 6) hr (hashF_short k.sel) (by decide)
  have u4 : Up 4 (opt 5 (hashF h.next) (opt 6 (hashF h.sel) r)) := Up.opt (t := 5) u5 (hashF_short k.next) (by decide)
  have u3 : Up 3 (opt 4 (hashF h.vals) (opt 5 (hashF h.next) (opt 6 (hashF h.sel) r))) := Up.opt (t := 4) u4 (hashF_short k.vals) (by decide)
  have u2 : Up 2 (opt 3 (hashF h.root) (opt 4 (hashF h.vals) (opt 5 (hashF h.next) (opt 6 (hashF h.sel) r)))) := Up.opt (t := 3) u3 (hashF_short k.root) (by decide)
  have u1 : Up 1 (opt 2 (numL h.tm) (opt 3 (hashF h.root) (opt 4 (hashF h.vals) (opt 5 (hashF h.next) (opt 6 (hashF h.sel) r))))) := Up.opt (t := 2) u2 (num_short _) (by decide)
  unfold rdHd hdFs
  simp only [rN_opt (t := 1) u1 k.ht, rN_opt (t := 2) u2 k.tm, rH_opt (t := 3) u3 k.root, rH_opt (t := 4) u4 k.vals, rH_opt (t := 5) u5 k.next, rH_opt (t := 6) hr k.sel]
theorem back_hd {h : Hd} (k : h.ok) : readHd (hdL h) = (h, 0) := by
  unfold readHd
  rw [hdL_eq k, (hdFs_up k (Up.nil 6)).parse, rdHd_fs k (Up.nil 6), if_pos rEnd_nil]
theorem more_hd {h : Hd} (k : h.ok) : (readHd (putL (hdL h) 9 [1])).2 = 8 := by
  unfold readHd
  rw [hdL_eq k, put_opt _ _ _ (by decide), show opt 9 [1] [] = [((9 : UInt8), [(1 : UInt8)])] from rfl, hdFs_app, (hdFs_up k (nine_up 6 (by decide))).parse, rdHd_fs k (nine_up 6 (by decide)), rEnd_more, if_neg (by decide)]
theorem one_hd {l : List UInt8} (h : (readHd l).2 = 0) : (readHd l).1.ok ∧ hdL (readHd l).1 = l := by
  unfold readHd at h ⊢
  by_cases hz : rEnd (rdHd (parseG l (-1))).2 = 0
  · rw [if_pos hz]
    clear h
    have hz := rEnd_zero hz
    have hfull := parse_full (l := l)
    have hone := fun h => (parse_one l (-1) h).1
    generalize parseG l (-1) = s at *
    unfold rdHd at hz ⊢
    simp only at hz ⊢
    generalize ha : rN s 1 = a at *
    generalize hb : rN a.2 2 = b at *
    generalize hc : rH b.2 3 = c at *
    generalize hd : rH c.2 4 = d at *
    generalize he : rH d.2 5 = e at *
    generalize hf : rH e.2 6 = f at *
    have hm : ∀ (x : St) (t : UInt8), Full x.1 → Full (rH x t).2.1 := by
      intro x t hx
      unfold rH
      split
      · exact fun y hy => hx y (rB_mem hy)
      · split
        · exact fun y hy => hx y (rB_mem hy)
        · exact fun y hy => hx y (rB_mem hy)
    have fa : Full a.2.1 := by rw [← ha]; unfold rN; exact fun x hx => hfull x (rB_mem hx)
    have fb : Full b.2.1 := by rw [← hb]; unfold rN; exact fun x hx => fa x (rB_mem hx)
    have fc : Full c.2.1 := by rw [← hc]; exact hm _ _ fb
    have fd : Full d.2.1 := by rw [← hd]; exact hm _ _ fc
    have fe : Full e.2.1 := by rw [← he]; exact hm _ _ fd
    have k6 := rH_inv (s := e.2) (t := 6) fe (by rw [hf]; exact hz.2)
    rw [hf] at k6
    have k5 := rH_inv (s := d.2) (t := 5) fd (by rw [he]; exact k6.1)
    rw [he] at k5
    have k4 := rH_inv (s := c.2) (t := 4) fc (by rw [hd]; exact k5.1)
    rw [hd] at k4
    have k3 := rH_inv (s := b.2) (t := 3) fb (by rw [hc]; exact k4.1)
    rw [hc] at k3
    have k2 := rN_inv (s := a.2) (t := 2) fa (by rw [hb]; exact k3.1)
    rw [hb] at k2
    have k1 := rN_inv (s := s) (t := 1) hfull (by rw [ha]; exact k2.1)
    rw [ha] at k1
    have hok : Hd.ok ⟨a.1, b.1, c.1, d.1, e.1, f.1⟩ := ⟨k1.2.2.2, k2.2.2.2, k3.2.2.2, k4.2.2.2, k5.2.2.2, k6.2.2.2⟩
    refine ⟨hok, ?_⟩
    rw [hdL_eq hok, ← hone k1.1]
    congr 1
    unfold hdFs
    simp only
    rw [k1.2.1, k2.2.1, k3.2.1, k4.2.1, k5.2.1, k6.2.1, hz.1]
  · rw [if_neg hz] at h; exact absurd h hz
/-- Lengths. -/
theorem putL_len (l : List UInt8) (t : UInt8) (v : List UInt8) : (putL l t v).length ≤ l.length + v.length + 3 := by
  unfold putL
  split
  · simp
  · split
    · omega
    · simp; omega
theorem pkL_len (p : Pk) : (pkL p).length ≤ p.den.length + p.frm.length + p.to.length + 53 := by
  unfold pkL
  have h1 := putL_len [] 1 (numL p.ch)
  have h2 := putL_len (putL [] 1 (numL p.ch)) 2 (numL p.seq)
  have h3 := putL_len (putL (putL [] 1 (numL p.ch)) 2 (numL p.seq)) 3 (numL p.tmo)
  have h4 := putL_len (putL (putL (putL [] 1 (numL p.ch)) 2 (numL p.seq)) 3 (numL p.tmo)) 4 p.den
  have h5 := putL_len (putL (putL (putL (putL [] 1 (numL p.ch)) 2 (numL p.seq)) 3 (numL p.tmo)) 4 p.den) 5 (numL p.amt)
  have h6 := putL_len (putL (putL (putL (putL (putL [] 1 (numL p.ch)) 2 (numL p.seq)) 3 (numL p.tmo)) 4 p.den) 5 (numL p.amt)) 6 p.frm
  have h7 := putL_len (putL (putL (putL (putL (putL (putL [] 1 (numL p.ch)) 2 (numL p.seq)) 3 (numL p.tmo)) 4 p.den) 5 (numL p.amt)) 6 p.frm) 7 p.to
  have n1 := num_len p.ch
  have n2 := num_len p.seq
  have n3 := num_len p.tmo
  have n4 := num_len p.amt
  simp only [List.length_nil] at h1
  omega
theorem hdL_len {h : Hd} (k : h.ok) : (hdL h).length ≤ 162 := by
  unfold hdL
  simp only [putH_eq]
  have hs : ∀ x : List UInt8, x.length = 32 → (hashF x).length ≤ 32 := by intro x hx; unfold hashF; split <;> simp [hx]
  have h1 := putL_len [] 1 (numL h.ht)
  have h2 := putL_len (putL [] 1 (numL h.ht)) 2 (numL h.tm)
  have h3 := putL_len (putL (putL [] 1 (numL h.ht)) 2 (numL h.tm)) 3 (hashF h.root)
  have h4 := putL_len (putL (putL (putL [] 1 (numL h.ht)) 2 (numL h.tm)) 3 (hashF h.root)) 4 (hashF h.vals)
  have h5 := putL_len (putL (putL (putL (putL [] 1 (numL h.ht)) 2 (numL h.tm)) 3 (hashF h.root)) 4 (hashF h.vals)) 5 (hashF h.next)
  have h6 := putL_len (putL (putL (putL (putL (putL [] 1 (numL h.ht)) 2 (numL h.tm)) 3 (hashF h.root)) 4 (hashF h.vals)) 5 (hashF h.next)) 6 (hashF h.sel)
  have n1 := num_len h.ht
  have n2 := num_len h.tm
  have r1 := hs _ k.root
  have r2 := hs _ k.vals
  have r3 := hs _ k.next
  have r4 := hs _ k.sel
  simp only [List.length_nil] at h1
  omega
theorem ackL_len (y : Bool) (c : Nat) : (ackL y c).length ≤ 30 := by
  have h2 := putL_len (if y then putL [] 1 (numL 1) else []) 2 (numL c)
  have h1 := putL_len [] 1 (numL 1)
  have n1 := num_len 1
  have n2 := num_len c
  unfold ackL
  cases y
  · simp only [Bool.false_eq_true, if_false, List.length_nil] at h2 ⊢; omega
  · simp only [if_true, List.length_nil] at h1 h2 ⊢; omega
end Go.Proofs.YtkmcjokoinoahaaDoor.PlainP
