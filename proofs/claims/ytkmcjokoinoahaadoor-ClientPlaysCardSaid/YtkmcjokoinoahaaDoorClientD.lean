/- client.Status of a client: a contract over any world. -/
import Derived.Test.YtkmcjokoinoahaaDoorClientC
set_option linter.unusedVariables false
set_option linter.unusedSimpArgs false
namespace Go.Proofs.YtkmcjokoinoahaaDoor.ClientD
open Go.RowKit Go.Proofs.YtkmcjokoinoahaaDoor.Lib Go.Proofs.YtkmcjokoinoahaaDoor.LibB Go.Proofs.YtkmcjokoinoahaaDoor.Reg Go.Proofs.YtkmcjokoinoahaaDoor.RegC Go.Proofs.YtkmcjokoinoahaaDoor.PlainS Go.Proofs.YtkmcjokoinoahaaDoor.ShaB Go.Proofs.YtkmcjokoinoahaaDoor.ShaC Go.Proofs.YtkmcjokoinoahaaDoor.ShaD Go.Proofs.YtkmcjokoinoahaaDoor.ShaDS Go.Proofs.YtkmcjokoinoahaaDoor.ShaE Go.Proofs.YtkmcjokoinoahaaDoor.PlainP Go.Proofs.YtkmcjokoinoahaaDoor.ParcelB Go.Proofs.YtkmcjokoinoahaaDoor.SealA Go.Proofs.YtkmcjokoinoahaaDoor.SealB Go.Proofs.YtkmcjokoinoahaaDoor.ClientA Go.Proofs.YtkmcjokoinoahaaDoor.ClientB Go.Proofs.YtkmcjokoinoahaaDoor.ClientC Go.Proofs.YtkmcjokoinoahaaDoor.FaultB Go.Proofs.YtkmcjokoinoahaaDoor.FaultC Go.Proofs.YtkmcjokoinoahaaDoor.FaultD
/-- What keeps a client from being used. -/
def statE (fz : Bool) (p : Nat) (s : Stt) (now : Nat) : Int := if fz then 30 else if s.tm < now ∧ p ≤ now - s.tm then 31 else 0
set_option maxHeartbeats 8000000 in
set_option maxRecDepth 100000 in
theorem Status_calls (w : World) (B cb p : Nat) (l : List Stt) (fz : Bool) (h : Cl w B cb p l fz) (m : Nat) (hm : l.length = m + 1) (s : Stt) (hs : l[m]? = some s) (now : Nat) (hn : now < 18446744073709551616) :
    Calls Tryd.prog 36 #[.pointer (some ⟨cb, 0, none⟩), .int .u64 (now : Int)] w fun e w' => ∃ v, e = .returned v ∧ Fact (Er w.heap.size v w' (statE fz p s now)) ∧ Below w.heap.size w w' := by
  obtain ⟨ad, c, c0, c1, c2, hb1, hb2, hk, hlm, hc⟩ := Cl.at_ h hs
  rw [hm] at c1 hlm
  have hwm : IntKind.i64.wrap (m : Int) = m := by rw [IntKind.wrap_i64]; omega
  have e1 : (((m + 1 : Nat) : Int)) - 1 = (m : Int) := by omega
  have e2 : (m : Int) < (m : Int) + 1 := by omega
  have k1 := hc 1 _ rfl
  have HKT := Fact.mk hk.tm
  clear hc hs hm h hk hb1 hb2
  have C0 : Fact (∀ q, (w.drewN q).cell? ⟨cb, 0, none⟩ = some (.int .u64 (p : Int))) := ⟨fun q => c0⟩
  have C1 : Fact (∀ q, (w.drewN q).cell? ⟨cb, 1, none⟩ = some (.slice (some ad) (m + 1) c)) := ⟨fun q => c1⟩
  have K1 : Fact (∀ q, (w.drewN q).cell? ⟨(ad.add (m * 98)).block, (ad.add (m * 98)).off + 1, none⟩ = some (.int .u64 (s.tm : Int))) := ⟨fun q => by rw [← k1, add_pos' _ 1 (by decide)]; rfl⟩
  clear c0 c1 k1
  cases fz with
  | true =>
    go_enter Tryd.func36, Tryd.ntmps36
    go_wp2_with (go_at_call 23; fail)
    refine (At_num _ _ _ 30 (by decide)).mono ?_
    rintro ev w2 ⟨v, rfl, he, hb⟩
    have HB := Fact.mk hb
    clear hb
    go_wp2_with fail
    go_ret
    exact ⟨v, rfl, he, HB.out⟩
  | false =>
    have hst : statE false p s now = if s.tm < now ∧ p ≤ now - s.tm then 31 else 0 := rfl
    rw [hst]
    clear hst
    by_cases q1 : s.tm < now
    · have d1 : decide ((s.tm : Int) < (now : Int)) = true := by rw [decide_eq_true_eq]; omega
      have n1 : decide (s.tm < now) = true := decide_eq_true q1
      have hw : IntKind.u64.wrap ((now : Int) - (s.tm : Int)) = ((now - s.tm : Nat) : Int) := by rw [IntKind.wrap_u64]; omega
      by_cases q2 : p ≤ now - s.tm
      · have n2 : decide (p ≤ now - s.tm) = true := decide_eq_true q2
        rw [if_pos ⟨q1, q2⟩]
        generalize now - s.tm = x at hw n2
        clear q1 q2
        go_enter Tryd.func36, Tryd.ntmps36
        go_wp2_with fail
        refine wp_region_S (fun W => ∃ q, W = w.drewN q) ((List.range 38).map fun i => (i, true)) (by kernel_rfl) (by kernel_rfl) (by kernel_rfl) rfl rfl (by intro c a d v w h; cases d <;> exact h) ⟨1, rfl⟩ ?_
        simp only [pick, List.range, List.range.loop, List.map_cons, List.map_nil, List.filterMap_cons, List.filterMap_nil, Option.map_some, List.getElem?_toArray, List.getElem?_cons_zero, List.getElem?_cons_succ]
        iterate 38
          (first
            | (apply seq_tell rfl
               · intro w2 hS
                 obtain ⟨q, rfl⟩ := hS
                 have a0 := C0.out q
                 have a1 := C1.out q
                 have a2 := K1.out q
                 go_simp
                 first | done | rfl)
            | (apply seq_tellG rfl
               · intro w2 hS
                 obtain ⟨q, rfl⟩ := hS
                 have a0 := C0.out q
                 have a1 := C1.out q
                 have a2 := K1.out q
                 go_simp
                 first | done | rfl)
            | apply seq_skip rfl
           simp only [Act.put, List.setIfInBounds_toArray, List.set_cons_succ, List.set_cons_zero])
        unfold wpSeqS
        have HBd : Fact (Below w.heap.size w w.drew) := ⟨(Below.refl _ _).drew⟩
        generalize w.drew = wd at HBd ⊢
        go_wp2_with (go_at_call 23; fail)
        refine (At_num wd _ _ 31 (by decide)).mono ?_
        rintro ev w2 ⟨v, rfl, he, hb⟩
        have HB : Fact (Below w.heap.size w w2) := ⟨HBd.out.trans (hb.mono HBd.out.size)⟩
        have HE : Fact (Er w.heap.size v w2 31) := ⟨he.out.low HBd.out.size⟩
        clear hb he
        go_wp2_with fail
        go_ret
        exact ⟨v, rfl, HE, HB.out⟩
      · have n2 : decide (p ≤ now - s.tm) = false := decide_eq_false q2
        rw [if_neg (fun h => q2 h.2)]
        generalize now - s.tm = x at hw n2
        clear q1 q2
        go_enter Tryd.func36, Tryd.ntmps36
        go_wp2_with fail
        refine wp_region_S (fun W => ∃ q, W = w.drewN q) ((List.range 38).map fun i => (i, true)) (by kernel_rfl) (by kernel_rfl) (by kernel_rfl) rfl rfl (by intro c a d v w h; cases d <;> exact h) ⟨1, rfl⟩ ?_
        simp only [pick, List.range, List.range.loop, List.map_cons, List.map_nil, List.filterMap_cons, List.filterMap_nil, Option.map_some, List.getElem?_toArray, List.getElem?_cons_zero, List.getElem?_cons_succ]
        iterate 38
          (first
            | (apply seq_tell rfl
               · intro w2 hS
                 obtain ⟨q, rfl⟩ := hS
                 have a0 := C0.out q
                 have a1 := C1.out q
                 have a2 := K1.out q
                 go_simp
                 first | done | rfl)
            | (apply seq_tellG rfl
               · intro w2 hS
                 obtain ⟨q, rfl⟩ := hS
                 have a0 := C0.out q
                 have a1 := C1.out q
                 have a2 := K1.out q
                 go_simp
                 first | done | rfl)
            | apply seq_skip rfl
           simp only [Act.put, List.setIfInBounds_toArray, List.set_cons_succ, List.set_cons_zero])
        unfold wpSeqS
        go_wp2_with fail
        go_ret
        exact ⟨.nilIface, rfl, ⟨.inl ⟨rfl, rfl⟩⟩, (Below.refl _ _).drew⟩
    · have d1 : decide ((s.tm : Int) < (now : Int)) = false := by rw [decide_eq_false_iff_not]; omega
      have n1 : decide (s.tm < now) = false := decide_eq_false q1
      rw [if_neg (fun h => q1 h.1)]
      clear q1
      go_enter Tryd.func36, Tryd.ntmps36
      go_wp2_with fail
      refine wp_region_S (fun W => ∃ q, W = w.drewN q) ((List.range 38).map fun i => (i, true)) (by kernel_rfl) (by kernel_rfl) (by kernel_rfl) rfl rfl (by intro c a d v w h; cases d <;> exact h) ⟨1, rfl⟩ ?_
      simp only [pick, List.range, List.range.loop, List.map_cons, List.map_nil, List.filterMap_cons, List.filterMap_nil, Option.map_some, List.getElem?_toArray, List.getElem?_cons_zero, List.getElem?_cons_succ]
      iterate 38
        (first
          | (apply seq_tell rfl
             · intro w2 hS
               obtain ⟨q, rfl⟩ := hS
               have a0 := C0.out q
               have a1 := C1.out q
               have a2 := K1.out q
               go_simp
               first | done | rfl)
          | (apply seq_tellG rfl
             · intro w2 hS
               obtain ⟨q, rfl⟩ := hS
               have a0 := C0.out q
               have a1 := C1.out q
               have a2 := K1.out q
               go_simp
               first | done | rfl)
          | apply seq_skip rfl
         simp only [Act.put, List.setIfInBounds_toArray, List.set_cons_succ, List.set_cons_zero])
      unfold wpSeqS
      go_wp2_with fail
      go_ret
      exact ⟨.nilIface, rfl, ⟨.inl ⟨rfl, rfl⟩⟩, (Below.refl _ _).drew⟩
end Go.Proofs.YtkmcjokoinoahaaDoor.ClientD
