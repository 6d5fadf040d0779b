/- law 11's follow: a contract over any world. -/
import Derived.Test.YtkmcjokoinoahaaDoorClientL
import Derived.Laws.Small
set_option linter.unusedVariables false
set_option linter.unusedSimpArgs false
namespace Go.Proofs.YtkmcjokoinoahaaDoor.ClientM
open Go.RowKit Go.Proofs.YtkmcjokoinoahaaDoor.Lib Go.Proofs.YtkmcjokoinoahaaDoor.LibB Go.Proofs.YtkmcjokoinoahaaDoor.Reg Go.Proofs.YtkmcjokoinoahaaDoor.RegC Go.Proofs.YtkmcjokoinoahaaDoor.RegD Go.Proofs.YtkmcjokoinoahaaDoor.PlainS Go.Proofs.YtkmcjokoinoahaaDoor.ShaB Go.Proofs.YtkmcjokoinoahaaDoor.ShaC Go.Proofs.YtkmcjokoinoahaaDoor.ShaD Go.Proofs.YtkmcjokoinoahaaDoor.ShaDS Go.Proofs.YtkmcjokoinoahaaDoor.ShaE Go.Proofs.YtkmcjokoinoahaaDoor.PlainP Go.Proofs.YtkmcjokoinoahaaDoor.ParcelB Go.Proofs.YtkmcjokoinoahaaDoor.SealA Go.Proofs.YtkmcjokoinoahaaDoor.SealB Go.Proofs.YtkmcjokoinoahaaDoor.ClientA Go.Proofs.YtkmcjokoinoahaaDoor.RefD Go.Proofs.YtkmcjokoinoahaaDoor.ClientL
theorem hdC_vals {h : Hd} (hk : h.ok) (cs : Array Value) (hcs : cs.toList = hdC h) (x : List UInt8) (hx : x.length = 32) : (setFrom cs 34 (x.map vu8)).toList = hdC { h with vals := x } := by
  have hp : ([Value.int .u64 (h.ht : Int), .int .u64 (h.tm : Int)] ++ h.root.map vu8).length = 34 := by simp [hk.root]
  have := setFrom_list (x.map vu8) ([Value.int .u64 (h.ht : Int), .int .u64 (h.tm : Int)] ++ h.root.map vu8) (h.vals.map vu8) (h.next.map vu8 ++ h.sel.map vu8) cs (by rw [hcs]; simp [hdC]) (by simp [hk.vals, hx])
  rw [hp] at this
  rw [this]
  simp [hdC]
theorem set_ht {h : Hd} {cs : Array Value} (hcs : cs.toList = hdC h) (n : Nat) : (cs.setIfInBounds 0 (.int .u64 (n : Int))).toList = hdC { h with ht := n } := by
  rw [Array.toList_setIfInBounds, hcs]; rfl
theorem set_tm {h : Hd} {cs : Array Value} (hcs : cs.toList = hdC h) (n : Nat) : (cs.setIfInBounds 1 (.int .u64 (n : Int))).toList = hdC { h with tm := n } := by
  rw [Array.toList_setIfInBounds, hcs]; rfl
/-- The header that follows, before it is turned. -/
def fol0 (l : Hd) (a : Ac) : Hd := ⟨l.ht + 1 + a.n % 2, l.tm + 1 + a.n % 5, a.h.root, l.next, valsL (l.ht + 2), Z32⟩
def fol1 (l : Hd) (a : Ac) : Hd :=
  if a.wh % 12 = 1 then { fol0 l a with ht := a.h.ht } else if a.wh % 12 = 2 then { fol0 l a with tm := a.h.tm } else if a.wh % 12 = 3 then { fol0 l a with vals := a.h.vals }
  else if a.wh % 12 = 4 then { fol0 l a with ht := l.ht - min (a.n % 4) l.ht } else if a.wh % 12 = 5 then { fol0 l a with tm := l.tm } else fol0 l a
def folH (l : Hd) (a : Ac) : Hd := if a.wh % 12 = 6 then { fol1 l a with sel := a.h.sel } else { fol1 l a with sel := shaL (sealB (fol1 l a)) }
theorem fol0_ok {l : Hd} {a : Ac} (hl : l.ok) (ha : a.ok) (h1 : l.ht ≤ 1099511627776) (h2 : l.tm ≤ 1099511627776) : (fol0 l a).ok :=
  ⟨by show l.ht + 1 + a.n % 2 < _; omega, by show l.tm + 1 + a.n % 5 < _; omega, ha.h.root, hl.next, valsL_len _, Z32_len⟩
theorem fol1_ok {l : Hd} {a : Ac} (hl : l.ok) (ha : a.ok) (h1 : l.ht ≤ 1099511627776) (h2 : l.tm ≤ 1099511627776) : (fol1 l a).ok := by
  have k := fol0_ok hl ha h1 h2
  unfold fol1
  repeat' split
  · exact ⟨ha.h.ht, k.tm, k.root, k.vals, k.next, k.sel⟩
  · exact ⟨k.ht, ha.h.tm, k.root, k.vals, k.next, k.sel⟩
  · exact ⟨k.ht, k.tm, k.root, ha.h.vals, k.next, k.sel⟩
  · exact ⟨by show l.ht - min (a.n % 4) l.ht < _; omega, k.tm, k.root, k.vals, k.next, k.sel⟩
  · exact ⟨k.ht, by show l.tm < _; omega, k.root, k.vals, k.next, k.sel⟩
  · exact k
theorem folH_ok {l : Hd} {a : Ac} (hl : l.ok) (ha : a.ok) (h1 : l.ht ≤ 1099511627776) (h2 : l.tm ≤ 1099511627776) : (folH l a).ok := by
  have k := fol1_ok hl ha h1 h2
  unfold folH
  split
  · exact ⟨k.ht, k.tm, k.root, k.vals, k.next, ha.h.sel⟩
  · exact ⟨k.ht, k.tm, k.root, k.vals, k.next, sha_len _⟩
theorem sel_ok {h : Hd} (k : h.ok) {x : List UInt8} (hx : x.length = 32) : ({ h with sel := x } : Hd).ok := ⟨k.ht, k.tm, k.root, k.vals, k.next, hx⟩
theorem join {A B : Prop} {P : Prop} (hA : P → A) (hB : P → B) (hp : P) : A ∧ B := ⟨hA hp, hB hp⟩
set_option maxHeartbeats 16000000 in
set_option maxRecDepth 100000 in
theorem follow_calls (w : World) (l : Hd) (hl : l.ok) (cl : Array Value) (hcl : cl.toList = hdC l) (a : Ac) (ha : a.ok) (ca : Array Value) (hca : ca.toList = acC a) (h1 : l.ht ≤ 1099511627776) (h2 : l.tm ≤ 1099511627776) (hg : LaidR w) (hw : 1 < w.heap.size) :
    Calls Tryd.prog 38 #[.agg cl, .agg ca] w fun e w' => (∃ ds : Array Value, e = .returned (.agg ds) ∧ Fact (ds.toList = hdC (folH l a))) ∧ Below w.heap.size w w' := by
  have HL := Fact.mk hl
  have HA := Fact.mk ha
  have HCL := Fact.mk hcl
  have HCA := Fact.mk hca
  have HG := Fact.mk hg
  have HW := Fact.mk hw
  have HF1 := Fact.mk (fol1_ok hl ha h1 h2)
  have HF0 := Fact.mk (fol0_ok hl ha h1 h2)
  clear hl ha hcl hca hg hw
  have HB1 : Fact (Below w.heap.size w (((w.alloc (.cells cl 54)).alloc (.cells ca 70)).alloc (.cells HdKit.zHdA 54))) := ⟨(((Below.refl _ _).alloc (Nat.le_refl _) _).alloc (by simp) _).alloc (by simp; omega) _⟩
  have HS1 : Fact ((((w.alloc (.cells cl 54)).alloc (.cells ca 70)).alloc (.cells HdKit.zHdA 54)).heap.size = w.heap.size + 3) := ⟨by simp⟩
  have HRL1 : Fact ((((w.alloc (.cells cl 54)).alloc (.cells ca 70)).alloc (.cells HdKit.zHdA 54)).heap[w.heap.size]? = some (.cells cl 54 (0, 0))) := ⟨by rw [Below.heap_alloc _ _ _ (by simp; omega), Below.heap_alloc _ _ _ (by simp)]; exact heap_alloc_new _ _⟩
  have HRA1 : Fact ((((w.alloc (.cells cl 54)).alloc (.cells ca 70)).alloc (.cells HdKit.zHdA 54)).heap[w.heap.size + 1]? = some (.cells ca 70 (0, 0))) := ⟨by rw [Below.heap_alloc _ _ _ (by simp)]; exact heap_alloc2_new w _ _⟩
  have HRZ1 : Fact ((((w.alloc (.cells cl 54)).alloc (.cells ca 70)).alloc (.cells HdKit.zHdA 54)).heap[w.heap.size + 2]? = some (.cells HdKit.zHdA 54 (0, 0))) := ⟨by have := heap_alloc_new ((w.alloc (.cells cl 54)).alloc (.cells ca 70)) (.cells HdKit.zHdA 54); simpa using this⟩
  obtain ⟨n2, hn2⟩ : ∃ n2, a.n % 2 = n2 := ⟨_, rfl⟩
  obtain ⟨n5, hn5⟩ : ∃ n5, a.n % 5 = n5 := ⟨_, rfl⟩
  have h2a : ((a.n : Int)).tmod 2 = (n2 : Int) := by rw [Int.tmod_eq_emod_of_nonneg (by omega)]; omega
  have h2b : (a.n : Int) % 2 = (n2 : Int) := by omega
  have h5a : ((a.n : Int)).tmod 5 = (n5 : Int) := by rw [Int.tmod_eq_emod_of_nonneg (by omega)]; omega
  have h5b : (a.n : Int) % 5 = (n5 : Int) := by omega
  obtain ⟨a1, ha1⟩ : ∃ a1, l.ht + 1 = a1 := ⟨_, rfl⟩
  obtain ⟨a2, ha2⟩ : ∃ a2, a1 + n2 = a2 := ⟨_, rfl⟩
  obtain ⟨a3, ha3⟩ : ∃ a3, l.ht + 2 = a3 := ⟨_, rfl⟩
  obtain ⟨t1, ht1⟩ : ∃ t1, l.tm + 1 = t1 := ⟨_, rfl⟩
  obtain ⟨t2, ht2⟩ : ∃ t2, t1 + n5 = t2 := ⟨_, rfl⟩
  have HN := Fact.mk (show a.n % 2 = n2 ∧ a.n % 5 = n5 ∧ l.ht + 1 = a1 ∧ a1 + n2 = a2 ∧ l.ht + 2 = a3 ∧ l.tm + 1 = t1 ∧ t1 + n5 = t2 from ⟨hn2, hn5, ha1, ha2, ha3, ht1, ht2⟩)
  have S1 : Fact (IntKind.u64.wrap ((l.ht : Int) + 1) = (a1 : Int) ∧ IntKind.u64.wrap ((a1 : Int) + (n2 : Int)) = (a2 : Int) ∧ IntKind.u64.wrap ((l.ht : Int) + 2) = (a3 : Int) ∧ IntKind.u64.wrap ((l.tm : Int) + 1) = (t1 : Int) ∧ IntKind.u64.wrap ((t1 : Int) + (n5 : Int)) = (t2 : Int)) := ⟨by simp only [IntKind.wrap_u64]; omega⟩
  have M1 : Fact (((a.n : Int)).tmod 2 = (n2 : Int) ∧ (a.n : Int) % 2 = (n2 : Int) ∧ ((a.n : Int)).tmod 5 = (n5 : Int) ∧ (a.n : Int) % 5 = (n5 : Int)) := ⟨h2a, h2b, h5a, h5b⟩
  have ha3l : a3 < 18446744073709551616 := by omega
  clear hn2 hn5 ha1 ha2 ha3 ht1 ht2 h2a h2b h5a h5b
  go_enter Tryd.func38, Tryd.ntmps38
  go_wp2_with (refine wpList_ok rfl (ShaB.exec_alloc rfl (HdKit.alloc_hd _)) ?_)
  generalize ((w.alloc (.cells cl 54)).alloc (.cells ca 70)).alloc (.cells HdKit.zHdA 54) = w1 at HB1 HS1 HRL1 HRA1 HRZ1 ⊢
  rw [show ((w.alloc (.cells cl 54)).alloc (.cells ca 70)).heap.size = w.heap.size + 2 by simp]
  have HPL : Fact (∀ W, Below (w.heap.size + 3) w1 W → W.cell? ⟨w.heap.size, 0, none⟩ = some (.int .u64 (l.ht : Int)) ∧ W.cell? ⟨w.heap.size, 1, none⟩ = some (.int .u64 (l.tm : Int)) ∧ W.rangeAt w.heap.size 66 (l.next.map vu8)) := ⟨fun W hS => by
    have := hd_parts HL.out HCL.out ((hS.block _ (by omega)).trans HRL1.out)
    exact ⟨this.1, this.2.1, this.2.2.2.2.1⟩⟩
  have HPA : Fact (∀ W, Below (w.heap.size + 3) w1 W → W.cell? ⟨w.heap.size + 1, 1, none⟩ = some (.int .u8 (a.wh : Int)) ∧ W.cell? ⟨w.heap.size + 1, 2, none⟩ = some (.int .u64 (a.h.ht : Int)) ∧ W.cell? ⟨w.heap.size + 1, 3, none⟩ = some (.int .u64 (a.h.tm : Int)) ∧ W.rangeAt (w.heap.size + 1) 4 (a.h.root.map vu8) ∧ W.rangeAt (w.heap.size + 1) 36 (a.h.vals.map vu8) ∧ W.rangeAt (w.heap.size + 1) 100 (a.h.sel.map vu8) ∧ W.cell? ⟨w.heap.size + 1, 132, none⟩ = some (.int .u64 (a.n : Int))) := ⟨fun W hS => by
    have := ac_parts HA.out HCA.out ((hS.block _ (by omega)).trans HRA1.out)
    exact ⟨this.2.1, this.2.2.1, this.2.2.2.1, this.2.2.2.2.1, this.2.2.2.2.2.1, this.2.2.2.2.2.2.2.1, this.2.2.2.2.2.2.2.2.1⟩⟩
  obtain ⟨cr, hcr⟩ : ∃ cr : Array Value, cr = (a.h.root.map vu8).toArray := ⟨_, rfl⟩
  obtain ⟨cn, hcn⟩ : ∃ cn : Array Value, cn = (l.next.map vu8).toArray := ⟨_, rfl⟩
  obtain ⟨cx, hcx⟩ : ∃ cx : Array Value, cx = (a.h.sel.map vu8).toArray := ⟨_, rfl⟩
  obtain ⟨cv, hcv⟩ : ∃ cv : Array Value, cv = (a.h.vals.map vu8).toArray := ⟨_, rfl⟩
  have HCR : Fact (cr.toList = a.h.root.map vu8) := ⟨by rw [hcr]⟩
  have HCN : Fact (cn.toList = l.next.map vu8) := ⟨by rw [hcn]⟩
  have HCX : Fact (cx.toList = a.h.sel.map vu8) := ⟨by rw [hcx]⟩
  have HCV : Fact (cv.toList = a.h.vals.map vu8) := ⟨by rw [hcv]⟩
  have HLR : Fact (∀ W, Below (w.heap.size + 3) w1 W → (Instr.loadAt 52 (.pointer (some ⟨w.heap.size + 1, 4, none⟩))).run Tryd.prog W = .ok (.agg cr) W) := ⟨fun W hS => by rw [hcr]; exact load_hash HA.out.h.root (HPA.out W hS).2.2.2.1⟩
  have HLN : Fact (∀ W, Below (w.heap.size + 3) w1 W → (Instr.loadAt 52 (.pointer (some ⟨w.heap.size, 66, none⟩))).run Tryd.prog W = .ok (.agg cn) W) := ⟨fun W hS => by rw [hcn]; exact load_hash HL.out.next (HPL.out W hS).2.2⟩
  have HLX : Fact (∀ W, Below (w.heap.size + 3) w1 W → (Instr.loadAt 52 (.pointer (some ⟨w.heap.size + 1, 100, none⟩))).run Tryd.prog W = .ok (.agg cx) W) := ⟨fun W hS => by rw [hcx]; exact load_hash HA.out.h.sel (HPA.out W hS).2.2.2.2.2.1⟩
  have HLV : Fact (∀ W, Below (w.heap.size + 3) w1 W → (Instr.loadAt 52 (.pointer (some ⟨w.heap.size + 1, 36, none⟩))).run Tryd.prog W = .ok (.agg cv) W) := ⟨fun W hS => by rw [hcv]; exact load_hash HA.out.h.vals (HPA.out W hS).2.2.2.2.1⟩
  clear hcr hcn hcx hcv
  refine wp_region_P (fun W => Below (w.heap.size + 3) w1 W) (.tell 0 (.tell 1 (.tell 2 (.tell 3 (.tell 4 (.tell 5 (.tell 6 (.tell 7 (.tell 8 (.tell 9 (.tell 10 (.tell 11 (.tell 12 (.tell 13 (.tell 14 (.tell 15 (.tell 16 (.tell 17 (.tell 18 (.tell 19 (.tell 20 (.tell 21 (.two 22 (.tell 23 (.one 24 (.one 25 .done))) 24 (.one 22 (.tell 23 (.one 25 .done)))))))))))))))))))))))))) (by kernel_rfl) (by kernel_rfl) (by kernel_rfl) (by intro c a d v w h; cases d <;> exact h) (Below.refl _ _).drew ?_
  have HBd : Fact (Below (w.heap.size + 3) w1 w1.drew) := ⟨(Below.refl _ _).drew⟩
  have HSd : Fact (w1.drew.heap.size = w.heap.size + 3) := ⟨HS1.out⟩
  generalize w1.drew = wd at HBd HSd ⊢
  refine plan_tell rfl rfl (v := .pointer (some ⟨w.heap.size, 0, none⟩)) (fun W hS => by
    have p0 := (HPL.out W hS).1
    have p1 := (HPL.out W hS).2.1
    have p2 := (HPA.out W hS).2.2.2.2.2.2
    have s1 := S1.out.1
    have s2 := S1.out.2.1
    have s3 := S1.out.2.2.1
    have s4 := S1.out.2.2.2.1
    have s5 := S1.out.2.2.2.2
    have m1 := M1.out.1
    have m2 := M1.out.2.1
    have m3 := M1.out.2.2.1
    have m4 := M1.out.2.2.2
    go_simp
    first | done | rfl) ?_
  simp only [List.getElem_toArray, List.getElem_cons_succ, List.getElem_cons_zero, Act.put, List.setIfInBounds_toArray, List.set_cons_succ, List.set_cons_zero]
  refine plan_tell rfl rfl (v := .int .u64 (l.ht : Int)) (fun W hS => by
    have p0 := (HPL.out W hS).1
    have p1 := (HPL.out W hS).2.1
    have p2 := (HPA.out W hS).2.2.2.2.2.2
    have s1 := S1.out.1
    have s2 := S1.out.2.1
    have s3 := S1.out.2.2.1
    have s4 := S1.out.2.2.2.1
    have s5 := S1.out.2.2.2.2
    have m1 := M1.out.1
    have m2 := M1.out.2.1
    have m3 := M1.out.2.2.1
    have m4 := M1.out.2.2.2
    go_simp
    first | done | rfl) ?_
  simp only [List.getElem_toArray, List.getElem_cons_succ, List.getElem_cons_zero, Act.put, List.setIfInBounds_toArray, List.set_cons_succ, List.set_cons_zero]
  refine plan_tell rfl rfl (v := .int .u64 (a1 : Int)) (fun W hS => by
    have p0 := (HPL.out W hS).1
    have p1 := (HPL.out W hS).2.1
    have p2 := (HPA.out W hS).2.2.2.2.2.2
    have s1 := S1.out.1
    have s2 := S1.out.2.1
    have s3 := S1.out.2.2.1
    have s4 := S1.out.2.2.2.1
    have s5 := S1.out.2.2.2.2
    have m1 := M1.out.1
    have m2 := M1.out.2.1
    have m3 := M1.out.2.2.1
    have m4 := M1.out.2.2.2
    go_simp
    first | done | rfl) ?_
  simp only [List.getElem_toArray, List.getElem_cons_succ, List.getElem_cons_zero, Act.put, List.setIfInBounds_toArray, List.set_cons_succ, List.set_cons_zero]
  refine plan_tell rfl rfl (v := .pointer (some ⟨w.heap.size + 1, 132, none⟩)) (fun W hS => by
    have p0 := (HPL.out W hS).1
    have p1 := (HPL.out W hS).2.1
    have p2 := (HPA.out W hS).2.2.2.2.2.2
    have s1 := S1.out.1
    have s2 := S1.out.2.1
    have s3 := S1.out.2.2.1
    have s4 := S1.out.2.2.2.1
    have s5 := S1.out.2.2.2.2
    have m1 := M1.out.1
    have m2 := M1.out.2.1
    have m3 := M1.out.2.2.1
    have m4 := M1.out.2.2.2
    go_simp
    first | done | rfl) ?_
  simp only [List.getElem_toArray, List.getElem_cons_succ, List.getElem_cons_zero, Act.put, List.setIfInBounds_toArray, List.set_cons_succ, List.set_cons_zero]
  refine plan_tell rfl rfl (v := .int .u64 (a.n : Int)) (fun W hS => by
    have p0 := (HPL.out W hS).1
    have p1 := (HPL.out W hS).2.1
    have p2 := (HPA.out W hS).2.2.2.2.2.2
    have s1 := S1.out.1
    have s2 := S1.out.2.1
    have s3 := S1.out.2.2.1
    have s4 := S1.out.2.2.2.1
    have s5 := S1.out.2.2.2.2
    have m1 := M1.out.1
    have m2 := M1.out.2.1
    have m3 := M1.out.2.2.1
    have m4 := M1.out.2.2.2
    go_simp
    first | done | rfl) ?_
  simp only [List.getElem_toArray, List.getElem_cons_succ, List.getElem_cons_zero, Act.put, List.setIfInBounds_toArray, List.set_cons_succ, List.set_cons_zero]
  refine plan_tell rfl rfl (v := .int .u64 (n2 : Int)) (fun W hS => by
    have p0 := (HPL.out W hS).1
    have p1 := (HPL.out W hS).2.1
    have p2 := (HPA.out W hS).2.2.2.2.2.2
    have s1 := S1.out.1
    have s2 := S1.out.2.1
    have s3 := S1.out.2.2.1
    have s4 := S1.out.2.2.2.1
    have s5 := S1.out.2.2.2.2
    have m1 := M1.out.1
    have m2 := M1.out.2.1
    have m3 := M1.out.2.2.1
    have m4 := M1.out.2.2.2
    go_simp
    first | done | rfl) ?_
  simp only [List.getElem_toArray, List.getElem_cons_succ, List.getElem_cons_zero, Act.put, List.setIfInBounds_toArray, List.set_cons_succ, List.set_cons_zero]
  refine plan_tell rfl rfl (v := .int .u64 (a2 : Int)) (fun W hS => by
    have p0 := (HPL.out W hS).1
    have p1 := (HPL.out W hS).2.1
    have p2 := (HPA.out W hS).2.2.2.2.2.2
    have s1 := S1.out.1
    have s2 := S1.out.2.1
    have s3 := S1.out.2.2.1
    have s4 := S1.out.2.2.2.1
    have s5 := S1.out.2.2.2.2
    have m1 := M1.out.1
    have m2 := M1.out.2.1
    have m3 := M1.out.2.2.1
    have m4 := M1.out.2.2.2
    go_simp
    first | done | rfl) ?_
  simp only [List.getElem_toArray, List.getElem_cons_succ, List.getElem_cons_zero, Act.put, List.setIfInBounds_toArray, List.set_cons_succ, List.set_cons_zero]
  refine plan_tell rfl rfl (v := .pointer (some ⟨w.heap.size, 1, none⟩)) (fun W hS => by
    have p0 := (HPL.out W hS).1
    have p1 := (HPL.out W hS).2.1
    have p2 := (HPA.out W hS).2.2.2.2.2.2
    have s1 := S1.out.1
    have s2 := S1.out.2.1
    have s3 := S1.out.2.2.1
    have s4 := S1.out.2.2.2.1
    have s5 := S1.out.2.2.2.2
    have m1 := M1.out.1
    have m2 := M1.out.2.1
    have m3 := M1.out.2.2.1
    have m4 := M1.out.2.2.2
    go_simp
    first | done | rfl) ?_
  simp only [List.getElem_toArray, List.getElem_cons_succ, List.getElem_cons_zero, Act.put, List.setIfInBounds_toArray, List.set_cons_succ, List.set_cons_zero]
  refine plan_tell rfl rfl (v := .int .u64 (l.tm : Int)) (fun W hS => by
    have p0 := (HPL.out W hS).1
    have p1 := (HPL.out W hS).2.1
    have p2 := (HPA.out W hS).2.2.2.2.2.2
    have s1 := S1.out.1
    have s2 := S1.out.2.1
    have s3 := S1.out.2.2.1
    have s4 := S1.out.2.2.2.1
    have s5 := S1.out.2.2.2.2
    have m1 := M1.out.1
    have m2 := M1.out.2.1
    have m3 := M1.out.2.2.1
    have m4 := M1.out.2.2.2
    go_simp
    first | done | rfl) ?_
  simp only [List.getElem_toArray, List.getElem_cons_succ, List.getElem_cons_zero, Act.put, List.setIfInBounds_toArray, List.set_cons_succ, List.set_cons_zero]
  refine plan_tell rfl rfl (v := .int .u64 (t1 : Int)) (fun W hS => by
    have p0 := (HPL.out W hS).1
    have p1 := (HPL.out W hS).2.1
    have p2 := (HPA.out W hS).2.2.2.2.2.2
    have s1 := S1.out.1
    have s2 := S1.out.2.1
    have s3 := S1.out.2.2.1
    have s4 := S1.out.2.2.2.1
    have s5 := S1.out.2.2.2.2
    have m1 := M1.out.1
    have m2 := M1.out.2.1
    have m3 := M1.out.2.2.1
    have m4 := M1.out.2.2.2
    go_simp
    first | done | rfl) ?_
  simp only [List.getElem_toArray, List.getElem_cons_succ, List.getElem_cons_zero, Act.put, List.setIfInBounds_toArray, List.set_cons_succ, List.set_cons_zero]
  refine plan_tell rfl rfl (v := .pointer (some ⟨w.heap.size + 1, 132, none⟩)) (fun W hS => by
    have p0 := (HPL.out W hS).1
    have p1 := (HPL.out W hS).2.1
    have p2 := (HPA.out W hS).2.2.2.2.2.2
    have s1 := S1.out.1
    have s2 := S1.out.2.1
    have s3 := S1.out.2.2.1
    have s4 := S1.out.2.2.2.1
    have s5 := S1.out.2.2.2.2
    have m1 := M1.out.1
    have m2 := M1.out.2.1
    have m3 := M1.out.2.2.1
    have m4 := M1.out.2.2.2
    go_simp
    first | done | rfl) ?_
  simp only [List.getElem_toArray, List.getElem_cons_succ, List.getElem_cons_zero, Act.put, List.setIfInBounds_toArray, List.set_cons_succ, List.set_cons_zero]
  refine plan_tell rfl rfl (v := .int .u64 (a.n : Int)) (fun W hS => by
    have p0 := (HPL.out W hS).1
    have p1 := (HPL.out W hS).2.1
    have p2 := (HPA.out W hS).2.2.2.2.2.2
    have s1 := S1.out.1
    have s2 := S1.out.2.1
    have s3 := S1.out.2.2.1
    have s4 := S1.out.2.2.2.1
    have s5 := S1.out.2.2.2.2
    have m1 := M1.out.1
    have m2 := M1.out.2.1
    have m3 := M1.out.2.2.1
    have m4 := M1.out.2.2.2
    go_simp
    first | done | rfl) ?_
  simp only [List.getElem_toArray, List.getElem_cons_succ, List.getElem_cons_zero, Act.put, List.setIfInBounds_toArray, List.set_cons_succ, List.set_cons_zero]
  refine plan_tell rfl rfl (v := .int .u64 (n5 : Int)) (fun W hS => by
    have p0 := (HPL.out W hS).1
    have p1 := (HPL.out W hS).2.1
    have p2 := (HPA.out W hS).2.2.2.2.2.2
    have s1 := S1.out.1
    have s2 := S1.out.2.1
    have s3 := S1.out.2.2.1
    have s4 := S1.out.2.2.2.1
    have s5 := S1.out.2.2.2.2
    have m1 := M1.out.1
    have m2 := M1.out.2.1
    have m3 := M1.out.2.2.1
    have m4 := M1.out.2.2.2
    go_simp
    first | done | rfl) ?_
  simp only [List.getElem_toArray, List.getElem_cons_succ, List.getElem_cons_zero, Act.put, List.setIfInBounds_toArray, List.set_cons_succ, List.set_cons_zero]
  refine plan_tell rfl rfl (v := .int .u64 (t2 : Int)) (fun W hS => by
    have p0 := (HPL.out W hS).1
    have p1 := (HPL.out W hS).2.1
    have p2 := (HPA.out W hS).2.2.2.2.2.2
    have s1 := S1.out.1
    have s2 := S1.out.2.1
    have s3 := S1.out.2.2.1
    have s4 := S1.out.2.2.2.1
    have s5 := S1.out.2.2.2.2
    have m1 := M1.out.1
    have m2 := M1.out.2.1
    have m3 := M1.out.2.2.1
    have m4 := M1.out.2.2.2
    go_simp
    first | done | rfl) ?_
  simp only [List.getElem_toArray, List.getElem_cons_succ, List.getElem_cons_zero, Act.put, List.setIfInBounds_toArray, List.set_cons_succ, List.set_cons_zero]
  refine plan_tell rfl rfl (v := .pointer (some ⟨w.heap.size + 1, 2, none⟩)) (fun W hS => by
    have p0 := (HPL.out W hS).1
    have p1 := (HPL.out W hS).2.1
    have p2 := (HPA.out W hS).2.2.2.2.2.2
    have s1 := S1.out.1
    have s2 := S1.out.2.1
    have s3 := S1.out.2.2.1
    have s4 := S1.out.2.2.2.1
    have s5 := S1.out.2.2.2.2
    have m1 := M1.out.1
    have m2 := M1.out.2.1
    have m3 := M1.out.2.2.1
    have m4 := M1.out.2.2.2
    go_simp
    first | done | rfl) ?_
  simp only [List.getElem_toArray, List.getElem_cons_succ, List.getElem_cons_zero, Act.put, List.setIfInBounds_toArray, List.set_cons_succ, List.set_cons_zero]
  refine plan_tell rfl rfl (v := .pointer (some ⟨w.heap.size + 1, 4, none⟩)) (fun W hS => by
    have p0 := (HPL.out W hS).1
    have p1 := (HPL.out W hS).2.1
    have p2 := (HPA.out W hS).2.2.2.2.2.2
    have s1 := S1.out.1
    have s2 := S1.out.2.1
    have s3 := S1.out.2.2.1
    have s4 := S1.out.2.2.2.1
    have s5 := S1.out.2.2.2.2
    have m1 := M1.out.1
    have m2 := M1.out.2.1
    have m3 := M1.out.2.2.1
    have m4 := M1.out.2.2.2
    go_simp
    first | done | rfl) ?_
  simp only [List.getElem_toArray, List.getElem_cons_succ, List.getElem_cons_zero, Act.put, List.setIfInBounds_toArray, List.set_cons_succ, List.set_cons_zero]
  refine plan_tell rfl rfl (v := .agg cr) (fun W hS => exec_loadAt rfl rfl (HLR.out W hS)) ?_
  simp only [List.getElem_toArray, List.getElem_cons_succ, List.getElem_cons_zero, Act.put, List.setIfInBounds_toArray, List.set_cons_succ, List.set_cons_zero]
  refine plan_tell rfl rfl (v := .pointer (some ⟨w.heap.size, 66, none⟩)) (fun W hS => by
    have p0 := (HPL.out W hS).1
    have p1 := (HPL.out W hS).2.1
    have p2 := (HPA.out W hS).2.2.2.2.2.2
    have s1 := S1.out.1
    have s2 := S1.out.2.1
    have s3 := S1.out.2.2.1
    have s4 := S1.out.2.2.2.1
    have s5 := S1.out.2.2.2.2
    have m1 := M1.out.1
    have m2 := M1.out.2.1
    have m3 := M1.out.2.2.1
    have m4 := M1.out.2.2.2
    go_simp
    first | done | rfl) ?_
  simp only [List.getElem_toArray, List.getElem_cons_succ, List.getElem_cons_zero, Act.put, List.setIfInBounds_toArray, List.set_cons_succ, List.set_cons_zero]
  refine plan_tell rfl rfl (v := .agg cn) (fun W hS => exec_loadAt rfl rfl (HLN.out W hS)) ?_
  simp only [List.getElem_toArray, List.getElem_cons_succ, List.getElem_cons_zero, Act.put, List.setIfInBounds_toArray, List.set_cons_succ, List.set_cons_zero]
  refine plan_tell rfl rfl (v := .pointer (some ⟨w.heap.size, 0, none⟩)) (fun W hS => by
    have p0 := (HPL.out W hS).1
    have p1 := (HPL.out W hS).2.1
    have p2 := (HPA.out W hS).2.2.2.2.2.2
    have s1 := S1.out.1
    have s2 := S1.out.2.1
    have s3 := S1.out.2.2.1
    have s4 := S1.out.2.2.2.1
    have s5 := S1.out.2.2.2.2
    have m1 := M1.out.1
    have m2 := M1.out.2.1
    have m3 := M1.out.2.2.1
    have m4 := M1.out.2.2.2
    go_simp
    first | done | rfl) ?_
  simp only [List.getElem_toArray, List.getElem_cons_succ, List.getElem_cons_zero, Act.put, List.setIfInBounds_toArray, List.set_cons_succ, List.set_cons_zero]
  refine plan_tell rfl rfl (v := .int .u64 (l.ht : Int)) (fun W hS => by
    have p0 := (HPL.out W hS).1
    have p1 := (HPL.out W hS).2.1
    have p2 := (HPA.out W hS).2.2.2.2.2.2
    have s1 := S1.out.1
    have s2 := S1.out.2.1
    have s3 := S1.out.2.2.1
    have s4 := S1.out.2.2.2.1
    have s5 := S1.out.2.2.2.2
    have m1 := M1.out.1
    have m2 := M1.out.2.1
    have m3 := M1.out.2.2.1
    have m4 := M1.out.2.2.2
    go_simp
    first | done | rfl) ?_
  simp only [List.getElem_toArray, List.getElem_cons_succ, List.getElem_cons_zero, Act.put, List.setIfInBounds_toArray, List.set_cons_succ, List.set_cons_zero]
  refine plan_tell rfl rfl (v := .int .u64 (a3 : Int)) (fun W hS => by
    have p0 := (HPL.out W hS).1
    have p1 := (HPL.out W hS).2.1
    have p2 := (HPA.out W hS).2.2.2.2.2.2
    have s1 := S1.out.1
    have s2 := S1.out.2.1
    have s3 := S1.out.2.2.1
    have s4 := S1.out.2.2.2.1
    have s5 := S1.out.2.2.2.2
    have m1 := M1.out.1
    have m2 := M1.out.2.1
    have m3 := M1.out.2.2.1
    have m4 := M1.out.2.2.2
    go_simp
    first | done | rfl) ?_
  simp only [List.getElem_toArray, List.getElem_cons_succ, List.getElem_cons_zero, Act.put, List.setIfInBounds_toArray, List.set_cons_succ, List.set_cons_zero]
  obtain ⟨dh, hdh⟩ : ∃ dh : Array Value, dh = (hdC (fol0 l a)).toArray := ⟨_, rfl⟩
  have HDH : Fact (dh.toList = hdC (fol0 l a)) := ⟨by rw [hdh]⟩
  have HBUg : Fact (∀ cs3 : Array Value, cs3.toList = (valsL a3).map vu8 → Tryd.prog.built 54 [(0, .int .u64 (a2 : Int)), (1, .int .u64 (t2 : Int)), (2, .agg cr), (3, .agg cn), (4, .agg cs3)] = some dh) := ⟨fun cs3 hc3 => by
    have hn := HN.out
    have e1 : (fol0 l a).ht = a2 := by show l.ht + 1 + a.n % 2 = a2; omega
    have e2 : (fol0 l a).tm = t2 := by show l.tm + 1 + a.n % 5 = t2; omega
    have e3 : (fol0 l a).next = valsL a3 := by show valsL (l.ht + 2) = valsL a3; rw [hn.2.2.2.2.1]
    have := built_hd5 (fol0 l a) HF0.out rfl cr cn cs3 HCR.out HCN.out (by rw [e3]; exact hc3)
    rw [e1, e2] at this
    rw [hdh]
    exact this⟩
  have HDI : Fact ((Tryd.prog.info? 54).map (·.size) = some dh.size) := ⟨HdKit.hd_i (by rw [← Array.length_toList, HDH.out, HdKit.hdC_len HF0.out])⟩
  have HDZ : Fact (HdKit.zHdA.size = dh.size) := ⟨by rw [show dh.size = 130 by rw [← Array.length_toList, HDH.out, HdKit.hdC_len HF0.out]]; rfl⟩
  have HD1 : Fact (dh.all (·.oneCell') = true) := ⟨by
    have := HdKit.hdC_one (fol0 l a)
    rw [← HDH.out] at this
    simpa using this⟩
  clear hdh
  apply join
  · intro key
    refine turn_call (f := 31) (args := #[.int .u64 (a3 : Int)]) rfl rfl rfl Tryd.func31 (by kernel_rfl) rfl (by simp only [List.map_toArray, List.map_cons, List.map_nil]; rfl) ?_
    refine (vals_calls wd a3 ha3l).mono ?_
    rintro e w3 ⟨⟨cs3, rfl, hc3⟩, hb3⟩
    have HB3 : Fact (Below (w.heap.size + 3) w1 w3) := ⟨HBd.out.trans (hb3.mono (by rw [HSd.out]; exact Nat.le_refl _))⟩
    have HS3 : Fact (w.heap.size + 3 ≤ w3.heap.size) := ⟨by have := HSd.out; have := hb3.size; omega⟩
    have HBU := Fact.mk (HBUg.out cs3 hc3.out)
    clear hb3 hc3
    refine ⟨_, rfl, HB3.out, ?_⟩
    simp only [List.getElem_toArray, List.getElem_cons_succ, List.getElem_cons_zero, Act.put, List.setIfInBounds_toArray, List.set_cons_succ, List.set_cons_zero]
    refine plan_tell rfl rfl (v := .agg dh) (fun W hS => HdKit.exec_build rfl (by simp only [List.map_toArray, List.map_cons, List.map_nil]; rfl) HBU.out) ?_
    simp only [List.getElem_toArray, List.getElem_cons_succ, List.getElem_cons_zero, Act.put, List.setIfInBounds_toArray, List.set_cons_succ, List.set_cons_zero]
    have HA4 : Fact ((w3.alloc (.cells HdKit.zHdA 54)).heap[w3.heap.size]? = some (.cells HdKit.zHdA 54 (0, 0))) := ⟨heap_alloc_new _ _⟩
    have HX : Fact (Below (w.heap.size + 3) w1 (w3.alloc (.cells dh 54)) ∧ (w3.alloc (.cells dh 54)).heap[w3.heap.size]? = some (.cells dh 54 (0, 0)) ∧ w3.heap.size < (w3.alloc (.cells dh 54)).heap.size ∧ w.heap.size + 3 ≤ w3.heap.size) := ⟨HB3.out.alloc HS3.out _, heap_alloc_new _ _, by simp, HS3.out⟩
    refine turn_do rfl rfl (ShaB.exec_alloc rfl (HdKit.alloc_hd _)) (HB3.out.alloc HS3.out _) ?_
    simp only [List.getElem_toArray, List.getElem_cons_succ, List.getElem_cons_zero, Act.put, List.setIfInBounds_toArray, List.set_cons_succ, List.set_cons_zero]
    refine turn_mute rfl rfl (exec_storeRow (g := w3.heap.size) (old := HdKit.zHdA) (cells := dh) rfl rfl rfl HA4.out HDI.out HDZ.out HD1.out) (by rw [World.setRow_alloc_new]; exact HX.out.1) ?_
    rw [World.setRow_alloc_new]
    simp only [List.getElem_toArray, List.getElem_cons_succ, List.getElem_cons_zero, Act.put, List.setIfInBounds_toArray, List.set_cons_succ, List.set_cons_zero]
    clear HA4 HB3 HS3 HBU
    generalize w3.heap.size = hb at HX ⊢
    generalize w3.alloc (.cells dh 54) = w5 at HX ⊢
    unfold wpPlan
    revert HX
    revert w5
    revert hb
    revert cs3
    exact key
  · intro key
    have HBx : Fact (Below (w.heap.size + 3) w1 (wd.alloc (.cells HdKit.zHdA 54))) := ⟨HBd.out.alloc (by rw [HSd.out]; exact Nat.le_refl _) _⟩
    have HAx : Fact ((wd.alloc (.cells HdKit.zHdA 54)).heap[wd.heap.size]? = some (.cells HdKit.zHdA 54 (0, 0))) := ⟨heap_alloc_new _ _⟩
    have HZx : Fact (wd.heap.size < (wd.alloc (.cells HdKit.zHdA 54)).heap.size ∧ w.heap.size + 3 ≤ wd.heap.size) := ⟨by simp, by rw [HSd.out]; exact Nat.le_refl _⟩
    refine turn_do rfl rfl (ShaB.exec_alloc rfl (HdKit.alloc_hd _)) HBx.out ?_
    simp only [List.getElem_toArray, List.getElem_cons_succ, List.getElem_cons_zero, Act.put, List.setIfInBounds_toArray, List.set_cons_succ, List.set_cons_zero]
    generalize wd.alloc (.cells HdKit.zHdA 54) = wx at HBx HAx HZx ⊢
    generalize wd.heap.size = hb at HAx HZx ⊢
    refine turn_call (f := 31) (args := #[.int .u64 (a3 : Int)]) rfl rfl rfl Tryd.func31 (by kernel_rfl) rfl (by simp only [List.map_toArray, List.map_cons, List.map_nil]; rfl) ?_
    refine (vals_calls wx a3 ha3l).mono ?_
    rintro e w3 ⟨⟨cs3, rfl, hc3⟩, hb3⟩
    have HB3 : Fact (Below (w.heap.size + 3) w1 w3) := ⟨HBx.out.trans (hb3.mono (by have := HZx.out; omega))⟩
    have HA4 : Fact (w3.heap[hb]? = some (.cells HdKit.zHdA 54 (0, 0))) := ⟨(hb3.block _ HZx.out.1).trans HAx.out⟩
    have HBU := Fact.mk (HBUg.out cs3 hc3.out)
    have hbs := HZx.out.2
    clear hb3 hc3 HAx HBx
    refine ⟨_, rfl, HB3.out, ?_⟩
    simp only [List.getElem_toArray, List.getElem_cons_succ, List.getElem_cons_zero, Act.put, List.setIfInBounds_toArray, List.set_cons_succ, List.set_cons_zero]
    refine plan_tell rfl rfl (v := .agg dh) (fun W hS => HdKit.exec_build rfl (by simp only [List.map_toArray, List.map_cons, List.map_nil]; rfl) HBU.out) ?_
    simp only [List.getElem_toArray, List.getElem_cons_succ, List.getElem_cons_zero, Act.put, List.setIfInBounds_toArray, List.set_cons_succ, List.set_cons_zero]
    have HR5 : Fact ((w3.setRow hb dh).heap[hb]? = some (.cells dh 54 (0, 0))) := ⟨setRow_heap _ _ _ _ _ _ HA4.out⟩
    have HX : Fact (Below (w.heap.size + 3) w1 (w3.setRow hb dh) ∧ (w3.setRow hb dh).heap[hb]? = some (.cells dh 54 (0, 0)) ∧ hb < (w3.setRow hb dh).heap.size ∧ w.heap.size + 3 ≤ hb) := ⟨below_setRow HB3.out hbs _, HR5.out, (Array.getElem?_eq_some_iff.1 HR5.out).1, hbs⟩
    refine turn_mute rfl rfl (exec_storeRow (g := hb) (old := HdKit.zHdA) (cells := dh) rfl rfl rfl HA4.out HDI.out HDZ.out HD1.out) HX.out.1 ?_
    simp only [List.getElem_toArray, List.getElem_cons_succ, List.getElem_cons_zero, Act.put, List.setIfInBounds_toArray, List.set_cons_succ, List.set_cons_zero]
    clear HA4 HB3 HBU HR5
    generalize w3.setRow hb dh = w5 at HX ⊢
    unfold wpPlan
    clear hbs HZx
    revert HX
    revert w5
    revert hb
    revert cs3
    exact key
  intro cs3 hb w5 HX
  have HB5 := Fact.mk HX.out.1
  have HR5 := Fact.mk HX.out.2.1
  have HS5 := Fact.mk HX.out.2.2.1
  have hb3s := HX.out.2.2.2
  clear HX HBUg HBd HSd
  have HW5 : Fact (Below w.heap.size w w5) := ⟨HB1.out.trans (HB5.out.mono (by omega))⟩
  have q1 := (HPA.out w5 HB5.out).1
  by_cases e1 : a.wh % 12 = 1
  · have t12 : ((a.wh : Int)).tmod 12 = 1 := by rw [Int.tmod_eq_emod_of_nonneg (by omega)]; omega
    have m12 : (a.wh : Int) % 12 = 1 := by omega
    have HU : Fact (fol1 l a = { fol0 l a with ht := a.h.ht }) := ⟨by unfold fol1; rw [if_pos e1]⟩
    have HE : Fact (folH l a = { fol1 l a with sel := shaL (sealB (fol1 l a)) }) := ⟨by unfold folH; rw [if_neg (by omega)]⟩
    clear e1
    obtain ⟨c6, hc6⟩ : ∃ c6 : Array Value, c6 = dh.setIfInBounds 0 (.int .u64 (a.h.ht : Int)) := ⟨_, rfl⟩
    have HC6 : Fact (c6.toList = hdC (fol1 l a)) := ⟨by rw [hc6, HU.out]; exact set_ht HDH.out a.h.ht⟩
    have HR6 : Fact ((w5.setCell ⟨hb, 0, none⟩ (.int .u64 (a.h.ht : Int))).heap[hb]? = some (.cells c6 54 (0, 0))) := ⟨by rw [hc6]; exact row_set _ HR5.out⟩
    have HB6 : Fact (Below (w.heap.size + 3) w1 (w5.setCell ⟨hb, 0, none⟩ (.int .u64 (a.h.ht : Int)))) := ⟨HB5.out.setCell (p := ⟨hb, _, none⟩) (by show _ ≤ hb; omega) _⟩
    have HS6 : Fact (hb < (w5.setCell ⟨hb, 0, none⟩ (.int .u64 (a.h.ht : Int))).heap.size) := ⟨by simp; exact HS5.out⟩
    have HC6I : Fact ((Tryd.prog.info? 54).map (·.size) = some c6.size) := ⟨HdKit.hd_i (by rw [← Array.length_toList, HC6.out, HdKit.hdC_len HF1.out])⟩
    have z1 := (HPA.out w5 HB5.out).2.1
    have z3 : w5.cell? ⟨hb, 0, none⟩ = some (.int .u64 ((fol0 l a).ht : Int)) := (hd_parts HF0.out HDH.out HR5.out).1
    have z4 : w5.frozen? ⟨hb, 0, none⟩ = false := row_free HR5.out
    clear hc6
    go_wp2_with (first
      | (refine wpList_load_row rfl 54 (.tmp 5) rfl hb rfl 54 c6 (0, 0) _ HR6.out Tryd.underlying54 rfl HC6I.out ?_)
      | (go_at_call 32; fail))
    generalize w5.setCell ⟨hb, 0, none⟩ (.int .u64 (a.h.ht : Int)) = w6 at HR6 HB6 HS6 ⊢
    have HW6 : Fact (Below w.heap.size w w6) := ⟨HB1.out.trans (HB6.out.mono (by omega))⟩
    refine (RSeal_calls w6 (fol1 l a) HF1.out c6 HC6.out (laidR_move HG.out HW6.out HW.out) (Nat.lt_of_lt_of_le HW.out HW6.out.size)).mono ?_
    rintro e w7 ⟨⟨ds, rfl, hds⟩, hb7⟩
    have HDS := Fact.mk hds.out
    have HB7 : Fact (Below (w.heap.size + 3) w1 w7) := ⟨HB6.out.trans (hb7.mono (by have := HS6.out; omega))⟩
    have HR7 : Fact (w7.heap[hb]? = some (.cells c6 54 (0, 0))) := ⟨(hb7.block _ HS6.out).trans HR6.out⟩
    clear hb7 hds HR6 HB6 HS6 HW6
    have HT7 : Fact (w7.there hb 98 ds.size) := ⟨by rw [bytes_size HDS.out (sha_len _)]; exact there_row HR7.out (by rw [← Array.length_toList, HC6.out, HdKit.hdC_len HF1.out]) (by decide)⟩
    have HI7 : Fact ((Tryd.prog.info? 52).map (·.size) = some ds.size) := ⟨hash_i (bytes_size HDS.out (sha_len _))⟩
    have HC8 : Fact ((setFrom c6 98 ds.toList).toList = hdC { fol1 l a with sel := shaL (sealB (fol1 l a)) }) := ⟨by rw [HDS.out]; exact hdC_seal HF1.out c6 HC6.out _ (sha_len _)⟩
    have HR8 : Fact ((w7.setCells hb 98 ds.toList).heap[hb]? = some (.cells (setFrom c6 98 ds.toList) 54 (0, 0))) := ⟨row_setCells _ _ _ _ HR7.out⟩
    have HB8 : Fact (Below (w.heap.size + 3) w1 (w7.setCells hb 98 ds.toList)) := ⟨below_setCells _ _ HB7.out (by omega)⟩
    have q8 := (HPA.out _ HB8.out).1
    have q7 := (HPA.out _ HB7.out).1
    obtain ⟨c8, hc8⟩ : ∃ c8, setFrom c6 98 ds.toList = c8 := ⟨_, rfl⟩
    rw [hc8] at HC8 HR8
    clear hc8
    have HRZ8 : Fact ((w7.setCells hb 98 ds.toList).heap[w.heap.size + 2]? = some (.cells HdKit.zHdA 54 (0, 0))) := ⟨(HB8.out.block _ (by omega)).trans HRZ1.out⟩
    have HCI : Fact ((Tryd.prog.info? 54).map (·.size) = some c8.size) := ⟨HdKit.hd_i (by rw [← Array.length_toList, HC8.out, HdKit.hdC_len ((sel_ok HF1.out (sha_len _)))])⟩
    have HCZ : Fact (HdKit.zHdA.size = c8.size) := ⟨by rw [show c8.size = 130 by rw [← Array.length_toList, HC8.out, HdKit.hdC_len ((sel_ok HF1.out (sha_len _)))]]; rfl⟩
    have HC1 : Fact (c8.all (·.oneCell') = true) := ⟨by
      have := HdKit.hdC_one ({ fol1 l a with sel := shaL (sealB (fol1 l a)) })
      rw [← HC8.out] at this
      simpa using this⟩
    go_wp2_with (first
      | (refine wpList_store_mid rfl 52 (.tmp 70) (.tmp 69) rfl hb 98 ds rfl rfl HT7.out HI7.out (bytes_one HDS.out) ?_)
      | (refine wpList_load_row rfl 54 (.tmp 5) rfl hb rfl 54 c8 (0, 0) _ HR8.out Tryd.underlying54 rfl HCI.out ?_)
      | (refine wpList_store_row rfl 54 (.tmp 4) (.tmp 79) rfl (w.heap.size + 2) c8 rfl rfl 54 HdKit.zHdA HRZ8.out HCI.out HCZ.out HC1.out ?_))
    refine bodyPost_ret (results_cell_row (fn := Tryd.f38) rfl _ _ (w.heap.size + 2) 54 c8 (0, 0) _ rfl (setRow_heap _ _ _ _ _ _ HRZ8.out) Tryd.underlying54 rfl HCI.out) rfl ?_
    exact ⟨⟨_, rfl, ⟨by rw [HC8.out, HE.out]⟩⟩, below_setRow (HB1.out.trans (HB8.out.mono (by omega))) (by omega) _⟩
  by_cases e2 : a.wh % 12 = 2
  · have t12 : ((a.wh : Int)).tmod 12 = 2 := by rw [Int.tmod_eq_emod_of_nonneg (by omega)]; omega
    have m12 : (a.wh : Int) % 12 = 2 := by omega
    have HU : Fact (fol1 l a = { fol0 l a with tm := a.h.tm }) := ⟨by unfold fol1; rw [if_neg (by omega)]; rw [if_pos e2]⟩
    have HE : Fact (folH l a = { fol1 l a with sel := shaL (sealB (fol1 l a)) }) := ⟨by unfold folH; rw [if_neg (by omega)]⟩
    clear e1 e2
    obtain ⟨c6, hc6⟩ : ∃ c6 : Array Value, c6 = dh.setIfInBounds 1 (.int .u64 (a.h.tm : Int)) := ⟨_, rfl⟩
    have HC6 : Fact (c6.toList = hdC (fol1 l a)) := ⟨by rw [hc6, HU.out]; exact set_tm HDH.out a.h.tm⟩
    have HR6 : Fact ((w5.setCell ⟨hb, 1, none⟩ (.int .u64 (a.h.tm : Int))).heap[hb]? = some (.cells c6 54 (0, 0))) := ⟨by rw [hc6]; exact row_set _ HR5.out⟩
    have HB6 : Fact (Below (w.heap.size + 3) w1 (w5.setCell ⟨hb, 1, none⟩ (.int .u64 (a.h.tm : Int)))) := ⟨HB5.out.setCell (p := ⟨hb, _, none⟩) (by show _ ≤ hb; omega) _⟩
    have HS6 : Fact (hb < (w5.setCell ⟨hb, 1, none⟩ (.int .u64 (a.h.tm : Int))).heap.size) := ⟨by simp; exact HS5.out⟩
    have HC6I : Fact ((Tryd.prog.info? 54).map (·.size) = some c6.size) := ⟨HdKit.hd_i (by rw [← Array.length_toList, HC6.out, HdKit.hdC_len HF1.out])⟩
    have z1 := (HPA.out w5 HB5.out).2.2.1
    have z3 : w5.cell? ⟨hb, 1, none⟩ = some (.int .u64 ((fol0 l a).tm : Int)) := (hd_parts HF0.out HDH.out HR5.out).2.1
    have z4 : w5.frozen? ⟨hb, 1, none⟩ = false := row_free HR5.out
    clear hc6
    go_wp2_with (first
      | (refine wpList_load_row rfl 54 (.tmp 5) rfl hb rfl 54 c6 (0, 0) _ HR6.out Tryd.underlying54 rfl HC6I.out ?_)
      | (go_at_call 32; fail))
    generalize w5.setCell ⟨hb, 1, none⟩ (.int .u64 (a.h.tm : Int)) = w6 at HR6 HB6 HS6 ⊢
    have HW6 : Fact (Below w.heap.size w w6) := ⟨HB1.out.trans (HB6.out.mono (by omega))⟩
    refine (RSeal_calls w6 (fol1 l a) HF1.out c6 HC6.out (laidR_move HG.out HW6.out HW.out) (Nat.lt_of_lt_of_le HW.out HW6.out.size)).mono ?_
    rintro e w7 ⟨⟨ds, rfl, hds⟩, hb7⟩
    have HDS := Fact.mk hds.out
    have HB7 : Fact (Below (w.heap.size + 3) w1 w7) := ⟨HB6.out.trans (hb7.mono (by have := HS6.out; omega))⟩
    have HR7 : Fact (w7.heap[hb]? = some (.cells c6 54 (0, 0))) := ⟨(hb7.block _ HS6.out).trans HR6.out⟩
    clear hb7 hds HR6 HB6 HS6 HW6
    have HT7 : Fact (w7.there hb 98 ds.size) := ⟨by rw [bytes_size HDS.out (sha_len _)]; exact there_row HR7.out (by rw [← Array.length_toList, HC6.out, HdKit.hdC_len HF1.out]) (by decide)⟩
    have HI7 : Fact ((Tryd.prog.info? 52).map (·.size) = some ds.size) := ⟨hash_i (bytes_size HDS.out (sha_len _))⟩
    have HC8 : Fact ((setFrom c6 98 ds.toList).toList = hdC { fol1 l a with sel := shaL (sealB (fol1 l a)) }) := ⟨by rw [HDS.out]; exact hdC_seal HF1.out c6 HC6.out _ (sha_len _)⟩
    have HR8 : Fact ((w7.setCells hb 98 ds.toList).heap[hb]? = some (.cells (setFrom c6 98 ds.toList) 54 (0, 0))) := ⟨row_setCells _ _ _ _ HR7.out⟩
    have HB8 : Fact (Below (w.heap.size + 3) w1 (w7.setCells hb 98 ds.toList)) := ⟨below_setCells _ _ HB7.out (by omega)⟩
    have q8 := (HPA.out _ HB8.out).1
    have q7 := (HPA.out _ HB7.out).1
    obtain ⟨c8, hc8⟩ : ∃ c8, setFrom c6 98 ds.toList = c8 := ⟨_, rfl⟩
    rw [hc8] at HC8 HR8
    clear hc8
    have HRZ8 : Fact ((w7.setCells hb 98 ds.toList).heap[w.heap.size + 2]? = some (.cells HdKit.zHdA 54 (0, 0))) := ⟨(HB8.out.block _ (by omega)).trans HRZ1.out⟩
    have HCI : Fact ((Tryd.prog.info? 54).map (·.size) = some c8.size) := ⟨HdKit.hd_i (by rw [← Array.length_toList, HC8.out, HdKit.hdC_len ((sel_ok HF1.out (sha_len _)))])⟩
    have HCZ : Fact (HdKit.zHdA.size = c8.size) := ⟨by rw [show c8.size = 130 by rw [← Array.length_toList, HC8.out, HdKit.hdC_len ((sel_ok HF1.out (sha_len _)))]]; rfl⟩
    have HC1 : Fact (c8.all (·.oneCell') = true) := ⟨by
      have := HdKit.hdC_one ({ fol1 l a with sel := shaL (sealB (fol1 l a)) })
      rw [← HC8.out] at this
      simpa using this⟩
    go_wp2_with (first
      | (refine wpList_store_mid rfl 52 (.tmp 70) (.tmp 69) rfl hb 98 ds rfl rfl HT7.out HI7.out (bytes_one HDS.out) ?_)
      | (refine wpList_load_row rfl 54 (.tmp 5) rfl hb rfl 54 c8 (0, 0) _ HR8.out Tryd.underlying54 rfl HCI.out ?_)
      | (refine wpList_store_row rfl 54 (.tmp 4) (.tmp 79) rfl (w.heap.size + 2) c8 rfl rfl 54 HdKit.zHdA HRZ8.out HCI.out HCZ.out HC1.out ?_))
    refine bodyPost_ret (results_cell_row (fn := Tryd.f38) rfl _ _ (w.heap.size + 2) 54 c8 (0, 0) _ rfl (setRow_heap _ _ _ _ _ _ HRZ8.out) Tryd.underlying54 rfl HCI.out) rfl ?_
    exact ⟨⟨_, rfl, ⟨by rw [HC8.out, HE.out]⟩⟩, below_setRow (HB1.out.trans (HB8.out.mono (by omega))) (by omega) _⟩
  by_cases e3 : a.wh % 12 = 3
  · have t12 : ((a.wh : Int)).tmod 12 = 3 := by rw [Int.tmod_eq_emod_of_nonneg (by omega)]; omega
    have m12 : (a.wh : Int) % 12 = 3 := by omega
    have HU : Fact (fol1 l a = { fol0 l a with vals := a.h.vals }) := ⟨by unfold fol1; rw [if_neg (by omega)]; rw [if_neg (by omega)]; rw [if_pos e3]⟩
    have HE : Fact (folH l a = { fol1 l a with sel := shaL (sealB (fol1 l a)) }) := ⟨by unfold folH; rw [if_neg (by omega)]⟩
    clear e1 e2 e3
    obtain ⟨c6, hc6⟩ : ∃ c6 : Array Value, c6 = setFrom dh 34 cv.toList := ⟨_, rfl⟩
    have HC6 : Fact (c6.toList = hdC (fol1 l a)) := ⟨by rw [hc6, HU.out, HCV.out]; exact hdC_vals HF0.out dh HDH.out _ HA.out.h.vals⟩
    have HR6 : Fact ((w5.setCells hb 34 cv.toList).heap[hb]? = some (.cells c6 54 (0, 0))) := ⟨by rw [hc6]; exact row_setCells _ _ _ _ HR5.out⟩
    have HB6 : Fact (Below (w.heap.size + 3) w1 (w5.setCells hb 34 cv.toList)) := ⟨below_setCells _ _ HB5.out (by omega)⟩
    have HS6 : Fact (hb < (w5.setCells hb 34 cv.toList).heap.size) := ⟨by rw [size_setCells']; exact HS5.out⟩
    have HC6I : Fact ((Tryd.prog.info? 54).map (·.size) = some c6.size) := ⟨HdKit.hd_i (by rw [← Array.length_toList, HC6.out, HdKit.hdC_len HF1.out])⟩
    have HT3 : Fact (w5.there hb 34 cv.size) := ⟨by rw [bytes_size HCV.out HA.out.h.vals]; exact there_row HR5.out (by rw [← Array.length_toList, HDH.out, HdKit.hdC_len HF0.out]) (by decide)⟩
    have HI3 : Fact ((Tryd.prog.info? 52).map (·.size) = some cv.size) := ⟨hash_i (bytes_size HCV.out HA.out.h.vals)⟩
    have HL3 := Fact.mk (HLV.out w5 HB5.out)
    clear hc6
    go_wp2_with (first
      | (refine wpList_ok rfl (exec_loadAt rfl rfl HL3.out) ?_)
      | (refine wpList_store_mid rfl 52 (.tmp 50) (.tmp 49) rfl hb 34 cv rfl rfl HT3.out HI3.out (bytes_one HCV.out) ?_)
      | (refine wpList_load_row rfl 54 (.tmp 5) rfl hb rfl 54 c6 (0, 0) _ HR6.out Tryd.underlying54 rfl HC6I.out ?_)
      | (go_at_call 32; fail))
    generalize w5.setCells hb 34 cv.toList = w6 at HR6 HB6 HS6 ⊢
    have HW6 : Fact (Below w.heap.size w w6) := ⟨HB1.out.trans (HB6.out.mono (by omega))⟩
    refine (RSeal_calls w6 (fol1 l a) HF1.out c6 HC6.out (laidR_move HG.out HW6.out HW.out) (Nat.lt_of_lt_of_le HW.out HW6.out.size)).mono ?_
    rintro e w7 ⟨⟨ds, rfl, hds⟩, hb7⟩
    have HDS := Fact.mk hds.out
    have HB7 : Fact (Below (w.heap.size + 3) w1 w7) := ⟨HB6.out.trans (hb7.mono (by have := HS6.out; omega))⟩
    have HR7 : Fact (w7.heap[hb]? = some (.cells c6 54 (0, 0))) := ⟨(hb7.block _ HS6.out).trans HR6.out⟩
    clear hb7 hds HR6 HB6 HS6 HW6
    have HT7 : Fact (w7.there hb 98 ds.size) := ⟨by rw [bytes_size HDS.out (sha_len _)]; exact there_row HR7.out (by rw [← Array.length_toList, HC6.out, HdKit.hdC_len HF1.out]) (by decide)⟩
    have HI7 : Fact ((Tryd.prog.info? 52).map (·.size) = some ds.size) := ⟨hash_i (bytes_size HDS.out (sha_len _))⟩
    have HC8 : Fact ((setFrom c6 98 ds.toList).toList = hdC { fol1 l a with sel := shaL (sealB (fol1 l a)) }) := ⟨by rw [HDS.out]; exact hdC_seal HF1.out c6 HC6.out _ (sha_len _)⟩
    have HR8 : Fact ((w7.setCells hb 98 ds.toList).heap[hb]? = some (.cells (setFrom c6 98 ds.toList) 54 (0, 0))) := ⟨row_setCells _ _ _ _ HR7.out⟩
    have HB8 : Fact (Below (w.heap.size + 3) w1 (w7.setCells hb 98 ds.toList)) := ⟨below_setCells _ _ HB7.out (by omega)⟩
    have q8 := (HPA.out _ HB8.out).1
    have q7 := (HPA.out _ HB7.out).1
    obtain ⟨c8, hc8⟩ : ∃ c8, setFrom c6 98 ds.toList = c8 := ⟨_, rfl⟩
    rw [hc8] at HC8 HR8
    clear hc8
    have HRZ8 : Fact ((w7.setCells hb 98 ds.toList).heap[w.heap.size + 2]? = some (.cells HdKit.zHdA 54 (0, 0))) := ⟨(HB8.out.block _ (by omega)).trans HRZ1.out⟩
    have HCI : Fact ((Tryd.prog.info? 54).map (·.size) = some c8.size) := ⟨HdKit.hd_i (by rw [← Array.length_toList, HC8.out, HdKit.hdC_len ((sel_ok HF1.out (sha_len _)))])⟩
    have HCZ : Fact (HdKit.zHdA.size = c8.size) := ⟨by rw [show c8.size = 130 by rw [← Array.length_toList, HC8.out, HdKit.hdC_len ((sel_ok HF1.out (sha_len _)))]]; rfl⟩
    have HC1 : Fact (c8.all (·.oneCell') = true) := ⟨by
      have := HdKit.hdC_one ({ fol1 l a with sel := shaL (sealB (fol1 l a)) })
      rw [← HC8.out] at this
      simpa using this⟩
    go_wp2_with (first
      | (refine wpList_store_mid rfl 52 (.tmp 70) (.tmp 69) rfl hb 98 ds rfl rfl HT7.out HI7.out (bytes_one HDS.out) ?_)
      | (refine wpList_load_row rfl 54 (.tmp 5) rfl hb rfl 54 c8 (0, 0) _ HR8.out Tryd.underlying54 rfl HCI.out ?_)
      | (refine wpList_store_row rfl 54 (.tmp 4) (.tmp 79) rfl (w.heap.size + 2) c8 rfl rfl 54 HdKit.zHdA HRZ8.out HCI.out HCZ.out HC1.out ?_))
    refine bodyPost_ret (results_cell_row (fn := Tryd.f38) rfl _ _ (w.heap.size + 2) 54 c8 (0, 0) _ rfl (setRow_heap _ _ _ _ _ _ HRZ8.out) Tryd.underlying54 rfl HCI.out) rfl ?_
    exact ⟨⟨_, rfl, ⟨by rw [HC8.out, HE.out]⟩⟩, below_setRow (HB1.out.trans (HB8.out.mono (by omega))) (by omega) _⟩
  by_cases e4 : a.wh % 12 = 4
  · have t12 : ((a.wh : Int)).tmod 12 = 4 := by rw [Int.tmod_eq_emod_of_nonneg (by omega)]; omega
    have m12 : (a.wh : Int) % 12 = 4 := by omega
    have HU : Fact (fol1 l a = { fol0 l a with ht := l.ht - min (a.n % 4) l.ht }) := ⟨by unfold fol1; rw [if_neg (by omega)]; rw [if_neg (by omega)]; rw [if_neg (by omega)]; rw [if_pos e4]⟩
    have HE : Fact (folH l a = { fol1 l a with sel := shaL (sealB (fol1 l a)) }) := ⟨by unfold folH; rw [if_neg (by omega)]⟩
    clear e1 e2 e3 e4
    obtain ⟨n4, hn4⟩ : ∃ n4, a.n % 4 = n4 := ⟨_, rfl⟩
    have h4a : ((a.n : Int)).tmod 4 = (n4 : Int) := by rw [Int.tmod_eq_emod_of_nonneg (by omega)]; omega
    have h4b : (a.n : Int) % 4 = (n4 : Int) := by omega
    obtain ⟨x4, hx4⟩ : ∃ x4, l.ht - min n4 l.ht = x4 := ⟨_, rfl⟩
    obtain ⟨y4, hy4⟩ : ∃ y4, min n4 l.ht = y4 := ⟨_, rfl⟩
    have h4c : min (n4 : Int) (l.ht : Int) = (y4 : Int) := by omega
    have h4f : (if (l.ht : Int) < (n4 : Int) then (l.ht : Int) else (n4 : Int)) = (y4 : Int) := by split <;> omega
    have h4g : (if l.ht < n4 then (l.ht : Int) else (n4 : Int)) = (y4 : Int) := by split <;> omega
    have h4d : IntKind.u64.wrap ((l.ht : Int) - (y4 : Int)) = (x4 : Int) := by rw [IntKind.wrap_u64]; omega
    have h4e : (l.ht : Int) - (y4 : Int) = (x4 : Int) := by omega
    have HX4 := Fact.mk (show l.ht - min (a.n % 4) l.ht = x4 by rw [hn4, hx4])
    clear hn4 hx4 hy4
    obtain ⟨c6, hc6⟩ : ∃ c6 : Array Value, c6 = dh.setIfInBounds 0 (.int .u64 (x4 : Int)) := ⟨_, rfl⟩
    have HC6 : Fact (c6.toList = hdC (fol1 l a)) := ⟨by rw [hc6, HU.out, HX4.out]; exact set_ht HDH.out x4⟩
    have HR6 : Fact ((w5.setCell ⟨hb, 0, none⟩ (.int .u64 (x4 : Int))).heap[hb]? = some (.cells c6 54 (0, 0))) := ⟨by rw [hc6]; exact row_set _ HR5.out⟩
    have HB6 : Fact (Below (w.heap.size + 3) w1 (w5.setCell ⟨hb, 0, none⟩ (.int .u64 (x4 : Int)))) := ⟨HB5.out.setCell (p := ⟨hb, _, none⟩) (by show _ ≤ hb; omega) _⟩
    have HS6 : Fact (hb < (w5.setCell ⟨hb, 0, none⟩ (.int .u64 (x4 : Int))).heap.size) := ⟨by simp; exact HS5.out⟩
    have HC6I : Fact ((Tryd.prog.info? 54).map (·.size) = some c6.size) := ⟨HdKit.hd_i (by rw [← Array.length_toList, HC6.out, HdKit.hdC_len HF1.out])⟩
    have z1 := (HPL.out w5 HB5.out).1
    have z2 := (HPA.out w5 HB5.out).2.2.2.2.2.2
    have z3 : w5.cell? ⟨hb, 0, none⟩ = some (.int .u64 ((fol0 l a).ht : Int)) := (hd_parts HF0.out HDH.out HR5.out).1
    have z4 : w5.frozen? ⟨hb, 0, none⟩ = false := row_free HR5.out
    clear hc6
    go_wp2_with (first
      | (refine wpList_load_row rfl 54 (.tmp 5) rfl hb rfl 54 c6 (0, 0) _ HR6.out Tryd.underlying54 rfl HC6I.out ?_)
      | (go_at_call 32; fail))
    generalize w5.setCell ⟨hb, 0, none⟩ (.int .u64 (x4 : Int)) = w6 at HR6 HB6 HS6 ⊢
    have HW6 : Fact (Below w.heap.size w w6) := ⟨HB1.out.trans (HB6.out.mono (by omega))⟩
    refine (RSeal_calls w6 (fol1 l a) HF1.out c6 HC6.out (laidR_move HG.out HW6.out HW.out) (Nat.lt_of_lt_of_le HW.out HW6.out.size)).mono ?_
    rintro e w7 ⟨⟨ds, rfl, hds⟩, hb7⟩
    have HDS := Fact.mk hds.out
    have HB7 : Fact (Below (w.heap.size + 3) w1 w7) := ⟨HB6.out.trans (hb7.mono (by have := HS6.out; omega))⟩
    have HR7 : Fact (w7.heap[hb]? = some (.cells c6 54 (0, 0))) := ⟨(hb7.block _ HS6.out).trans HR6.out⟩
    clear hb7 hds HR6 HB6 HS6 HW6
    have HT7 : Fact (w7.there hb 98 ds.size) := ⟨by rw [bytes_size HDS.out (sha_len _)]; exact there_row HR7.out (by rw [← Array.length_toList, HC6.out, HdKit.hdC_len HF1.out]) (by decide)⟩
    have HI7 : Fact ((Tryd.prog.info? 52).map (·.size) = some ds.size) := ⟨hash_i (bytes_size HDS.out (sha_len _))⟩
    have HC8 : Fact ((setFrom c6 98 ds.toList).toList = hdC { fol1 l a with sel := shaL (sealB (fol1 l a)) }) := ⟨by rw [HDS.out]; exact hdC_seal HF1.out c6 HC6.out _ (sha_len _)⟩
    have HR8 : Fact ((w7.setCells hb 98 ds.toList).heap[hb]? = some (.cells (setFrom c6 98 ds.toList) 54 (0, 0))) := ⟨row_setCells _ _ _ _ HR7.out⟩
    have HB8 : Fact (Below (w.heap.size + 3) w1 (w7.setCells hb 98 ds.toList)) := ⟨below_setCells _ _ HB7.out (by omega)⟩
    have q8 := (HPA.out _ HB8.out).1
    have q7 := (HPA.out _ HB7.out).1
    obtain ⟨c8, hc8⟩ : ∃ c8, setFrom c6 98 ds.toList = c8 := ⟨_, rfl⟩
    rw [hc8] at HC8 HR8
    clear hc8
    have HRZ8 : Fact ((w7.setCells hb 98 ds.toList).heap[w.heap.size + 2]? = some (.cells HdKit.zHdA 54 (0, 0))) := ⟨(HB8.out.block _ (by omega)).trans HRZ1.out⟩
    have HCI : Fact ((Tryd.prog.info? 54).map (·.size) = some c8.size) := ⟨HdKit.hd_i (by rw [← Array.length_toList, HC8.out, HdKit.hdC_len ((sel_ok HF1.out (sha_len _)))])⟩
    have HCZ : Fact (HdKit.zHdA.size = c8.size) := ⟨by rw [show c8.size = 130 by rw [← Array.length_toList, HC8.out, HdKit.hdC_len ((sel_ok HF1.out (sha_len _)))]]; rfl⟩
    have HC1 : Fact (c8.all (·.oneCell') = true) := ⟨by
      have := HdKit.hdC_one ({ fol1 l a with sel := shaL (sealB (fol1 l a)) })
      rw [← HC8.out] at this
      simpa using this⟩
    go_wp2_with (first
      | (refine wpList_store_mid rfl 52 (.tmp 70) (.tmp 69) rfl hb 98 ds rfl rfl HT7.out HI7.out (bytes_one HDS.out) ?_)
      | (refine wpList_load_row rfl 54 (.tmp 5) rfl hb rfl 54 c8 (0, 0) _ HR8.out Tryd.underlying54 rfl HCI.out ?_)
      | (refine wpList_store_row rfl 54 (.tmp 4) (.tmp 79) rfl (w.heap.size + 2) c8 rfl rfl 54 HdKit.zHdA HRZ8.out HCI.out HCZ.out HC1.out ?_))
    refine bodyPost_ret (results_cell_row (fn := Tryd.f38) rfl _ _ (w.heap.size + 2) 54 c8 (0, 0) _ rfl (setRow_heap _ _ _ _ _ _ HRZ8.out) Tryd.underlying54 rfl HCI.out) rfl ?_
    exact ⟨⟨_, rfl, ⟨by rw [HC8.out, HE.out]⟩⟩, below_setRow (HB1.out.trans (HB8.out.mono (by omega))) (by omega) _⟩
  by_cases e5 : a.wh % 12 = 5
  · have t12 : ((a.wh : Int)).tmod 12 = 5 := by rw [Int.tmod_eq_emod_of_nonneg (by omega)]; omega
    have m12 : (a.wh : Int) % 12 = 5 := by omega
    have HU : Fact (fol1 l a = { fol0 l a with tm := l.tm }) := ⟨by unfold fol1; rw [if_neg (by omega)]; rw [if_neg (by omega)]; rw [if_neg (by omega)]; rw [if_neg (by omega)]; rw [if_pos e5]⟩
    have HE : Fact (folH l a = { fol1 l a with sel := shaL (sealB (fol1 l a)) }) := ⟨by unfold folH; rw [if_neg (by omega)]⟩
    clear e1 e2 e3 e4 e5
    obtain ⟨c6, hc6⟩ : ∃ c6 : Array Value, c6 = dh.setIfInBounds 1 (.int .u64 (l.tm : Int)) := ⟨_, rfl⟩
    have HC6 : Fact (c6.toList = hdC (fol1 l a)) := ⟨by rw [hc6, HU.out]; exact set_tm HDH.out l.tm⟩
    have HR6 : Fact ((w5.setCell ⟨hb, 1, none⟩ (.int .u64 (l.tm : Int))).heap[hb]? = some (.cells c6 54 (0, 0))) := ⟨by rw [hc6]; exact row_set _ HR5.out⟩
    have HB6 : Fact (Below (w.heap.size + 3) w1 (w5.setCell ⟨hb, 1, none⟩ (.int .u64 (l.tm : Int)))) := ⟨HB5.out.setCell (p := ⟨hb, _, none⟩) (by show _ ≤ hb; omega) _⟩
    have HS6 : Fact (hb < (w5.setCell ⟨hb, 1, none⟩ (.int .u64 (l.tm : Int))).heap.size) := ⟨by simp; exact HS5.out⟩
    have HC6I : Fact ((Tryd.prog.info? 54).map (·.size) = some c6.size) := ⟨HdKit.hd_i (by rw [← Array.length_toList, HC6.out, HdKit.hdC_len HF1.out])⟩
    have z1 := (HPL.out w5 HB5.out).2.1
    have z3 : w5.cell? ⟨hb, 1, none⟩ = some (.int .u64 ((fol0 l a).tm : Int)) := (hd_parts HF0.out HDH.out HR5.out).2.1
    have z4 : w5.frozen? ⟨hb, 1, none⟩ = false := row_free HR5.out
    clear hc6
    go_wp2_with (first
      | (refine wpList_load_row rfl 54 (.tmp 5) rfl hb rfl 54 c6 (0, 0) _ HR6.out Tryd.underlying54 rfl HC6I.out ?_)
      | (go_at_call 32; fail))
    generalize w5.setCell ⟨hb, 1, none⟩ (.int .u64 (l.tm : Int)) = w6 at HR6 HB6 HS6 ⊢
    have HW6 : Fact (Below w.heap.size w w6) := ⟨HB1.out.trans (HB6.out.mono (by omega))⟩
    refine (RSeal_calls w6 (fol1 l a) HF1.out c6 HC6.out (laidR_move HG.out HW6.out HW.out) (Nat.lt_of_lt_of_le HW.out HW6.out.size)).mono ?_
    rintro e w7 ⟨⟨ds, rfl, hds⟩, hb7⟩
    have HDS := Fact.mk hds.out
    have HB7 : Fact (Below (w.heap.size + 3) w1 w7) := ⟨HB6.out.trans (hb7.mono (by have := HS6.out; omega))⟩
    have HR7 : Fact (w7.heap[hb]? = some (.cells c6 54 (0, 0))) := ⟨(hb7.block _ HS6.out).trans HR6.out⟩
    clear hb7 hds HR6 HB6 HS6 HW6
    have HT7 : Fact (w7.there hb 98 ds.size) := ⟨by rw [bytes_size HDS.out (sha_len _)]; exact there_row HR7.out (by rw [← Array.length_toList, HC6.out, HdKit.hdC_len HF1.out]) (by decide)⟩
    have HI7 : Fact ((Tryd.prog.info? 52).map (·.size) = some ds.size) := ⟨hash_i (bytes_size HDS.out (sha_len _))⟩
    have HC8 : Fact ((setFrom c6 98 ds.toList).toList = hdC { fol1 l a with sel := shaL (sealB (fol1 l a)) }) := ⟨by rw [HDS.out]; exact hdC_seal HF1.out c6 HC6.out _ (sha_len _)⟩
    have HR8 : Fact ((w7.setCells hb 98 ds.toList).heap[hb]? = some (.cells (setFrom c6 98 ds.toList) 54 (0, 0))) := ⟨row_setCells _ _ _ _ HR7.out⟩
    have HB8 : Fact (Below (w.heap.size + 3) w1 (w7.setCells hb 98 ds.toList)) := ⟨below_setCells _ _ HB7.out (by omega)⟩
    have q8 := (HPA.out _ HB8.out).1
    have q7 := (HPA.out _ HB7.out).1
    obtain ⟨c8, hc8⟩ : ∃ c8, setFrom c6 98 ds.toList = c8 := ⟨_, rfl⟩
    rw [hc8] at HC8 HR8
    clear hc8
    have HRZ8 : Fact ((w7.setCells hb 98 ds.toList).heap[w.heap.size + 2]? = some (.cells HdKit.zHdA 54 (0, 0))) := ⟨(HB8.out.block _ (by omega)).trans HRZ1.out⟩
    have HCI : Fact ((Tryd.prog.info? 54).map (·.size) = some c8.size) := ⟨HdKit.hd_i (by rw [← Array.length_toList, HC8.out, HdKit.hdC_len ((sel_ok HF1.out (sha_len _)))])⟩
    have HCZ : Fact (HdKit.zHdA.size = c8.size) := ⟨by rw [show c8.size = 130 by rw [← Array.length_toList, HC8.out, HdKit.hdC_len ((sel_ok HF1.out (sha_len _)))]]; rfl⟩
    have HC1 : Fact (c8.all (·.oneCell') = true) := ⟨by
      have := HdKit.hdC_one ({ fol1 l a with sel := shaL (sealB (fol1 l a)) })
      rw [← HC8.out] at this
      simpa using this⟩
    go_wp2_with (first
      | (refine wpList_store_mid rfl 52 (.tmp 70) (.tmp 69) rfl hb 98 ds rfl rfl HT7.out HI7.out (bytes_one HDS.out) ?_)
      | (refine wpList_load_row rfl 54 (.tmp 5) rfl hb rfl 54 c8 (0, 0) _ HR8.out Tryd.underlying54 rfl HCI.out ?_)
      | (refine wpList_store_row rfl 54 (.tmp 4) (.tmp 79) rfl (w.heap.size + 2) c8 rfl rfl 54 HdKit.zHdA HRZ8.out HCI.out HCZ.out HC1.out ?_))
    refine bodyPost_ret (results_cell_row (fn := Tryd.f38) rfl _ _ (w.heap.size + 2) 54 c8 (0, 0) _ rfl (setRow_heap _ _ _ _ _ _ HRZ8.out) Tryd.underlying54 rfl HCI.out) rfl ?_
    exact ⟨⟨_, rfl, ⟨by rw [HC8.out, HE.out]⟩⟩, below_setRow (HB1.out.trans (HB8.out.mono (by omega))) (by omega) _⟩
  have HU : Fact (fol1 l a = fol0 l a) := ⟨by unfold fol1; rw [if_neg e1, if_neg e2, if_neg e3, if_neg e4, if_neg e5]⟩
  obtain ⟨u, hu⟩ : ∃ u, a.wh % 12 = u := ⟨_, rfl⟩
  have t12 : ((a.wh : Int)).tmod 12 = (u : Int) := by rw [Int.tmod_eq_emod_of_nonneg (by omega)]; omega
  have m12 : (a.wh : Int) % 12 = (u : Int) := by omega
  have u1 : ((u : Int) == 1) = false := by simp; omega
  have u2 : ((u : Int) == 2) = false := by simp; omega
  have u3 : ((u : Int) == 3) = false := by simp; omega
  have u4 : ((u : Int) == 4) = false := by simp; omega
  have u5 : ((u : Int) == 5) = false := by simp; omega
  clear e1 e2 e3 e4 e5
  have HUU := Fact.mk hu
  clear hu
  obtain ⟨c6, hc6⟩ : ∃ c6 : Array Value, c6 = dh := ⟨_, rfl⟩
  have HC6 : Fact (c6.toList = hdC (fol1 l a)) := ⟨by rw [hc6, HU.out]; exact HDH.out⟩
  have HR6 : Fact ((w5).heap[hb]? = some (.cells c6 54 (0, 0))) := ⟨by rw [hc6]; exact HR5.out⟩
  have HB6 : Fact (Below (w.heap.size + 3) w1 (w5)) := ⟨HB5.out⟩
  have HS6 : Fact (hb < (w5).heap.size) := ⟨HS5.out⟩
  have HC6I : Fact ((Tryd.prog.info? 54).map (·.size) = some c6.size) := ⟨HdKit.hd_i (by rw [← Array.length_toList, HC6.out, HdKit.hdC_len HF1.out])⟩
  clear hc6
  go_wp2_with (first
    | (refine wpList_load_row rfl 54 (.tmp 5) rfl hb rfl 54 c6 (0, 0) _ HR6.out Tryd.underlying54 rfl HC6I.out ?_)
    | (go_at_call 32; fail))
  obtain ⟨w6, hw6⟩ : ∃ w6, w5 = w6 := ⟨_, rfl⟩
  rw [hw6] at HR6 HB6 HS6 ⊢
  clear hw6
  have HW6 : Fact (Below w.heap.size w w6) := ⟨HB1.out.trans (HB6.out.mono (by omega))⟩
  refine (RSeal_calls w6 (fol1 l a) HF1.out c6 HC6.out (laidR_move HG.out HW6.out HW.out) (Nat.lt_of_lt_of_le HW.out HW6.out.size)).mono ?_
  rintro e w7 ⟨⟨ds, rfl, hds⟩, hb7⟩
  have HDS := Fact.mk hds.out
  have HB7 : Fact (Below (w.heap.size + 3) w1 w7) := ⟨HB6.out.trans (hb7.mono (by have := HS6.out; omega))⟩
  have HR7 : Fact (w7.heap[hb]? = some (.cells c6 54 (0, 0))) := ⟨(hb7.block _ HS6.out).trans HR6.out⟩
  clear hb7 hds HR6 HB6 HS6 HW6
  have HT7 : Fact (w7.there hb 98 ds.size) := ⟨by rw [bytes_size HDS.out (sha_len _)]; exact there_row HR7.out (by rw [← Array.length_toList, HC6.out, HdKit.hdC_len HF1.out]) (by decide)⟩
  have HI7 : Fact ((Tryd.prog.info? 52).map (·.size) = some ds.size) := ⟨hash_i (bytes_size HDS.out (sha_len _))⟩
  have HC8 : Fact ((setFrom c6 98 ds.toList).toList = hdC { fol1 l a with sel := shaL (sealB (fol1 l a)) }) := ⟨by rw [HDS.out]; exact hdC_seal HF1.out c6 HC6.out _ (sha_len _)⟩
  have HR8 : Fact ((w7.setCells hb 98 ds.toList).heap[hb]? = some (.cells (setFrom c6 98 ds.toList) 54 (0, 0))) := ⟨row_setCells _ _ _ _ HR7.out⟩
  have HB8 : Fact (Below (w.heap.size + 3) w1 (w7.setCells hb 98 ds.toList)) := ⟨below_setCells _ _ HB7.out (by omega)⟩
  have q8 := (HPA.out _ HB8.out).1
  have q7 := (HPA.out _ HB7.out).1
  obtain ⟨c8, hc8⟩ : ∃ c8, setFrom c6 98 ds.toList = c8 := ⟨_, rfl⟩
  rw [hc8] at HC8 HR8
  clear hc8
  have HRZ8 : Fact ((w7.setCells hb 98 ds.toList).heap[w.heap.size + 2]? = some (.cells HdKit.zHdA 54 (0, 0))) := ⟨(HB8.out.block _ (by omega)).trans HRZ1.out⟩
  by_cases h6 : u = 6
  · have u6 : ((u : Int) == 6) = true := by simp; omega
    have HE : Fact (folH l a = { fol1 l a with sel := a.h.sel }) := ⟨by unfold folH; rw [if_pos (by rw [HUU.out]; exact h6)]⟩
    clear h6
    have HT9 : Fact ((w7.setCells hb 98 ds.toList).there hb 98 cx.size) := ⟨by rw [bytes_size HCX.out HA.out.h.sel]; exact there_row HR8.out (by rw [← Array.length_toList, HC8.out, HdKit.hdC_len ((sel_ok HF1.out (sha_len _)))]) (by decide)⟩
    have HI9 : Fact ((Tryd.prog.info? 52).map (·.size) = some cx.size) := ⟨hash_i (bytes_size HCX.out HA.out.h.sel)⟩
    have HL9 := Fact.mk (HLX.out _ HB8.out)
    have HC9 : Fact ((setFrom c8 98 cx.toList).toList = hdC { fol1 l a with sel := a.h.sel }) := ⟨by
      rw [HCX.out]
      exact hdC_seal (h := { fol1 l a with sel := shaL (sealB (fol1 l a)) }) (sel_ok HF1.out (sha_len _)) c8 HC8.out _ HA.out.h.sel⟩
    have HR9 : Fact (((w7.setCells hb 98 ds.toList).setCells hb 98 cx.toList).heap[hb]? = some (.cells (setFrom c8 98 cx.toList) 54 (0, 0))) := ⟨row_setCells _ _ _ _ HR8.out⟩
    have HB9 : Fact (Below (w.heap.size + 3) w1 ((w7.setCells hb 98 ds.toList).setCells hb 98 cx.toList)) := ⟨below_setCells _ _ HB8.out (by omega)⟩
    have HRZ9 : Fact (((w7.setCells hb 98 ds.toList).setCells hb 98 cx.toList).heap[w.heap.size + 2]? = some (.cells HdKit.zHdA 54 (0, 0))) := ⟨(HB9.out.block _ (by omega)).trans HRZ1.out⟩
    obtain ⟨c9, hc9⟩ : ∃ c9, setFrom c8 98 cx.toList = c9 := ⟨_, rfl⟩
    rw [hc9] at HC9 HR9
    clear hc9
    have HCI : Fact ((Tryd.prog.info? 54).map (·.size) = some c9.size) := ⟨HdKit.hd_i (by rw [← Array.length_toList, HC9.out, HdKit.hdC_len ((sel_ok HF1.out HA.out.h.sel))])⟩
    have HCZ : Fact (HdKit.zHdA.size = c9.size) := ⟨by rw [show c9.size = 130 by rw [← Array.length_toList, HC9.out, HdKit.hdC_len ((sel_ok HF1.out HA.out.h.sel))]]; rfl⟩
    have HC1 : Fact (c9.all (·.oneCell') = true) := ⟨by
      have := HdKit.hdC_one ({ fol1 l a with sel := a.h.sel })
      rw [← HC9.out] at this
      simpa using this⟩
    go_wp2_with (first
      | (refine wpList_store_mid rfl 52 (.tmp 70) (.tmp 69) rfl hb 98 ds rfl rfl HT7.out HI7.out (bytes_one HDS.out) ?_)
      | (refine wpList_ok rfl (exec_loadAt rfl rfl HL9.out) ?_)
      | (refine wpList_store_mid rfl 52 (.tmp 78) (.tmp 77) rfl hb 98 cx rfl rfl HT9.out HI9.out (bytes_one HCX.out) ?_)
      | (refine wpList_load_row rfl 54 (.tmp 5) rfl hb rfl 54 c9 (0, 0) _ HR9.out Tryd.underlying54 rfl HCI.out ?_)
      | (refine wpList_store_row rfl 54 (.tmp 4) (.tmp 79) rfl (w.heap.size + 2) c9 rfl rfl 54 HdKit.zHdA HRZ9.out HCI.out HCZ.out HC1.out ?_))
    refine bodyPost_ret (results_cell_row (fn := Tryd.f38) rfl _ _ (w.heap.size + 2) 54 c9 (0, 0) _ rfl (setRow_heap _ _ _ _ _ _ HRZ9.out) Tryd.underlying54 rfl HCI.out) rfl ?_
    exact ⟨⟨_, rfl, ⟨by rw [HC9.out, HE.out]⟩⟩, below_setRow (HB1.out.trans (HB9.out.mono (by omega))) (by omega) _⟩
  · have u6 : ((u : Int) == 6) = false := by simp; omega
    have HE : Fact (folH l a = { fol1 l a with sel := shaL (sealB (fol1 l a)) }) := ⟨by unfold folH; rw [if_neg (by rw [HUU.out]; exact h6)]⟩
    clear h6
    have HCI : Fact ((Tryd.prog.info? 54).map (·.size) = some c8.size) := ⟨HdKit.hd_i (by rw [← Array.length_toList, HC8.out, HdKit.hdC_len ((sel_ok HF1.out (sha_len _)))])⟩
    have HCZ : Fact (HdKit.zHdA.size = c8.size) := ⟨by rw [show c8.size = 130 by rw [← Array.length_toList, HC8.out, HdKit.hdC_len ((sel_ok HF1.out (sha_len _)))]]; rfl⟩
    have HC1 : Fact (c8.all (·.oneCell') = true) := ⟨by
      have := HdKit.hdC_one ({ fol1 l a with sel := shaL (sealB (fol1 l a)) })
      rw [← HC8.out] at this
      simpa using this⟩
    go_wp2_with (first
      | (refine wpList_store_mid rfl 52 (.tmp 70) (.tmp 69) rfl hb 98 ds rfl rfl HT7.out HI7.out (bytes_one HDS.out) ?_)
      | (refine wpList_load_row rfl 54 (.tmp 5) rfl hb rfl 54 c8 (0, 0) _ HR8.out Tryd.underlying54 rfl HCI.out ?_)
      | (refine wpList_store_row rfl 54 (.tmp 4) (.tmp 79) rfl (w.heap.size + 2) c8 rfl rfl 54 HdKit.zHdA HRZ8.out HCI.out HCZ.out HC1.out ?_))
    refine bodyPost_ret (results_cell_row (fn := Tryd.f38) rfl _ _ (w.heap.size + 2) 54 c8 (0, 0) _ rfl (setRow_heap _ _ _ _ _ _ HRZ8.out) Tryd.underlying54 rfl HCI.out) rfl ?_
    exact ⟨⟨_, rfl, ⟨by rw [HC8.out, HE.out]⟩⟩, below_setRow (HB1.out.trans (HB8.out.mono (by omega))) (by omega) _⟩
end Go.Proofs.YtkmcjokoinoahaaDoor.ClientM
