/- ferrymanref11.SameNums at like lists; how many words the numbers have. -/
import Derived.Test.YtkmcjokoinoahaaDoorWordsE
set_option linter.unusedVariables false
set_option linter.unusedSimpArgs false
namespace Go.Proofs.YtkmcjokoinoahaaDoor.WordsF
open Go.RowKit Go.Proofs.YtkmcjokoinoahaaDoor.Lib Go.Proofs.YtkmcjokoinoahaaDoor.LibB Go.Proofs.YtkmcjokoinoahaaDoor.PlainS Go.Proofs.YtkmcjokoinoahaaDoor.WordsA Go.Proofs.YtkmcjokoinoahaaDoor.WordsB Go.Proofs.YtkmcjokoinoahaaDoor.PlainW Go.Proofs.YtkmcjokoinoahaaDoor.WordsC Go.Proofs.YtkmcjokoinoahaaDoor.WordsD Go.Proofs.YtkmcjokoinoahaaDoor.WordsE Go.Maps
open Go.Proofs.YtkmcjokoinoahaaDoor.KeysU (natKeys)
/-- A list's cells. -/
theorem num_at {w : World} {F : Nat → Prop} {A : Option Addr} {n c : Nat} {l : List Nat} (h : Sl rNat w F A n c l) {i x : Nat} (hi : l[i]? = some x) : ∃ ad, A = some ad ∧ F ad.block ∧ w.cell? (ad.add i) = some (.int .u64 (x : Int)) := by
  obtain ⟨ad, ds, e, hf, hk, hc⟩ := h.at_ hi
  have hk' : ds = [.int .u64 (x : Int)] := hk
  subst hk'
  have := hc 0 _ rfl
  rw [show i * rNat.sz + 0 = i by show i * 1 + 0 = i; omega] at this
  exact ⟨ad, e, hf, this⟩
set_option maxHeartbeats 1000000 in
set_option maxRecDepth 100000 in
theorem Same_calls (w : World) (F G : Nat → Prop) (A B : Option Addr) (n c c' : Nat) (l : List Nat) (h1 : Sl rNat w F A n c l) (h2 : Sl rNat w G B n c' l) :
    Calls Tryd.prog 51 #[.slice A n c, .slice B n c'] w fun e w' => e = .returned (.bool true) ∧ ∃ q, w' = w.drewN q := by
  have hln := h1.len
  have hmx := Nat.le_trans h1.le h1.max_
  have H1 := Fact.mk h1
  have H2 := Fact.mk h2
  have HL := Fact.mk hln
  clear h1 h2 hln
  go_enter Tryd.func51, Tryd.ntmps51
  go_wp2
  go_loopg [5] n (fun kq v5 wr => ∃ k : Nat, v5 = .int .i64 (k : Int) ∧ Fact (k + kq = n) ∧ Fact (∃ q, wr = w.drewN q))
  case atStart => exact ⟨0, rfl, ⟨by omega⟩, ⟨0, rfl⟩⟩
  case round =>
    obtain ⟨k, rfl, HK, HQ⟩ := hrel
    have hkn := HK.out
    by_cases hlt : k < n
    · obtain ⟨x, hx⟩ : ∃ x, l[k]? = some x := ⟨_, List.getElem?_eq_getElem (by rw [HL.out]; exact hlt)⟩
      obtain ⟨ad, rfl, -, hc1⟩ := num_at H1.out hx
      obtain ⟨bd, rfl, -, hc2⟩ := num_at H2.out hx
      obtain ⟨q, rfl⟩ := HQ.out
      have d1 : (w.drewN q).cell? (ad.add k) = some (.int .u64 (x : Int)) := hc1
      have d2 : (w.drewN q).cell? (bd.add k) = some (.int .u64 (x : Int)) := hc2
      have hne : ((x : Int) != (x : Int)) = false := by simp
      clear hx hc1 hc2
      obtain ⟨w1, hw1⟩ : ∃ w1, w.drewN q = w1 := ⟨_, rfl⟩
      rw [hw1] at d1 d2 ⊢
      have HW1 := Fact.mk hw1
      clear hw1
      go_wp2_with fail
      go_quiet (fail)
      go_wp2
      go_roundg (n - (k + 1))
      case measure => omega
      case rel => exact ⟨k + 1, by go_num, ⟨by omega⟩, ⟨q + nq, by rw [← HW1.out, World.drewN_drewN]⟩⟩
    · go_wp2
      go_ret
      exact ⟨rfl, HQ.out⟩
/-! How many words. -/
def keyN (n : Nat) : Nat := (n - 1) / 64
def cntW : Option Nat → List Nat → Nat
  | _, [] => 0
  | p, x :: r => (if p = some (keyN x) then 0 else 1) + cntW (some (keyN x)) r
theorem cnt_block {k : Nat} : ∀ {l r : List Nat}, (∀ x ∈ l, keyN x = k) → cntW (some k) (l ++ r) = cntW (some k) r
  | [], _, _ => rfl
  | x :: l, r, h => by
    show (if some k = some (keyN x) then 0 else 1) + cntW (some (keyN x)) (l ++ r) = _
    rw [h x List.mem_cons_self, if_pos rfl, cnt_block (fun y hy => h y (List.mem_cons_of_mem _ hy))]
    omega
theorem cnt_new {k : Nat} {p : Option Nat} {l r : List Nat} (hp : p ≠ some k) (hl : l ≠ []) (h : ∀ x ∈ l, keyN x = k) : cntW p (l ++ r) = 1 + cntW (some k) r := by
  match l, hl with
  | x :: l, _ =>
    show (if p = some (keyN x) then 0 else 1) + cntW (some (keyN x)) (l ++ r) = _
    rw [h x List.mem_cons_self, if_neg hp, cnt_block (fun y hy => h y (List.mem_cons_of_mem _ hy))]
theorem cnt_allK {D : DataW Unit} : ∀ {ks : List Nat} {p : Option Nat}, ks.Pairwise (· < ·) → (∀ k ∈ ks, wd D k ≠ 0 ∧ wd D k < 18446744073709551616) → (∀ k ∈ ks, ∀ q, p = some q → q < k) → cntW p (allK D ks) = ks.length
  | [], _, _, _, _ => rfl
  | k :: r, p, hs, h, hp => by
    rw [List.pairwise_cons] at hs
    obtain ⟨h1, h2⟩ := h k List.mem_cons_self
    show cntW p (numsOf k (wd D k) ++ allK D r) = _
    rw [cnt_new (k := k) (fun e => by have := hp k List.mem_cons_self k e; omega) (by unfold numsOf; simp; exact bitsL_ne h1 h2) (fun x hx => by
      obtain ⟨b, hb, -, rfl⟩ := mem_numsOf.1 hx
      unfold keyN
      omega), cnt_allK hs.2 (fun x hx => h x (List.mem_cons_of_mem _ hx)) (fun x hx q e => by
      have := hs.1 x hx
      have e : k = q := Option.some.inj e
      omega)]
    simp
    omega
theorem size_cnt {w : World} {pb mb N : Nat} {D : DataW Unit} (h : Ws w pb mb N D) (hi : WInv D) : Maps.size D = cntW none (allL D) := by
  obtain ⟨hk1, hk2, hk3, hk4⟩ := Ws.keys h
  rw [← hk4, ← keysL_len]
  unfold allL
  rw [cnt_allK (keysL_sorted hk1) (fun k hk => by
    have := hi.key hk2 hk hk3
    exact ⟨this.2, (h.look (show k < 18446744073709551616 by omega)).2.1⟩) (fun _ _ _ e => by cases e)]
/-- Two maps with like numbers. -/
theorem all_like {w w' : World} {pb mb N pb' mb' N' : Nat} {D D' : DataW Unit} (h : Ws w pb mb N D) (hi : WInv D) (h' : Ws w' pb' mb' N' D') (hi' : WInv D') (hm : ∀ m, 1 ≤ m → m < 18446744073709551616 → (hasB D m = true ↔ hasB D' m = true)) : allL D = allL D' ∧ Maps.size D = Maps.size D' := by
  have e : allL D = allL D' := sorted_ext (allL_sorted h) (allL_sorted h') fun n => by
    rw [mem_allL h hi, mem_allL h' hi']
    constructor
    · rintro ⟨h1, h2, h3⟩; exact ⟨h1, h2, (hm n h1 h2).1 h3⟩
    · rintro ⟨h1, h2, h3⟩; exact ⟨h1, h2, (hm n h1 h2).2 h3⟩
  exact ⟨e, by rw [size_cnt h hi, size_cnt h' hi', e]⟩
end Go.Proofs.YtkmcjokoinoahaaDoor.WordsF
