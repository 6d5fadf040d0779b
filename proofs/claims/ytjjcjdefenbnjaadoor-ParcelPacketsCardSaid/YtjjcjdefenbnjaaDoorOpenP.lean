/- api.Packet, api.Ack, api.Header opened. -/
import Derived.Test.YtjjcjdefenbnjaaDoorOpenF
import Derived.Test.YtjjcjdefenbnjaaDoorParcelK
import Derived.SizedLaws
set_option linter.unusedVariables false
set_option linter.unusedSimpArgs false
namespace Go.Proofs.YtjjcjdefenbnjaaDoor.OpenP
open Go.ChangeShapes Go.WideShapes Go.ChangeAt Go.RowKit Go.Proofs.YtjjcjdefenbnjaaDoor.Lib Go.Proofs.YtjjcjdefenbnjaaDoor.Open Go.Proofs.YtjjcjdefenbnjaaDoor.OpenF Go.Proofs.YtjjcjdefenbnjaaDoor.PlainP Go.Proofs.YtjjcjdefenbnjaaDoor.DenomA Go.Proofs.YtjjcjdefenbnjaaDoor.ParcelA Go.Proofs.YtjjcjdefenbnjaaDoor.ParcelB Go.Proofs.YtjjcjdefenbnjaaDoor.ParcelF
/-- A packet's cells, whatever its channel. -/
def pkA (ch : Int) (p : Pk) : Array Value := #[.int .i64 ch, .int .u64 (p.seq : Int), .int .u64 (p.tmo : Int), .string (S p.den), .int .u64 (p.amt : Int), .string (S p.frm), .string (S p.to)]
structure Sized (p : Pk) : Prop where
  seq : p.seq < 18446744073709551616
  tmo : p.tmo < 18446744073709551616
  amt : p.amt < 18446744073709551616
  den : p.den.length ≤ 140737488355328
  frm : p.frm.length ≤ 140737488355328
  to : p.to.length ≤ 140737488355328
section
variable {H : Type} {enc : TypeId × Value → H} {w : World}
set_option maxRecDepth 100000 in
theorem open_packet {ts : List TypeId} {ds : List (DataW H)} {j : Nat} {v : Value} {d : DataW H} {p : List MemPlace} {rr : Reach} {b0 : Nat} (hsz : (DataW.weightsEach Tryd.prog ts ds).all (· ≤ reachBytes) = true) (ht : ts[j]? = some 36) (hd : ds[j]? = some d) (hv : Value.okWide Tryd.prog w rr b0 36 v) (h : DataW.Trod enc Tryd.prog w 0 (fun _ => true) true 36 v d p) :
    ∃ (ch : Int) (q : Pk), v = .agg (pkA ch q) ∧ -9223372036854775808 ≤ ch ∧ ch ≤ 9223372036854775807 ∧ Sized q := by
  obtain ⟨cs, rfl, hcs⟩ := okWide_struct Tryd.underlying36 hv
  obtain ⟨fuel, hf⟩ := h
  obtain ⟨xs, n, -, hx, hl, hn, hfs⟩ := DataW.trod_struct Tryd.underlying36 hf
  have h7 : Tryd.prog.cellsOf 36 = 7 := by kernel_rfl
  rw [h7] at hcs
  have ci : Tryd.prog.cellsOf 3 = 1 := by kernel_rfl
  have cu : Tryd.prog.cellsOf 34 = 1 := by kernel_rfl
  have cst : Tryd.prog.cellsOf 9 = 1 := by kernel_rfl
  have hn' : xs.length = 7 := hn
  match xs, hn', hfs, hx with
  | [x0, x1, x2, x3, x4, x5, x6], _, hfs, hx =>
    have g0 := hfs 0 _ rfl
    have g1 := hfs 1 _ rfl
    have g2 := hfs 2 _ rfl
    have g3 := hfs 3 _ rfl
    have g4 := hfs 4 _ rfl
    have g5 := hfs 5 _ rfl
    have g6 := hfs 6 _ rfl
    obtain ⟨c0, k0, -, w0⟩ := DataW.trod_int (x := x0) Tryd.underlying3 g0
    obtain ⟨c1, k1, -, w1⟩ := DataW.trod_int (x := x1) Tryd.underlying34 g1
    obtain ⟨c2, k2, -, w2⟩ := DataW.trod_int (x := x2) Tryd.underlying34 g2
    obtain ⟨c3, k3, e3, w3⟩ := DataW.trod_string (x := x3) Tryd.underlying9 g3
    obtain ⟨c4, k4, -, w4⟩ := DataW.trod_int (x := x4) Tryd.underlying34 g4
    obtain ⟨c5, k5, e5, w5⟩ := DataW.trod_string (x := x5) Tryd.underlying9 g5
    obtain ⟨c6, k6, e6, w6⟩ := DataW.trod_string (x := x6) Tryd.underlying9 g6
    obtain ⟨l⟩ := cs
    have hl7 : l.length = 7 := by simpa using hcs
    match l, hl7 with
    | [a0, a1, a2, a3, a4, a5, a6], _ =>
      simp [Value.cells, ci, cu, cst] at k0 k1 k2 k3 k4 k5 k6
      subst k0 k1 k2 k3 k4 k5 k6
      obtain ⟨s3, rfl⟩ := of_S c3
      obtain ⟨s5, rfl⟩ := of_S c5
      obtain ⟨s6, rfl⟩ := of_S c6
      have b0 := wf_i64 w0
      have b1 := wf_u64 w1
      have b2 := wf_u64 w2
      have b4 := wf_u64 w4
      have hdd : d = .agg [x0.1, x1.1, x2.1, x3.1, x4.1, x5.1, x6.1] := by simpa using congrArg Prod.fst hx
      have hw : ∀ m, m ∈ d.weights Tryd.prog 36 → m ≤ reachBytes := fun m hm => of_decide_eq_true (List.all_eq_true.1 hsz m (DataW.weights_mem_each ht hd m hm))
      have hww : ∀ (i : Nat) (t : TypeId) (y : DataW H), [3, 34, 34, 9, 34, 9, 9][i]? = some t → [x0.1, x1.1, x2.1, x3.1, x4.1, x5.1, x6.1][i]? = some y → ∀ m ∈ y.weights Tryd.prog t, m ≤ reachBytes := fun i t y hi hy m hm => hw m (by
        rw [hdd]
        unfold DataW.weights
        rw [Tryd.underlying36]
        exact DataW.weights_mem_each (j := i) hi hy m hm)
      have hr := reachBytes_lt
      have r3 := hww 3 _ _ rfl rfl s3.length (by rw [e3]; simp [DataW.weights, S])
      have r5 := hww 5 _ _ rfl rfl s5.length (by rw [e5]; simp [DataW.weights, S])
      have r6 := hww 6 _ _ rfl rfl s6.length (by rw [e6]; simp [DataW.weights, S])
      refine ⟨c0, ⟨0, c1.toNat, c2.toNat, s3, c4.toNat, s5, s6⟩, ?_, b0.1, b0.2, ⟨?_, ?_, ?_, ?_, ?_, ?_⟩⟩
      · unfold pkA
        simp only
        rw [show ((c1.toNat : Nat) : Int) = c1 by omega, show ((c2.toNat : Nat) : Int) = c2 by omega, show ((c4.toNat : Nat) : Int) = c4 by omega]
      · simp only; omega
      · simp only; omega
      · simp only; omega
      · simp only; omega
      · simp only; omega
      · simp only; omega
set_option maxRecDepth 100000 in
theorem open_ack {v : Value} {d : DataW H} {p : List MemPlace} {rr : Reach} {b0 : Nat} (hv : Value.okWide Tryd.prog w rr b0 56 v) (h : DataW.Trod enc Tryd.prog w 0 (fun _ => true) true 56 v d p) :
    ∃ (y : Bool) (c : Int), v = .agg #[.bool y, .int .i64 c] ∧ -9223372036854775808 ≤ c ∧ c ≤ 9223372036854775807 := by
  obtain ⟨cs, rfl, hcs⟩ := okWide_struct Tryd.underlying56 hv
  obtain ⟨fuel, hf⟩ := h
  obtain ⟨xs, n, -, hx, hl, hn, hfs⟩ := DataW.trod_struct Tryd.underlying56 hf
  have h7 : Tryd.prog.cellsOf 56 = 2 := by kernel_rfl
  rw [h7] at hcs
  have ci : Tryd.prog.cellsOf 38 = 1 := by kernel_rfl
  have cu : Tryd.prog.cellsOf 4 = 1 := by kernel_rfl
  have hn' : xs.length = 2 := hn
  match xs, hn', hfs, hx with
  | [x0, x1], _, hfs, hx =>
    have g0 := hfs 0 _ rfl
    have g1 := hfs 1 _ rfl
    obtain ⟨c0, k0, -⟩ := DataW.trod_bool (x := x0) Tryd.underlying4 g0
    obtain ⟨c1, k1, -, w1⟩ := DataW.trod_int (x := x1) Tryd.underlying38 g1
    obtain ⟨l⟩ := cs
    have hl7 : l.length = 2 := by simpa using hcs
    match l, hl7 with
    | [a0, a1], _ =>
      simp [Value.cells, ci, cu] at k0 k1
      subst k0 k1
      have b1 := wf_i64 w1
      exact ⟨c0, c1, rfl, b1.1, b1.2⟩
def rHash : Rep (List UInt8) := rU8.array 32
set_option maxRecDepth 100000 in
theorem opens_hash : Opens enc Tryd.prog w 25 rHash := Opens.array (m := 32) hash_u (by kernel_rfl) (by kernel_rfl) (Opens.u8 Tryd.underlying5)
theorem rHash_cells {F : Nat → Prop} {x : List UInt8} {cs : List Value} (h : rHash.K w F x cs) : x.length = 32 ∧ cs = x.map vu8 := by
  obtain ⟨h1, h2, h3⟩ := h
  refine ⟨h1, ?_⟩
  have h2' : cs.length = 32 := h2
  apply List.ext_getElem?
  intro i
  by_cases hi : i < 32
  · have hx : x[i]? = some (x[i]'(by omega)) := List.getElem?_eq_getElem _
    have hk : (cs.drop (i * 1)).take 1 = [vu8 (x[i]'(by omega))] := h3 i _ hx
    rw [List.getElem?_map, hx]
    have := congrArg (fun l => l[0]?) hk
    simpa [List.getElem?_take, List.getElem?_drop] using this
  · rw [List.getElem?_eq_none (by omega), List.getElem?_eq_none (by simp; omega)]
end
end Go.Proofs.YtjjcjdefenbnjaaDoor.OpenP
