/- api.Packet, api.Ack, api.Header opened. -/
import Derived.Test.YtjjcjdefenbnjaaOpenF
import Derived.Test.YtjjcjdefenbnjaaParcelK
import Derived.SizedLaws
set_option linter.unusedVariables false
set_option linter.unusedSimpArgs false
namespace Go.Proofs.Ytjjcjdefenbnjaa.OpenP
open Go.ChangeShapes Go.WideShapes Go.ChangeAt Go.RowKit Go.Proofs.Ytjjcjdefenbnjaa.Lib Go.Proofs.Ytjjcjdefenbnjaa.Open Go.Proofs.Ytjjcjdefenbnjaa.OpenF Go.Proofs.Ytjjcjdefenbnjaa.PlainP Go.Proofs.Ytjjcjdefenbnjaa.DenomA Go.Proofs.Ytjjcjdefenbnjaa.ParcelA Go.Proofs.Ytjjcjdefenbnjaa.ParcelB Go.Proofs.Ytjjcjdefenbnjaa.ParcelF
/-- A packet's cells, whatever its channel. -/
def pkA (ch : Int) (p : Pk) : Array Value := #[.int .i64 ch, .int .u64 (p.seq : Int), .int .u64 (p.tmo : Int), .string (S p.den), .int .u64 (p.amt : Int), .string (S p.frm), .string (S p.to)]
structure Sized (p : Pk) : Prop where
  seq : p.seq < 18446744073709551616
  tmo : p.tmo < 18446744073709551616
  amt : p.amt < 18446744073709551616
  den : p.den.length ≤ 140737488355328
  frm : p.frm.length ≤ 140737488355328
  to : p.to.length ≤ 140737488355328
section
variable {H : Type} {enc : TypeId × Value → H} {w : World}
set_option maxRecDepth 100000 in
theorem open_packet {ts : List TypeId} {ds : List (DataW H)} {j : Nat} {v : Value} {d : DataW H} {p : List MemPlace} {rr : Reach} {b0 : Nat} (hsz : (DataW.weightsEach Try.prog ts ds).all (· ≤ reachBytes) = true) (ht : ts[j]? = some 85) (hd : ds[j]? = some d) (hv : Value.okWide Try.prog w rr b0 85 v) (h : DataW.Trod enc Try.prog w 0 (fun _ => true) true 85 v d p) :
    ∃ (ch : Int) (q : Pk), v = .agg (pkA ch q) ∧ -9223372036854775808 ≤ ch ∧ ch ≤ 9223372036854775807 ∧ Sized q := by
  obtain ⟨cs, rfl, hcs⟩ := okWide_struct Try.underlying85 hv
  obtain ⟨fuel, hf⟩ := h
  obtain ⟨xs, n, -, hx, hl, hn, hfs⟩ := DataW.trod_struct Try.underlying85 hf
  have h7 : Try.prog.cellsOf 85 = 7 := by kernel_rfl
  rw [h7] at hcs
  have ci : Try.prog.cellsOf 3 = 1 := by kernel_rfl
  have cu : Try.prog.cellsOf 30 = 1 := by kernel_rfl
  have cst : Try.prog.cellsOf 9 = 1 := by kernel_rfl
  have hn' : xs.length = 7 := hn
  match xs, hn', hfs, hx with
  | [x0, x1, x2, x3, x4, x5, x6], _, hfs, hx =>
    have g0 := hfs 0 _ rfl
    have g1 := hfs 1 _ rfl
    have g2 := hfs 2 _ rfl
    have g3 := hfs 3 _ rfl
    have g4 := hfs 4 _ rfl
    have g5 := hfs 5 _ rfl
    have g6 := hfs 6 _ rfl
    obtain ⟨c0, k0, -, w0⟩ := DataW.trod_int (x := x0) Try.underlying3 g0
    obtain ⟨c1, k1, -, w1⟩ := DataW.trod_int (x := x1) Try.underlying30 g1
    obtain ⟨c2, k2, -, w2⟩ := DataW.trod_int (x := x2) Try.underlying30 g2
    obtain ⟨c3, k3, e3, w3⟩ := DataW.trod_string (x := x3) Try.underlying9 g3
    obtain ⟨c4, k4, -, w4⟩ := DataW.trod_int (x := x4) Try.underlying30 g4
    obtain ⟨c5, k5, e5, w5⟩ := DataW.trod_string (x := x5) Try.underlying9 g5
    obtain ⟨c6, k6, e6, w6⟩ := DataW.trod_string (x := x6) Try.underlying9 g6
    obtain ⟨l⟩ := cs
    have hl7 : l.length = 7 := by simpa using hcs
    match l, hl7 with
    | [a0, a1, a2, a3, a4, a5, a6], _ =>
      simp [Value.cells, ci, cu, cst] at k0 k1 k2 k3 k4 k5 k6
      subst k0 k1 k2 k3 k4 k5 k6
      obtain ⟨s3, rfl⟩ := of_S c3
      obtain ⟨s5, rfl⟩ := of_S c5
      obtain ⟨s6, rfl⟩ := of_S c6
      have b0 := wf_i64 w0
      have b1 := wf_u64 w1
      have b2 := wf_u64 w2
      have b4 := wf_u64 w4
      have hdd : d = .agg [x0.1, x1.1, x2.1, x3.1, x4.1, x5.1, x6.1] := by simpa using congrArg Prod.fst hx
      have hw : ∀ m, m ∈ d.weights Try.prog 85 → m ≤ reachBytes := fun m hm => of_decide_eq_true (List.all_eq_true.1 hsz m (DataW.weights_mem_each ht hd m hm))
      have hww : ∀ (i : Nat) (t : TypeId) (y : DataW H), [3, 30, 30, 9, 30, 9, 9][i]? = some t → [x0.1, x1.1, x2.1, x3.1, x4.1, x5.1, x6.1][i]? = some y → ∀ m ∈ y.weights Try.prog t, m ≤ reachBytes := fun i t y hi hy m hm => hw m (by
        rw [hdd]
        unfold DataW.weights
        rw [Try.underlying85]
        exact DataW.weights_mem_each (j := i) hi hy m hm)
      have hr := reachBytes_lt
      have r3 := hww 3 _ _ rfl rfl s3.length (by rw [e3]; simp [DataW.weights, S])
      have r5 := hww 5 _ _ rfl rfl s5.length (by rw [e5]; simp [DataW.weights, S])
      have r6 := hww 6 _ _ rfl rfl s6.length (by rw [e6]; simp [DataW.weights, S])
      refine ⟨c0, ⟨0, c1.toNat, c2.toNat, s3, c4.toNat, s5, s6⟩, ?_, b0.1, b0.2, ⟨?_, ?_, ?_, ?_, ?_, ?_⟩⟩
      · unfold pkA
        simp only
        rw [show ((c1.toNat : Nat) : Int) = c1 by omega, show ((c2.toNat : Nat) : Int) = c2 by omega, show ((c4.toNat : Nat) : Int) = c4 by omega]
      · simp only; omega
      · simp only; omega
      · simp only; omega
      · simp only; omega
      · simp only; omega
      · simp only; omega
set_option maxRecDepth 100000 in
theorem open_ack {v : Value} {d : DataW H} {p : List MemPlace} {rr : Reach} {b0 : Nat} (hv : Value.okWide Try.prog w rr b0 87 v) (h : DataW.Trod enc Try.prog w 0 (fun _ => true) true 87 v d p) :
    ∃ (y : Bool) (c : Int), v = .agg #[.bool y, .int .i64 c] ∧ -9223372036854775808 ≤ c ∧ c ≤ 9223372036854775807 := by
  obtain ⟨cs, rfl, hcs⟩ := okWide_struct Try.underlying87 hv
  obtain ⟨fuel, hf⟩ := h
  obtain ⟨xs, n, -, hx, hl, hn, hfs⟩ := DataW.trod_struct Try.underlying87 hf
  have h7 : Try.prog.cellsOf 87 = 2 := by kernel_rfl
  rw [h7] at hcs
  have ci : Try.prog.cellsOf 25 = 1 := by kernel_rfl
  have cu : Try.prog.cellsOf 4 = 1 := by kernel_rfl
  have hn' : xs.length = 2 := hn
  match xs, hn', hfs, hx with
  | [x0, x1], _, hfs, hx =>
    have g0 := hfs 0 _ rfl
    have g1 := hfs 1 _ rfl
    obtain ⟨c0, k0, -⟩ := DataW.trod_bool (x := x0) Try.underlying4 g0
    obtain ⟨c1, k1, -, w1⟩ := DataW.trod_int (x := x1) Try.underlying25 g1
    obtain ⟨l⟩ := cs
    have hl7 : l.length = 2 := by simpa using hcs
    match l, hl7 with
    | [a0, a1], _ =>
      simp [Value.cells, ci, cu] at k0 k1
      subst k0 k1
      have b1 := wf_i64 w1
      exact ⟨c0, c1, rfl, b1.1, b1.2⟩
def rHash : Rep (List UInt8) := rU8.array 32
set_option maxRecDepth 100000 in
theorem opens_hash : Opens enc Try.prog w 89 rHash := Opens.array (m := 32) hash_u (by kernel_rfl) (by kernel_rfl) (Opens.u8 Try.underlying5)
theorem rHash_cells {F : Nat → Prop} {x : List UInt8} {cs : List Value} (h : rHash.K w F x cs) : x.length = 32 ∧ cs = x.map vu8 := by
  obtain ⟨h1, h2, h3⟩ := h
  refine ⟨h1, ?_⟩
  have h2' : cs.length = 32 := h2
  apply List.ext_getElem?
  intro i
  by_cases hi : i < 32
  · have hx : x[i]? = some (x[i]'(by omega)) := List.getElem?_eq_getElem _
    have hk : (cs.drop (i * 1)).take 1 = [vu8 (x[i]'(by omega))] := h3 i _ hx
    rw [List.getElem?_map, hx]
    have := congrArg (fun l => l[0]?) hk
    simpa [List.getElem?_take, List.getElem?_drop] using this
  · rw [List.getElem?_eq_none (by omega), List.getElem?_eq_none (by simp; omega)]
set_option maxRecDepth 100000 in
theorem open_header {v : Value} {d : DataW H} {p : List MemPlace} {rr : Reach} {b0 : Nat} (hv : Value.okWide Try.prog w rr b0 91 v) (h : DataW.Trod enc Try.prog w 0 (fun _ => true) true 91 v d p) :
    ∃ (cs : Array Value) (k : Hd), v = .agg cs ∧ k.ok ∧ cs.toList = hdC k := by
  obtain ⟨cs, rfl, hcs⟩ := okWide_struct Try.underlying91 hv
  obtain ⟨fuel, hf⟩ := h
  have ho : Opens enc Try.prog w 91 (Rep.pair rU64 (Rep.pair rU64 (Rep.pair rHash (Rep.pair rHash (Rep.pair rHash rHash))))) :=
    Opens.struct Try.underlying91 (by kernel_rfl) (OpensFs.cons rfl (by kernel_rfl) (Opens.u64 Try.underlying30) (OpensFs.cons rfl (by kernel_rfl) (Opens.u64 Try.underlying30) (OpensFs.cons rfl (by kernel_rfl) opens_hash (OpensFs.cons rfl (by kernel_rfl) opens_hash (OpensFs.cons rfl (by kernel_rfl) opens_hash (OpensFs.last rfl (by kernel_rfl) opens_hash))))))
  obtain ⟨⟨a, b, c, e, f, g⟩, c0, r0, h0, k0, c1, r1, h1, k1, c2, r2, h2, k2, c3, r3, h3, k3, c4, r4, h4, k4, k5⟩ := ho _ _ _ hf
  subst h1 h2 h3 h4
  have q0 : c0 = [.int .u64 (a.toNat : Int)] := k0
  have q1 : c1 = [.int .u64 (b.toNat : Int)] := k1
  obtain ⟨l2, q2⟩ := rHash_cells k2
  obtain ⟨l3, q3⟩ := rHash_cells k3
  obtain ⟨l4, q4⟩ := rHash_cells k4
  obtain ⟨l5, q5⟩ := rHash_cells k5
  subst q0 q1 q2 q3 q4 q5
  refine ⟨cs, ⟨a.toNat, b.toNat, c, e, f, g⟩, rfl, ⟨a.toNat_lt, b.toNat_lt, l2, l3, l4, l5⟩, ?_⟩
  have h0' : cs.toList = _ := h0
  rw [h0']
  unfold hdC
  simp
end
end Go.Proofs.Ytjjcjdefenbnjaa.OpenP
