/- Sums of bytes (chapter 1) as plain functions; the model's arithmetic on 32 bits over them. -/
import Derived.Test.YtkmcjokoinoahaaDoorRegB
import Derived.Test.YtkmcjokoinoahaaDoorLibB
import Derived.Laws.BitsAllLaws
set_option linter.unusedVariables false
set_option linter.unusedSimpArgs false
namespace Go.Proofs.YtkmcjokoinoahaaDoor.PlainS
open Go.RowKit Go.Proofs.YtkmcjokoinoahaaDoor.Lib
def lo (n : Nat) : UInt8 := UInt8.ofNat n
theorem lo_int (n : Nat) : ((lo n).toNat : Int) = (n : Int) % 256 := by simp [lo]
/-- The digit of weight 256^k. -/
def dig (n k : Nat) : UInt8 := lo (n / 256 ^ k)
/-- A number's eight bytes. -/
def eightL (n : Nat) : List UInt8 := [dig n 7, dig n 6, dig n 5, dig n 4, dig n 3, dig n 2, dig n 1, dig n 0]
theorem eight_len (n : Nat) : (eightL n).length = 8 := rfl
theorem eight_get (n k : Nat) (h : k < 8) : (eightL n)[k]? = some (dig n (7 - k)) := by
  match k, h with
  | 0, _ | 1, _ | 2, _ | 3, _ | 4, _ | 5, _ | 6, _ | 7, _ => rfl
theorem eight_take (n k : Nat) (h : k < 8) : (eightL n).take (k + 1) = (eightL n).take k ++ [dig n (7 - k)] := by
  rw [List.take_add_one, eight_get n k h]; rfl
theorem dig_int (n k : Nat) : (n : Int) / 2 ^ (8 * k) % 256 = ((dig n k).toNat : Int) := by
  unfold dig
  rw [lo_int, Int.pow_mul, Int.natCast_ediv, Int.natCast_pow]
  rfl
theorem dig_int' (n k : Nat) (h : k < 8) : (n : Int) / 2 ^ (56 - 8 * k) % 256 = ((dig n (7 - k)).toNat : Int) := by
  rw [show 56 - 8 * k = 8 * (7 - k) by omega]
  exact dig_int n (7 - k)
theorem ow_slF {α : Type} {r : Rep α} {e : TypeId} {w : World} {base : Nat} {A : Option Addr} {n c : Nat} {xs : List α} (h : Ow r e w base (fun _ => False) (.slice A n c) xs) : Sl r w (fun k => base ≤ k ∧ k < w.heap.size) A n c xs := by
  obtain ⟨A', c', he, hs⟩ := h.sl
  injection he with h1 h2 h3
  subst h1 h2 h3
  exact hs.mono (fun k hk => hk.elim False.elim (fun hv => h.lt k hv))
/-- A word as the model has it. -/
def U (x : UInt32) : Int := (x.toNat : Int)
def vu32 (x : UInt32) : Value := .int .u32 (U x)
def rot (k : Nat) (x : UInt32) : UInt32 := (x >>> UInt32.ofNat k) ||| (x <<< UInt32.ofNat (32 - k))
def sg0 (x : UInt32) : UInt32 := rot 7 x ^^^ rot 18 x ^^^ (x >>> 3)
def sg1 (x : UInt32) : UInt32 := rot 17 x ^^^ rot 19 x ^^^ (x >>> 10)
def bg1 (e : UInt32) : UInt32 := rot 6 e ^^^ rot 11 e ^^^ rot 25 e
def bg0 (a : UInt32) : UInt32 := rot 2 a ^^^ rot 13 a ^^^ rot 22 a
def chs (e f g : UInt32) : UInt32 := (e &&& f) ^^^ (~~~e &&& g)
def mjs (a b c : UInt32) : UInt32 := ((a &&& b) ^^^ (a &&& c)) ^^^ (b &&& c)
/-- A state: eight words. -/
structure V8 where
  a : UInt32
  b : UInt32
  c : UInt32
  d : UInt32
  e : UInt32
  f : UInt32
  g : UInt32
  h : UInt32
def V8.l (v : V8) : List UInt32 := [v.a, v.b, v.c, v.d, v.e, v.f, v.g, v.h]
def V8.x (v : V8) (k w : UInt32) : UInt32 := v.h + bg1 v.e + chs v.e v.f v.g + k + w
def V8.y (v : V8) : UInt32 := bg0 v.a + mjs v.a v.b v.c
def V8.step (v : V8) (k w : UInt32) : V8 := ⟨v.x k w + v.y, v.a, v.b, v.c, v.d + v.x k w, v.e, v.f, v.g⟩
def V8.run : List UInt32 → List UInt32 → V8 → V8
  | k :: ks, w :: ws, v => V8.run ks ws (v.step k w)
  | _, _, v => v
def V8.add (v u : V8) : V8 := ⟨v.a + u.a, v.b + u.b, v.c + u.c, v.d + u.d, v.e + u.e, v.f + u.f, v.g + u.g, v.h + u.h⟩
def word (a b c d : UInt8) : UInt32 := (((a.toUInt32 <<< 24) ||| (b.toUInt32 <<< 16)) ||| (c.toUInt32 <<< 8)) ||| d.toUInt32
def nextW (w : List UInt32) : UInt32 := w.getD (w.length - 16) 0 + sg0 (w.getD (w.length - 15) 0) + w.getD (w.length - 7) 0 + sg1 (w.getD (w.length - 2) 0)
def schedF : Nat → List UInt32 → List UInt32
  | 0, w => w
  | k + 1, w => schedF k (w ++ [nextW w])
def wordAt (b : List UInt8) (i : Nat) : UInt32 := word (b.getD (4 * i) 0) (b.getD (4 * i + 1) 0) (b.getD (4 * i + 2) 0) (b.getD (4 * i + 3) 0)
def words16 (b : List UInt8) : List UInt32 := (List.range 16).map (wordAt b)
def kL : List UInt32 := [0x428a2f98, 0x71374491, 0xb5c0fbcf, 0xe9b5dba5, 0x3956c25b, 0x59f111f1, 0x923f82a4, 0xab1c5ed5,
  0xd807aa98, 0x12835b01, 0x243185be, 0x550c7dc3, 0x72be5d74, 0x80deb1fe, 0x9bdc06a7, 0xc19bf174,
  0xe49b69c1, 0xefbe4786, 0x0fc19dc6, 0x240ca1cc, 0x2de92c6f, 0x4a7484aa, 0x5cb0a9dc, 0x76f988da,
  0x983e5152, 0xa831c66d, 0xb00327c8, 0xbf597fc7, 0xc6e00bf3, 0xd5a79147, 0x06ca6351, 0x14292967,
  0x27b70a85, 0x2e1b2138, 0x4d2c6dfc, 0x53380d13, 0x650a7354, 0x766a0abb, 0x81c2c92e, 0x92722c85,
  0xa2bfe8a1, 0xa81a664b, 0xc24b8b70, 0xc76c51a3, 0xd192e819, 0xd6990624, 0xf40e3585, 0x106aa070,
  0x19a4c116, 0x1e376c08, 0x2748774c, 0x34b0bcb5, 0x391c0cb3, 0x4ed8aa4a, 0x5b9cca4f, 0x682e6ff3,
  0x748f82ee, 0x78a5636f, 0x84c87814, 0x8cc70208, 0x90befffa, 0xa4506ceb, 0xbef9a3f7, 0xc67178f2]
def iv : V8 := ⟨0x6a09e667, 0xbb67ae85, 0x3c6ef372, 0xa54ff53a, 0x510e527f, 0x9b05688c, 0x1f83d9ab, 0x5be0cd19⟩
def blk (v : V8) (b : List UInt8) : V8 := v.add (V8.run kL (schedF 48 (words16 b)) v)
def shaF : Nat → V8 → List UInt8 → V8
  | 0, v, _ => v
  | n + 1, v, b => shaF n (blk v b) (b.drop 64)
def padN (n : Nat) : Nat := (119 - n % 64) % 64
def msgL (l : List UInt8) : List UInt8 := l ++ [0x80] ++ List.replicate (padN l.length) 0 ++ eightL (8 * l.length)
def outB (v : V8) (i : Nat) : UInt8 := ((v.l.getD (i / 4) 0) >>> UInt32.ofNat (24 - i % 4 * 8)).toUInt8
def outL (v : V8) : List UInt8 := (List.range 32).map (outB v)
def shaL (l : List UInt8) : List UInt8 := outL (shaF ((msgL l).length / 64) iv (msgL l))
theorem outL_len (v : V8) : (outL v).length = 32 := by simp [outL]
/-! The model's arithmetic. -/
theorem u_wrap (n : Int) : IntKind.u32.wrap n = n % 4294967296 := by simp [IntKind.wrap, IntKind.bits, IntKind.signed]
theorem r_add (x y : UInt32) : IntKind.u32.wrap (U x + U y) = U (x + y) := by
  rw [u_wrap]; unfold U; rw [UInt32.toNat_add]; omega
theorem u_lt (x : UInt32) : x.toNat < 4294967296 := x.toNat_lt
theorem r_xor (x y : UInt32) : bits .xor .u32 (U x) (U y) = U (x ^^^ y) := by unfold U; rw [u32_xor_nat _ _ (u_lt _) (u_lt _), UInt32.toNat_xor]
theorem r_and (x y : UInt32) : bits .and .u32 (U x) (U y) = U (x &&& y) := by unfold U; rw [u32_and_nat _ _ (u_lt _) (u_lt _), UInt32.toNat_and]
theorem r_or (x y : UInt32) : bits .or .u32 (U x) (U y) = U (x ||| y) := by unfold U; rw [u32_or_nat _ _ (u_lt _) (u_lt _), UInt32.toNat_or]
theorem r_shr {x : UInt32} {k : Nat} (hk : k < 32) : U x / 2 ^ k = U (x >>> UInt32.ofNat k) := by
  unfold U
  rw [UInt32.toNat_shiftRight, Nat.shiftRight_eq_div_pow, UInt32.toNat_ofNat', Nat.mod_eq_of_lt (show k < 2 ^ 32 by omega), Nat.mod_eq_of_lt hk]
  simp
theorem r_shl {x : UInt32} {k : Nat} (hk : k < 32) : IntKind.u32.wrap (U x * 2 ^ k) = U (x <<< UInt32.ofNat k) := by
  unfold U
  rw [u_wrap, UInt32.toNat_shiftLeft, Nat.shiftLeft_eq, UInt32.toNat_ofNat', Nat.mod_eq_of_lt (show k < 2 ^ 32 by omega), Nat.mod_eq_of_lt hk]
  simp
theorem r_byte (b : UInt8) : IntKind.u32.wrap (b.toNat : Int) = U b.toUInt32 := by
  unfold U
  rw [u_wrap, UInt8.toNat_toUInt32]
  have := b.toNat_lt
  omega
theorem r_low (x : UInt32) : IntKind.u8.wrap (U x) = (x.toUInt8.toNat : Int) := by
  unfold U
  rw [UInt32.toNat_toUInt8]
  simp [IntKind.wrap, IntKind.bits, IntKind.signed]
theorem abc : (shaL [97, 98, 99]).take 4 = [0xba, 0x78, 0x16, 0xbf] := by decide +kernel
theorem nul : (shaL []).take 2 = [0xe3, 0xb0] := by decide +kernel
end Go.Proofs.YtkmcjokoinoahaaDoor.PlainS
