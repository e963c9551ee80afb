/-
  SHA-256 in plain Lean: words of 32 bits, blocks, digests. No program here.
-/
import Derived.Test.YtnfegmcdljejnaaBase
import Derived.Laws.BitsAllLaws
set_option linter.unusedSimpArgs false
set_option linter.unusedVariables false
namespace Go.Proofs.Ytnfegmcdljejnaa
open Go.RowKit

/-- What a word is in memory. -/
def uv (x : UInt32) : Value := .int .u32 (x.toNat : Int)
def rotr (x : UInt32) (n : Nat) : UInt32 := (x >>> UInt32.ofNat n) ||| (x <<< UInt32.ofNat (32 - n))

theorem u32_lt (x : UInt32) : x.toNat < 4294967296 := x.toNat_lt
theorem uadd (x y : UInt32) : IntKind.u32.wrap ((x.toNat : Int) + (y.toNat : Int)) = ((x + y).toNat : Int) := by
  rw [IntKind.wrap_u32', UInt32.toNat_add]; omega
theorem uxor (x y : UInt32) : bits BinOp.xor IntKind.u32 (x.toNat : Int) (y.toNat : Int) = ((x ^^^ y).toNat : Int) := by
  rw [u32_xor_nat _ _ (u32_lt x) (u32_lt y), UInt32.toNat_xor]
theorem uand (x y : UInt32) : bits BinOp.and IntKind.u32 (x.toNat : Int) (y.toNat : Int) = ((x &&& y).toNat : Int) := by
  rw [u32_and_nat _ _ (u32_lt x) (u32_lt y), UInt32.toNat_and]
theorem uor (x y : UInt32) : bits BinOp.or IntKind.u32 (x.toNat : Int) (y.toNat : Int) = ((x ||| y).toNat : Int) := by
  rw [u32_or_nat _ _ (u32_lt x) (u32_lt y), UInt32.toNat_or]
theorem ushr (x : UInt32) (n : Nat) (hn : n < 32) : (x.toNat : Int) / ((2 ^ n : Nat) : Int) = ((x >>> UInt32.ofNat n).toNat : Int) := by
  rw [UInt32.toNat_shiftRight]
  have : (UInt32.ofNat n).toNat % 32 = n := by rw [UInt32.toNat_ofNat']; omega
  rw [this, Nat.shiftRight_eq_div_pow]
  rfl
theorem ushl (x : UInt32) (n : Nat) (hn : n < 32) : (x.toNat : Int) * ((2 ^ n : Nat) : Int) % 4294967296 = ((x <<< UInt32.ofNat n).toNat : Int) := by
  rw [UInt32.toNat_shiftLeft]
  have : (UInt32.ofNat n).toNat % 32 = n := by rw [UInt32.toNat_ofNat']; omega
  rw [this, Nat.shiftLeft_eq]
  rfl
theorem urot (x : UInt32) (n : Nat) (h0 : 0 < n) (hn : n < 32) : bits BinOp.or IntKind.u32 ((x.toNat : Int) * ((2 ^ (32 - n) : Nat) : Int) % 4294967296) ((x.toNat : Int) / ((2 ^ n : Nat) : Int)) = ((rotr x n).toNat : Int) := by
  rw [ushl x _ (by omega), ushr x n hn, uor, rotr]
  congr 2
  exact UInt32.or_comm _ _
theorem urot' (x : UInt32) (n : Nat) (h0 : 0 < n) (hn : n < 32) : bits BinOp.or IntKind.u32 ((x.toNat : Int) / ((2 ^ n : Nat) : Int)) ((x.toNat : Int) * ((2 ^ (32 - n) : Nat) : Int) % 4294967296) = ((rotr x n).toNat : Int) := by
  rw [ushl x _ (by omega), ushr x n hn, uor, rotr]

/-- Four bytes, the greatest first. -/
def word4 (a b c d : UInt8) : UInt32 := UInt32.ofNat (((a.toNat * 256 + b.toNat) * 256 + c.toNat) * 256 + d.toNat)
theorem word4_toNat (a b c d : UInt8) : (word4 a b c d).toNat = ((a.toNat * 256 + b.toNat) * 256 + c.toNat) * 256 + d.toNat := by
  have h1 := a.toNat_lt; have h2 := b.toNat_lt; have h3 := c.toNat_lt; have h4 := d.toNat_lt
  unfold word4
  rw [UInt32.toNat_ofNat']
  omega
theorem uword (a b c d : UInt8) : bits BinOp.or IntKind.u32 (bits BinOp.or IntKind.u32 (bits BinOp.or IntKind.u32 ((a.toNat : Int) * 16777216) ((b.toNat : Int) * 65536)) ((c.toNat : Int) * 256)) (d.toNat : Int) = ((word4 a b c d).toNat : Int) := by
  have h1 := a.toNat_lt; have h2 := b.toNat_lt; have h3 := c.toNat_lt; have h4 := d.toNat_lt
  rw [show ((a.toNat : Int) * 16777216) = ((a.toNat * 16777216 : Nat) : Int) by omega, show ((b.toNat : Int) * 65536) = ((b.toNat * 65536 : Nat) : Int) by omega, show ((c.toNat : Int) * 256) = ((c.toNat * 256 : Nat) : Int) by omega]
  rw [u32_or_nat _ _ (by omega) (by omega), nat_join 24 _ _ (by omega) (by omega)]
  rw [u32_or_nat _ _ (by omega) (by omega), nat_join 16 _ _ (by omega) (by omega)]
  rw [u32_or_nat _ _ (by omega) (by omega), nat_join 8 _ _ (by omega) (by omega)]
  rw [word4_toNat]
  omega

/-- The words of the sixty-four rounds. -/
def shaK : List UInt32 := [
  0x428a2f98, 0x71374491, 0xb5c0fbcf, 0xe9b5dba5, 0x3956c25b, 0x59f111f1, 0x923f82a4, 0xab1c5ed5,
  0xd807aa98, 0x12835b01, 0x243185be, 0x550c7dc3, 0x72be5d74, 0x80deb1fe, 0x9bdc06a7, 0xc19bf174,
  0xe49b69c1, 0xefbe4786, 0x0fc19dc6, 0x240ca1cc, 0x2de92c6f, 0x4a7484aa, 0x5cb0a9dc, 0x76f988da,
  0x983e5152, 0xa831c66d, 0xb00327c8, 0xbf597fc7, 0xc6e00bf3, 0xd5a79147, 0x06ca6351, 0x14292967,
  0x27b70a85, 0x2e1b2138, 0x4d2c6dfc, 0x53380d13, 0x650a7354, 0x766a0abb, 0x81c2c92e, 0x92722c85,
  0xa2bfe8a1, 0xa81a664b, 0xc24b8b70, 0xc76c51a3, 0xd192e819, 0xd6990624, 0xf40e3585, 0x106aa070,
  0x19a4c116, 0x1e376c08, 0x2748774c, 0x34b0bcb5, 0x391c0cb3, 0x4ed8aa4a, 0x5b9cca4f, 0x682e6ff3,
  0x748f82ee, 0x78a5636f, 0x84c87814, 0x8cc70208, 0x90befffa, 0xa4506ceb, 0xbef9a3f7, 0xc67178f2]

/-- The first sixteen words of a block (as many of them as k). -/
def w16 (blk : List UInt8) (k : Nat) : List UInt32 := (List.range k).map fun i => word4 (blk.getD (4 * i) 0) (blk.getD (4 * i + 1) 0) (blk.getD (4 * i + 2) 0) (blk.getD (4 * i + 3) 0)
/-- The word behind those that are there. -/
def wnext (l : List UInt32) : UInt32 :=
  let x := l.getD (l.length - 15) 0; let y := l.getD (l.length - 2) 0
  l.getD (l.length - 16) 0 + l.getD (l.length - 7) 0 + (rotr x 7 ^^^ rotr x 18 ^^^ (x >>> 3)) + (rotr y 17 ^^^ rotr y 19 ^^^ (y >>> 10))
def wgrow : Nat → List UInt32 → List UInt32
  | 0, l => l
  | n + 1, l => wgrow n (l ++ [wnext l])
def sched (blk : List UInt8) : List UInt32 := wgrow 48 (w16 blk 16)

def wl (l : List UInt32) : Nat → List UInt32
  | 0 => l
  | k + 1 => wl l k ++ [wnext (wl l k)]
theorem wl_len (l : List UInt32) (k : Nat) : (wl l k).length = l.length + k := by
  induction k with
  | zero => rfl
  | succ k ih => simp [wl, ih]; omega
theorem wl_step (l : List UInt32) (k : Nat) : wl (l ++ [wnext l]) k = wl l (k + 1) := by
  induction k with
  | zero => rfl
  | succ k ih => rw [wl, ih]; rfl
theorem wgrow_wl (n : Nat) (l : List UInt32) : wgrow n l = wl l n := by
  induction n generalizing l with
  | zero => rfl
  | succ n ih => rw [wgrow, ih, wl_step]
theorem sched_wl (blk : List UInt8) : sched blk = wl (w16 blk 16) 48 := wgrow_wl _ _

/-- Eight words. -/
structure S8 where
  a : UInt32
  b : UInt32
  c : UInt32
  d : UInt32
  e : UInt32
  f : UInt32
  g : UInt32
  h : UInt32
def S8.list (s : S8) : List UInt32 := [s.a, s.b, s.c, s.d, s.e, s.f, s.g, s.h]
def t1 (s : S8) (k w : UInt32) : UInt32 := s.h + (rotr s.e 6 ^^^ rotr s.e 11 ^^^ rotr s.e 25) + (s.e &&& s.f ^^^ ~~~s.e &&& s.g) + k + w
def t2 (s : S8) : UInt32 := (rotr s.a 2 ^^^ rotr s.a 13 ^^^ rotr s.a 22) + (s.a &&& s.b ^^^ s.a &&& s.c ^^^ s.b &&& s.c)
def turnS (s : S8) (k w : UInt32) : S8 := ⟨t1 s k w + t2 s, s.a, s.b, s.c, s.d + t1 s k w, s.e, s.f, s.g⟩
def turns : List (UInt32 × UInt32) → S8 → S8
  | [], s => s
  | (k, w) :: l, s => turns l (turnS s k w)
def addS (s t : S8) : S8 := ⟨s.a + t.a, s.b + t.b, s.c + t.c, s.d + t.d, s.e + t.e, s.f + t.f, s.g + t.g, s.h + t.h⟩
def compS (s : S8) (blk : List UInt8) : S8 := addS s (turns (shaK.zip (sched blk)) s)
def blocksF (f : S8 → List UInt8 → S8) : Nat → List UInt8 → S8 → S8
  | 0, _, s => s
  | n + 1, m, s => blocksF f n (m.drop 64) (f s (m.take 64))
theorem blocksF_app (f : S8 → List UInt8 → S8) (q : Nat) (m x : List UInt8) (s : S8) (h : 64 * q ≤ m.length) : blocksF f q (m ++ x) s = blocksF f q m s := by
  induction q generalizing m s with
  | zero => rfl
  | succ q ih =>
    rw [blocksF, blocksF, List.take_append_of_le_length (by omega), List.drop_append_of_le_length (by omega), ih _ _ (by rw [List.length_drop]; omega)]
theorem blocksF_succ (f : S8 → List UInt8 → S8) (q : Nat) (m : List UInt8) (s : S8) : blocksF f (q + 1) m s = f (blocksF f q m s) ((m.drop (64 * q)).take 64) := by
  induction q generalizing m s with
  | zero => simp [blocksF]
  | succ q ih =>
    rw [blocksF, ih, List.drop_drop, blocksF, show 64 + 64 * q = 64 * (q + 1) by omega]
def blocksS (n : Nat) (m : List UInt8) (s : S8) : S8 := blocksF compS n m s
theorem blocksS_app (q : Nat) (m x : List UInt8) (s : S8) (h : 64 * q ≤ m.length) : blocksS q (m ++ x) s = blocksS q m s := blocksF_app compS q m x s h
theorem blocksS_succ (q : Nat) (m : List UInt8) (s : S8) : blocksS (q + 1) m s = compS (blocksS q m s) ((m.drop (64 * q)).take 64) := blocksF_succ compS q m s
def s0 : S8 := ⟨0x6a09e667, 0xbb67ae85, 0x3c6ef372, 0xa54ff53a, 0x510e527f, 0x9b05688c, 0x1f83d9ab, 0x5be0cd19⟩
/-- A number in eight bytes. -/
def be8 (n : Nat) : List UInt8 := (List.range 8).map fun i => UInt8.ofNat (n / 2 ^ (56 - 8 * i))
def tailS (n : Nat) : List UInt8 := 128 :: List.replicate (63 - (n + 8) % 64) 0 ++ be8 (n * 8)
/-- A word's four bytes. -/
def out4 (x : UInt32) : List UInt8 := [UInt8.ofNat (x.toNat / 16777216), UInt8.ofNat (x.toNat / 65536), UInt8.ofNat (x.toNat / 256), UInt8.ofNat x.toNat]
def sha (m : List UInt8) : List UInt8 := (blocksS ((m.length + 72) / 64) (m ++ tailS m.length) s0).list.flatMap out4
theorem sha_len (m : List UInt8) : (sha m).length = 32 := by simp [sha, S8.list, out4]
theorem sha_test : sha [97, 98, 99] = [0xba, 0x78, 0x16, 0xbf, 0x8f, 0x01, 0xcf, 0xea, 0x41, 0x41, 0x40, 0xde, 0x5d, 0xae, 0x22, 0x23, 0xb0, 0x03, 0x61, 0xa3, 0x96, 0x17, 0x7a, 0x9c, 0xb4, 0x10, 0xff, 0x61, 0xf2, 0x00, 0x15, 0xad] := by decide +kernel
end Go.Proofs.Ytnfegmcdljejnaa
