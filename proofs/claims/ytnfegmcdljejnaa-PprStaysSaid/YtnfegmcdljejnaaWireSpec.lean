/-
  The plain mathematics of the wire: the bytes of a number, and what the program's arithmetic makes of them. No program here.
-/
import Derived.Test.YtnfegmcdljejnaaBase
set_option linter.unusedSimpArgs false
set_option linter.unusedVariables false
namespace Go.Proofs.Ytnfegmcdljejnaa
open Go.RowKit

/-- The bytes of a number: in 1, 2, 4 or 8 of them. -/
def numB (n : Nat) : List UInt8 :=
  if n < 64 then [UInt8.ofNat n]
  else if n < 16384 then [UInt8.ofNat (64 + n / 256), UInt8.ofNat (n % 256)]
  else if n < 1073741824 then [UInt8.ofNat (128 + n / 16777216), UInt8.ofNat (n / 65536 % 256), UInt8.ofNat (n / 256 % 256), UInt8.ofNat (n % 256)]
  else [UInt8.ofNat (192 + n / 72057594037927936), UInt8.ofNat (n / 281474976710656 % 256), UInt8.ofNat (n / 1099511627776 % 256), UInt8.ofNat (n / 4294967296 % 256),
        UInt8.ofNat (n / 16777216 % 256), UInt8.ofNat (n / 65536 % 256), UInt8.ofNat (n / 256 % 256), UInt8.ofNat (n % 256)]

/-- A flag's byte. -/
def flagB (b : Bool) : UInt8 := if b then 1 else 0

theorem numB_len (n : Nat) : (numB n).length ≤ 8 := by
  unfold numB; split
  · simp
  · split
    · simp
    · split <;> simp

/-- Byte k of S bytes of kind K, as the program reckons it. -/
def kb (K S : Nat) (n : Int) (k : Nat) : Int := if k = 0 then bits BinOp.or IntKind.u8 (n / 2 ^ (8 * (S - 1 - k)) % 256) (64 * (K : Int)) else n / 2 ^ (8 * (S - 1 - k)) % 256
def kbs (K S : Nat) (n : Int) (k : Nat) : List Value := (List.range k).map fun i => Value.int .u8 (kb K S n i)
theorem kbs_succ (K S : Nat) (n : Int) (k : Nat) : kbs K S n (k + 1) = kbs K S n k ++ [Value.int .u8 (kb K S n k)] := by simp [kbs, List.range_succ]
theorem kbs_len (K S : Nat) (n : Int) (k : Nat) : (kbs K S n k).length = k := by simp [kbs]

theorem or_u8_0 (a : Int) (h0 : 0 ≤ a) (h1 : a < 256) : bits BinOp.or IntKind.u8 a 0 = a := by
  obtain ⟨n, rfl⟩ := Int.eq_ofNat_of_zero_le h0
  have : ∀ m : Fin 256, bits BinOp.or IntKind.u8 (m.val : Int) 0 = (m.val : Int) := by decide +kernel
  exact this ⟨n, by omega⟩
theorem or_u8_64 (a : Int) (h0 : 0 ≤ a) (h1 : a < 64) : bits BinOp.or IntKind.u8 a 64 = 64 + a := by
  obtain ⟨n, rfl⟩ := Int.eq_ofNat_of_zero_le h0
  have : ∀ m : Fin 64, bits BinOp.or IntKind.u8 (m.val : Int) 64 = 64 + (m.val : Int) := by decide +kernel
  exact this ⟨n, by omega⟩
theorem or_u8_128 (a : Int) (h0 : 0 ≤ a) (h1 : a < 64) : bits BinOp.or IntKind.u8 a 128 = 128 + a := by
  obtain ⟨n, rfl⟩ := Int.eq_ofNat_of_zero_le h0
  have : ∀ m : Fin 64, bits BinOp.or IntKind.u8 (m.val : Int) 128 = 128 + (m.val : Int) := by decide +kernel
  exact this ⟨n, by omega⟩
theorem or_u8_192 (a : Int) (h0 : 0 ≤ a) (h1 : a < 64) : bits BinOp.or IntKind.u8 a 192 = 192 + a := by
  obtain ⟨n, rfl⟩ := Int.eq_ofNat_of_zero_le h0
  have : ∀ m : Fin 64, bits BinOp.or IntKind.u8 (m.val : Int) 192 = 192 + (m.val : Int) := by decide +kernel
  exact this ⟨n, by omega⟩

theorem bv_ofNat (m : Nat) (h : m < 256) (a : Int) (ha : a = (m : Int)) : Value.int .u8 a = bv (UInt8.ofNat m) := by
  subst ha
  simp only [bv, UInt8.toNat_ofNat']
  rw [Nat.mod_eq_of_lt (by omega)]

theorem kbs_1 (n : Nat) (h : n < 64) : kbs 0 1 n 1 = (numB n).map bv := by
  simp only [kbs, numB, if_pos h, List.range_succ, List.range_zero, List.map_cons, List.map_nil, List.nil_append, kb]
  congr 1
  refine bv_ofNat n (by omega) _ ?_
  simp only [if_true]
  rw [show (64 * ((0 : Nat) : Int)) = 0 from rfl, or_u8_0] <;> simp <;> omega
theorem kbs_2 (n : Nat) (h0 : 64 ≤ n) (h : n < 16384) : kbs 1 2 n 2 = (numB n).map bv := by
  simp only [kbs, numB, if_neg (show ¬ n < 64 by omega), if_pos h, List.range_succ, List.range_zero, List.map_cons, List.map_nil, List.nil_append, List.map_append, List.cons_append, kb]
  congr 1
  · refine bv_ofNat _ (by omega) _ ?_
    simp only [if_true]
    rw [show (64 * ((1 : Nat) : Int)) = 64 from rfl, or_u8_64] <;> simp <;> omega
  congr 1
  · refine bv_ofNat _ (by omega) _ ?_
    simp
theorem kbs_4 (n : Nat) (h0 : 16384 ≤ n) (h : n < 1073741824) : kbs 2 4 n 4 = (numB n).map bv := by
  simp only [kbs, numB, if_neg (show ¬ n < 64 by omega), if_neg (show ¬ n < 16384 by omega), if_pos h, List.range_succ, List.range_zero, List.map_cons, List.map_nil, List.nil_append, List.map_append, List.cons_append, kb]
  congr 1
  · refine bv_ofNat _ (by omega) _ ?_
    simp only [if_true]
    rw [show (64 * ((2 : Nat) : Int)) = 128 from rfl, or_u8_128] <;> simp <;> omega
  congr 1
  · exact bv_ofNat _ (by omega) _ (by simp)
  congr 1
  · exact bv_ofNat _ (by omega) _ (by simp)
  congr 1
  · exact bv_ofNat _ (by omega) _ (by simp)
theorem kbs_8 (n : Nat) (h0 : 1073741824 ≤ n) (h : n ≤ 4611686018427387903) : kbs 3 8 n 8 = (numB n).map bv := by
  simp only [kbs, numB, if_neg (show ¬ n < 64 by omega), if_neg (show ¬ n < 16384 by omega), if_neg (show ¬ n < 1073741824 by omega), List.range_succ, List.range_zero, List.map_cons, List.map_nil, List.nil_append, List.map_append, List.cons_append, kb]
  congr 1
  · refine bv_ofNat _ (by omega) _ ?_
    simp only [if_true]
    rw [show (64 * ((3 : Nat) : Int)) = 192 from rfl, or_u8_192] <;> simp <;> omega
  congr 1
  · exact bv_ofNat _ (by omega) _ (by simp)
  congr 1
  · exact bv_ofNat _ (by omega) _ (by simp)
  congr 1
  · exact bv_ofNat _ (by omega) _ (by simp)
  congr 1
  · exact bv_ofNat _ (by omega) _ (by simp)
  congr 1
  · exact bv_ofNat _ (by omega) _ (by simp)
  congr 1
  · exact bv_ofNat _ (by omega) _ (by simp)
  congr 1
  · exact bv_ofNat _ (by omega) _ (by simp)
end Go.Proofs.Ytnfegmcdljejnaa
