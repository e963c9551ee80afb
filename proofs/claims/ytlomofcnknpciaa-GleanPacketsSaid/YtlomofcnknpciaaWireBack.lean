/-
  What was written is read back; what is read is written back: plain lemmas.
-/
import Derived.Test.YtlomofcnknpciaaWireR2
set_option linter.unusedSimpArgs false
set_option linter.unusedVariables false
namespace Go.Proofs.Ytlomofcnknpciaa
open Go.RowKit

theorem rNum_of (c : UInt8) (t l : List UInt8) (K n : Nat) (most : Int) (hK : c.toNat / 64 = K) (ht : t.length = 2 ^ K - 1) (hbe : be t (c.toNat % 64) = n) (hlow : lowB K n = false) (hm : (n : Int) ≤ most) :
    rNum most (c :: (t ++ l), 0) = ((n : Int), (l, 0)) := by
  have hp : 0 < 2 ^ K := Nat.two_pow_pos K
  have hv : rNumV c (t ++ l) = n := by
    rw [rNumV, hK, ← ht, List.take_left, hbe]
  simp only [rNum, hv, hK, hlow]
  rw [if_neg (by simp), if_neg (by rw [List.length_append]; omega), if_neg (by simp), if_neg (by omega), ← ht, List.drop_left]

/-- A number's bytes, whatever stands behind them, are read as that number. -/
theorem rNum_back (n : Nat) (hn : n ≤ 4611686018427387903) (l : List UInt8) (most : Int) (hmost : (n : Int) ≤ most) : rNum most (numB n ++ l, 0) = ((n : Int), (l, 0)) := by
  unfold numB
  split
  · refine rNum_of _ [] l 0 n most ?_ rfl ?_ rfl hmost <;> simp [be] <;> omega
  · split
    · refine rNum_of _ [_] l 1 n most ?_ rfl ?_ ?_ hmost
      · simp; omega
      · simp [be]; omega
      · simp [lowB]; omega
    · split
      · refine rNum_of _ [_, _, _] l 2 n most ?_ rfl ?_ ?_ hmost
        · simp; omega
        · simp [be]; omega
        · simp [lowB]; omega
      · refine rNum_of _ [_, _, _, _, _, _, _] l 3 n most ?_ rfl ?_ ?_ hmost
        · simp; omega
        · simp [be]; omega
        · simp [lowB]; omega
theorem rText_back (t l : List UInt8) (ht : t.length ≤ 65536) (most : Int) (hm : (t.length : Int) ≤ most) : rText most (numB t.length ++ t ++ l, 0) = (t, (l, 0)) := by
  have h := rNum_back t.length (by omega) (t ++ l) (min most 65536) (by omega)
  rw [List.append_assoc]
  simp [rText, h]
  omega
theorem rHash_back (t l : List UInt8) (ht : t.length = 32) : rHash (t ++ l, 0) = (t, (l, 0)) := by
  simp [rHash, ht]
theorem rFlag_back (f : Bool) (l : List UInt8) : rFlag ([flagB f] ++ l, 0) = (f, (l, 0)) := by
  cases f <;> rfl
end Go.Proofs.Ytlomofcnknpciaa
