/-
  The document's SHA-256: its small functions.
-/
import Derived.Test.YtjlpdbaknhbgdaaShaSum
import Derived.Test.YtjlpdbaknhbgdaaKit0
set_option linter.unusedSimpArgs false
set_option linter.unusedVariables false
namespace Go.Proofs.Ytjlpdbaknhbgdaa
open Go.RowKit

theorem trn2 (x : UInt32) (w : World) : Calls Try.prog 48 #[.int .u32 (x.toNat : Int), .int .u64 2] w fun e w' => e = .returned (.int .u32 ((rotr x 2).toNat : Int)) ∧ w = w' := by
  have hx : x.toNat < 4294967296 := x.toNat_lt
  have R := Lib.hid (urot' x 2 (by omega) (by omega))
  go_enter Try.func48, Try.ntmps48
  go_wp2
  go_returns
  rw [← R.out]; exact ⟨rfl, rfl⟩
theorem trn2' (x : UInt32) (w : World) : Calls Try.prog 48 #[.int .u32 (x.toNat : Int), .int .u64 2] w fun e w' => e = .returned (.int .u32 ((rotr x 2).toNat : Int)) ∧ w' = w := (trn2 x w).mono fun _ _ ⟨he, hm⟩ => ⟨he, hm.symm⟩
theorem trnq2 (x : UInt32) (w : World) (n : Nat) : Calls Try.prog 48 #[.int .u32 (x.toNat : Int), .int .u64 2] (w.drewN n) fun e w' => e = .returned (.int .u32 ((rotr x 2).toNat : Int)) ∧ ∃ m, w' = w.drewN m := (trn2 x _).mono fun _ _ ⟨he, hm⟩ => ⟨he, n, hm.symm⟩
theorem trn6 (x : UInt32) (w : World) : Calls Try.prog 48 #[.int .u32 (x.toNat : Int), .int .u64 6] w fun e w' => e = .returned (.int .u32 ((rotr x 6).toNat : Int)) ∧ w = w' := by
  have hx : x.toNat < 4294967296 := x.toNat_lt
  have R := Lib.hid (urot' x 6 (by omega) (by omega))
  go_enter Try.func48, Try.ntmps48
  go_wp2
  go_returns
  rw [← R.out]; exact ⟨rfl, rfl⟩
theorem trn6' (x : UInt32) (w : World) : Calls Try.prog 48 #[.int .u32 (x.toNat : Int), .int .u64 6] w fun e w' => e = .returned (.int .u32 ((rotr x 6).toNat : Int)) ∧ w' = w := (trn6 x w).mono fun _ _ ⟨he, hm⟩ => ⟨he, hm.symm⟩
theorem trnq6 (x : UInt32) (w : World) (n : Nat) : Calls Try.prog 48 #[.int .u32 (x.toNat : Int), .int .u64 6] (w.drewN n) fun e w' => e = .returned (.int .u32 ((rotr x 6).toNat : Int)) ∧ ∃ m, w' = w.drewN m := (trn6 x _).mono fun _ _ ⟨he, hm⟩ => ⟨he, n, hm.symm⟩
theorem trn7 (x : UInt32) (w : World) : Calls Try.prog 48 #[.int .u32 (x.toNat : Int), .int .u64 7] w fun e w' => e = .returned (.int .u32 ((rotr x 7).toNat : Int)) ∧ w = w' := by
  have hx : x.toNat < 4294967296 := x.toNat_lt
  have R := Lib.hid (urot' x 7 (by omega) (by omega))
  go_enter Try.func48, Try.ntmps48
  go_wp2
  go_returns
  rw [← R.out]; exact ⟨rfl, rfl⟩
theorem trn7' (x : UInt32) (w : World) : Calls Try.prog 48 #[.int .u32 (x.toNat : Int), .int .u64 7] w fun e w' => e = .returned (.int .u32 ((rotr x 7).toNat : Int)) ∧ w' = w := (trn7 x w).mono fun _ _ ⟨he, hm⟩ => ⟨he, hm.symm⟩
theorem trnq7 (x : UInt32) (w : World) (n : Nat) : Calls Try.prog 48 #[.int .u32 (x.toNat : Int), .int .u64 7] (w.drewN n) fun e w' => e = .returned (.int .u32 ((rotr x 7).toNat : Int)) ∧ ∃ m, w' = w.drewN m := (trn7 x _).mono fun _ _ ⟨he, hm⟩ => ⟨he, n, hm.symm⟩
theorem trn11 (x : UInt32) (w : World) : Calls Try.prog 48 #[.int .u32 (x.toNat : Int), .int .u64 11] w fun e w' => e = .returned (.int .u32 ((rotr x 11).toNat : Int)) ∧ w = w' := by
  have hx : x.toNat < 4294967296 := x.toNat_lt
  have R := Lib.hid (urot' x 11 (by omega) (by omega))
  go_enter Try.func48, Try.ntmps48
  go_wp2
  go_returns
  rw [← R.out]; exact ⟨rfl, rfl⟩
theorem trn11' (x : UInt32) (w : World) : Calls Try.prog 48 #[.int .u32 (x.toNat : Int), .int .u64 11] w fun e w' => e = .returned (.int .u32 ((rotr x 11).toNat : Int)) ∧ w' = w := (trn11 x w).mono fun _ _ ⟨he, hm⟩ => ⟨he, hm.symm⟩
theorem trnq11 (x : UInt32) (w : World) (n : Nat) : Calls Try.prog 48 #[.int .u32 (x.toNat : Int), .int .u64 11] (w.drewN n) fun e w' => e = .returned (.int .u32 ((rotr x 11).toNat : Int)) ∧ ∃ m, w' = w.drewN m := (trn11 x _).mono fun _ _ ⟨he, hm⟩ => ⟨he, n, hm.symm⟩
theorem trn13 (x : UInt32) (w : World) : Calls Try.prog 48 #[.int .u32 (x.toNat : Int), .int .u64 13] w fun e w' => e = .returned (.int .u32 ((rotr x 13).toNat : Int)) ∧ w = w' := by
  have hx : x.toNat < 4294967296 := x.toNat_lt
  have R := Lib.hid (urot' x 13 (by omega) (by omega))
  go_enter Try.func48, Try.ntmps48
  go_wp2
  go_returns
  rw [← R.out]; exact ⟨rfl, rfl⟩
theorem trn13' (x : UInt32) (w : World) : Calls Try.prog 48 #[.int .u32 (x.toNat : Int), .int .u64 13] w fun e w' => e = .returned (.int .u32 ((rotr x 13).toNat : Int)) ∧ w' = w := (trn13 x w).mono fun _ _ ⟨he, hm⟩ => ⟨he, hm.symm⟩
theorem trnq13 (x : UInt32) (w : World) (n : Nat) : Calls Try.prog 48 #[.int .u32 (x.toNat : Int), .int .u64 13] (w.drewN n) fun e w' => e = .returned (.int .u32 ((rotr x 13).toNat : Int)) ∧ ∃ m, w' = w.drewN m := (trn13 x _).mono fun _ _ ⟨he, hm⟩ => ⟨he, n, hm.symm⟩
theorem trn17 (x : UInt32) (w : World) : Calls Try.prog 48 #[.int .u32 (x.toNat : Int), .int .u64 17] w fun e w' => e = .returned (.int .u32 ((rotr x 17).toNat : Int)) ∧ w = w' := by
  have hx : x.toNat < 4294967296 := x.toNat_lt
  have R := Lib.hid (urot' x 17 (by omega) (by omega))
  go_enter Try.func48, Try.ntmps48
  go_wp2
  go_returns
  rw [← R.out]; exact ⟨rfl, rfl⟩
theorem trn17' (x : UInt32) (w : World) : Calls Try.prog 48 #[.int .u32 (x.toNat : Int), .int .u64 17] w fun e w' => e = .returned (.int .u32 ((rotr x 17).toNat : Int)) ∧ w' = w := (trn17 x w).mono fun _ _ ⟨he, hm⟩ => ⟨he, hm.symm⟩
theorem trnq17 (x : UInt32) (w : World) (n : Nat) : Calls Try.prog 48 #[.int .u32 (x.toNat : Int), .int .u64 17] (w.drewN n) fun e w' => e = .returned (.int .u32 ((rotr x 17).toNat : Int)) ∧ ∃ m, w' = w.drewN m := (trn17 x _).mono fun _ _ ⟨he, hm⟩ => ⟨he, n, hm.symm⟩
theorem trn18 (x : UInt32) (w : World) : Calls Try.prog 48 #[.int .u32 (x.toNat : Int), .int .u64 18] w fun e w' => e = .returned (.int .u32 ((rotr x 18).toNat : Int)) ∧ w = w' := by
  have hx : x.toNat < 4294967296 := x.toNat_lt
  have R := Lib.hid (urot' x 18 (by omega) (by omega))
  go_enter Try.func48, Try.ntmps48
  go_wp2
  go_returns
  rw [← R.out]; exact ⟨rfl, rfl⟩
theorem trn18' (x : UInt32) (w : World) : Calls Try.prog 48 #[.int .u32 (x.toNat : Int), .int .u64 18] w fun e w' => e = .returned (.int .u32 ((rotr x 18).toNat : Int)) ∧ w' = w := (trn18 x w).mono fun _ _ ⟨he, hm⟩ => ⟨he, hm.symm⟩
theorem trnq18 (x : UInt32) (w : World) (n : Nat) : Calls Try.prog 48 #[.int .u32 (x.toNat : Int), .int .u64 18] (w.drewN n) fun e w' => e = .returned (.int .u32 ((rotr x 18).toNat : Int)) ∧ ∃ m, w' = w.drewN m := (trn18 x _).mono fun _ _ ⟨he, hm⟩ => ⟨he, n, hm.symm⟩
theorem trn19 (x : UInt32) (w : World) : Calls Try.prog 48 #[.int .u32 (x.toNat : Int), .int .u64 19] w fun e w' => e = .returned (.int .u32 ((rotr x 19).toNat : Int)) ∧ w = w' := by
  have hx : x.toNat < 4294967296 := x.toNat_lt
  have R := Lib.hid (urot' x 19 (by omega) (by omega))
  go_enter Try.func48, Try.ntmps48
  go_wp2
  go_returns
  rw [← R.out]; exact ⟨rfl, rfl⟩
theorem trn19' (x : UInt32) (w : World) : Calls Try.prog 48 #[.int .u32 (x.toNat : Int), .int .u64 19] w fun e w' => e = .returned (.int .u32 ((rotr x 19).toNat : Int)) ∧ w' = w := (trn19 x w).mono fun _ _ ⟨he, hm⟩ => ⟨he, hm.symm⟩
theorem trnq19 (x : UInt32) (w : World) (n : Nat) : Calls Try.prog 48 #[.int .u32 (x.toNat : Int), .int .u64 19] (w.drewN n) fun e w' => e = .returned (.int .u32 ((rotr x 19).toNat : Int)) ∧ ∃ m, w' = w.drewN m := (trn19 x _).mono fun _ _ ⟨he, hm⟩ => ⟨he, n, hm.symm⟩
theorem trn22 (x : UInt32) (w : World) : Calls Try.prog 48 #[.int .u32 (x.toNat : Int), .int .u64 22] w fun e w' => e = .returned (.int .u32 ((rotr x 22).toNat : Int)) ∧ w = w' := by
  have hx : x.toNat < 4294967296 := x.toNat_lt
  have R := Lib.hid (urot' x 22 (by omega) (by omega))
  go_enter Try.func48, Try.ntmps48
  go_wp2
  go_returns
  rw [← R.out]; exact ⟨rfl, rfl⟩
theorem trn22' (x : UInt32) (w : World) : Calls Try.prog 48 #[.int .u32 (x.toNat : Int), .int .u64 22] w fun e w' => e = .returned (.int .u32 ((rotr x 22).toNat : Int)) ∧ w' = w := (trn22 x w).mono fun _ _ ⟨he, hm⟩ => ⟨he, hm.symm⟩
theorem trnq22 (x : UInt32) (w : World) (n : Nat) : Calls Try.prog 48 #[.int .u32 (x.toNat : Int), .int .u64 22] (w.drewN n) fun e w' => e = .returned (.int .u32 ((rotr x 22).toNat : Int)) ∧ ∃ m, w' = w.drewN m := (trn22 x _).mono fun _ _ ⟨he, hm⟩ => ⟨he, n, hm.symm⟩
theorem trn25 (x : UInt32) (w : World) : Calls Try.prog 48 #[.int .u32 (x.toNat : Int), .int .u64 25] w fun e w' => e = .returned (.int .u32 ((rotr x 25).toNat : Int)) ∧ w = w' := by
  have hx : x.toNat < 4294967296 := x.toNat_lt
  have R := Lib.hid (urot' x 25 (by omega) (by omega))
  go_enter Try.func48, Try.ntmps48
  go_wp2
  go_returns
  rw [← R.out]; exact ⟨rfl, rfl⟩
theorem trn25' (x : UInt32) (w : World) : Calls Try.prog 48 #[.int .u32 (x.toNat : Int), .int .u64 25] w fun e w' => e = .returned (.int .u32 ((rotr x 25).toNat : Int)) ∧ w' = w := (trn25 x w).mono fun _ _ ⟨he, hm⟩ => ⟨he, hm.symm⟩
theorem trnq25 (x : UInt32) (w : World) (n : Nat) : Calls Try.prog 48 #[.int .u32 (x.toNat : Int), .int .u64 25] (w.drewN n) fun e w' => e = .returned (.int .u32 ((rotr x 25).toNat : Int)) ∧ ∃ m, w' = w.drewN m := (trn25 x _).mono fun _ _ ⟨he, hm⟩ => ⟨he, n, hm.symm⟩

theorem word_calls (g len cap i : Nat) (c0 c1 c2 c3 : UInt8) (w : World) (hi : i + 4 ≤ len) (hl : len ≤ 1099511627776) (h0 : w.cell? ⟨g, i, none⟩ = some (bv c0)) (h1 : w.cell? ⟨g, i + 1, none⟩ = some (bv c1)) (h2 : w.cell? ⟨g, i + 2, none⟩ = some (bv c2)) (h3 : w.cell? ⟨g, i + 3, none⟩ = some (bv c3)) :
    Calls Try.prog 47 #[.slice (some ⟨g, 0, none⟩) len cap, .int .i64 i] w fun e w' => e = .returned (.int .u32 ((word4 c0 c1 c2 c3).toNat : Int)) ∧ ∃ n, w' = w.drewN n := by
  have l0 := c0.toNat_lt
  have l1 := c1.toNat_lt
  have l2 := c2.toNat_lt
  have l3 := c3.toNat_lt
  have R := Lib.hid (uword c0 c1 c2 c3)
  unfold bv at h0 h1 h2 h3
  go_enter Try.func47, Try.ntmps47
  go_wp2_with fail
  go_quiet (fail)
  go_wp2_with fail
  go_returns
  rw [R.out]
  exact ⟨rfl, _, rfl⟩

def sliceLen : Value → Nat
  | .slice _ n _ => n
  | _ => 0
/-- What the document's padding is, byte by byte. -/
def padZ (n : Nat) : Nat := 63 - (n + 8) % 64
theorem tailS_eq (n : Nat) : tailS n = (128 :: List.replicate (padZ n) 0) ++ be8 (n * 8) := rfl
theorem be8_len (n : Nat) : (be8 n).length = 8 := by simp [be8]
theorem be8_take (n k : Nat) (h : k < 8) : (be8 n).take (k + 1) = (be8 n).take k ++ [UInt8.ofNat (n / 2 ^ (56 - 8 * k))] := by
  rw [List.take_succ_eq_append_getElem (by rw [be8_len]; exact h)]
  simp [be8]
end Go.Proofs.Ytjlpdbaknhbgdaa
