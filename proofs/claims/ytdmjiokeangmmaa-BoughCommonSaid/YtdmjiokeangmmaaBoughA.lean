/-
  Contracts of the small functions on trees: each gives what the plain text says, and leaves the world as it was.
-/
import Derived.Test.YtdmjiokeangmmaaChecked
import Derived.Test.YtdmjiokeangmmaaBoughPlain
import Derived.WalkKit
import Derived.WalkSpells
import Derived.Handy
import Derived.Lib.Hide
set_option linter.unusedSimpArgs false
set_option linter.unusedVariables false
namespace Go.Proofs.Ytdmjiokeangmmaa.Bg
open Go.RowKit

def thereI (n x : Int) : Bool := decide (1 ≤ n) && decide (n ≤ 64) && decide (0 ≤ x) && decide (x ≤ 2 * n - 2)

set_option maxRecDepth 100000 in
theorem there_calls (n x : Int) (w : World) : Calls Try.prog 35 #[.int .i64 n, .int .i64 x] w fun e w' => e = .returned (.bool (thereI n x)) ∧ w = w' := by
  unfold thereI
  go_enter Try.func35, Try.ntmps35
  by_cases h1 : 1 ≤ n
  · by_cases h2 : n ≤ 64
    · by_cases h3 : 0 ≤ x
      · go_wp2
        go_returns
        exact ⟨by simp; omega, rfl⟩
      · go_wp2
        go_returns
        exact ⟨by simp; omega, rfl⟩
    · go_wp2
      go_returns
      exact ⟨by simp; omega, rfl⟩
  · go_wp2
    go_returns
    exact ⟨by simp; omega, rfl⟩

set_option maxRecDepth 100000 in
theorem rthere_calls (n x : Int) (w : World) : Calls Try.prog 34 #[.int .i64 n, .int .i64 x] w fun e w' => e = .returned (.bool (thereI n x)) ∧ w = w' := by
  unfold thereI
  go_enter Try.func34, Try.ntmps34
  by_cases h1 : 1 ≤ n
  · by_cases h2 : n ≤ 64
    · by_cases h3 : 0 ≤ x
      · go_wp2
        go_returns
        exact ⟨by simp; omega, rfl⟩
      · go_wp2
        go_returns
        exact ⟨by simp; omega, rfl⟩
    · go_wp2
      go_returns
      exact ⟨by simp; omega, rfl⟩
  · go_wp2
    go_returns
    exact ⟨by simp; omega, rfl⟩

theorem bits1 : ∀ y, y < 256 → bits BinOp.and IntKind.i64 (y : Nat) 1 = ((y % 2 : Nat) : Int) := by decide +kernel

theorem level_odd : ∀ a, a < 256 → a % 2 = 1 → level a = level (a / 2) + 1 := by decide +kernel
theorem level_even : ∀ a, a < 256 → a % 2 = 0 → level a = 0 := by decide +kernel
theorem level_le : ∀ a, a < 256 → level a ≤ 8 := by decide +kernel

set_option maxRecDepth 100000 in
theorem level_calls (x : Nat) (hx : x < 256) (w : World) : Calls Try.prog 36 #[.int .i64 x] w fun e w' => e = .returned (.int .i64 (level x : Nat)) ∧ w = w' := by
  have hlx := level_le x hx
  generalize hL : level x = L at *
  go_enter Try.func36, Try.ntmps36
  go_wp2
  go_loopw [0, 3] (fun y k wr => ∃ (a c : Nat), y = .int .i64 a ∧ k = .int .i64 c ∧ a < 256 ∧ c + level a = L ∧ w = wr) (fun y _ _ => (intOf y).toNat)
  case atStart => exact ⟨x, 0, rfl, rfl, by omega, by omega, rfl⟩
  case round =>
    obtain ⟨a, c, rfl, rfl, ha, hl, rfl⟩ := hrel
    have hb := bits1 a ha
    rcases Nat.mod_two_eq_zero_or_one a with h | h
    · rw [h] at hb
      rw [level_even a ha h] at hl
      obtain rfl : c = L := by omega
      go_wp2
      go_returns
      exact ⟨rfl, rfl⟩
    · rw [h] at hb
      rw [level_odd a ha h] at hl
      go_wp2
      go_roundw
      case rel => exact ⟨a / 2, c + 1, by simp, by simp, by omega, by omega, trivial⟩
      case measure => simp [intOf]; omega

theorem thereI_of (n x : Nat) : thereI n x = there n x := by
  unfold thereI there
  rw [Bool.eq_iff_iff]
  simp
  omega
theorem thereI_0 (n : Nat) (h1 : 1 ≤ n) (h2 : n ≤ 64) : thereI n 0 = true := by
  unfold thereI; simp; omega

set_option maxRecDepth 100000 in
theorem root_calls (n : Nat) (h1 : 1 ≤ n) (h2 : n ≤ 64) (w : World) : Calls Try.prog 24 #[.int .i64 n] w fun e w' => e = .returned (.int .i64 (root n : Nat)) ∧ w = w' := by
  go_enter Try.func24, Try.ntmps24
  go_wp2_with fail
  refine (there_calls n 0 _).mono ?_
  rintro e w1 ⟨rfl, rfl⟩
  rw [thereI_0 n h1 h2]
  go_wp2_with fail
  go_loopw [3] (fun k wr => ∃ c : Int, k = .int .i64 c ∧ ((c = 1) ∨ (c = 2 ∧ 1 < n) ∨ (c = 4 ∧ 2 < n) ∨ (c = 8 ∧ 4 < n) ∨ (c = 16 ∧ 8 < n) ∨ (c = 32 ∧ 16 < n) ∨ (c = 64 ∧ 32 < n)) ∧ w = wr) (fun k _ => 64 - (intOf k).toNat)
  case atStart => exact ⟨1, rfl, .inl rfl, rfl⟩
  case round =>
    obtain ⟨c, rfl, hc, rfl⟩ := hrel
    by_cases hlt : c < n
    · have h64 : c ≤ 32 := by omega
      have h0 : 1 ≤ c := by omega
      go_wp2
      go_roundw
      case rel => exact ⟨c * 2, rfl, by omega, trivial⟩
      case measure => simp [intOf]; omega
    · have h64 : c ≤ 64 := by omega
      have h0 : 1 ≤ c := by omega
      have hr : ((root n : Nat) : Int) = c - 1 := by
        unfold root
        rcases hc with rfl | ⟨rfl, h⟩ | ⟨rfl, h⟩ | ⟨rfl, h⟩ | ⟨rfl, h⟩ | ⟨rfl, h⟩ | ⟨rfl, h⟩ <;> (repeat' split) <;> omega
      have HR := Lib.hid hr
      clear hr
      go_wp2
      go_returns
      rw [HR.out]
      exact ⟨rfl, rfl⟩

set_option maxRecDepth 100000 in
theorem half_calls (n : Nat) (h2 : n ≤ 64) (w : World) : Calls Try.prog 39 #[.int .i64 n] w fun e w' => e = .returned (.int .i64 (half n : Nat)) ∧ w = w' := by
  go_enter Try.func39, Try.ntmps39
  go_wp2_with fail
  go_loopw [3] (fun k wr => ∃ c : Int, k = .int .i64 c ∧ ((c = 1) ∨ (c = 2 ∧ 2 < n) ∨ (c = 4 ∧ 4 < n) ∨ (c = 8 ∧ 8 < n) ∨ (c = 16 ∧ 16 < n) ∨ (c = 32 ∧ 32 < n)) ∧ w = wr) (fun k _ => 64 - (intOf k).toNat)
  case atStart => exact ⟨1, rfl, .inl rfl, rfl⟩
  case round =>
    obtain ⟨c, rfl, hc, rfl⟩ := hrel
    by_cases hlt : 2 * c < n
    · have h64 : c ≤ 32 := by omega
      have h0 : 1 ≤ c := by omega
      go_wp2
      go_roundw
      case rel => exact ⟨2 * c, rfl, by omega, trivial⟩
      case measure => simp [intOf]; omega
    · have h64 : c ≤ 64 := by omega
      have h0 : 1 ≤ c := by omega
      have hr : ((half n : Nat) : Int) = c := by
        unfold half
        rcases hc with rfl | ⟨rfl, h⟩ | ⟨rfl, h⟩ | ⟨rfl, h⟩ | ⟨rfl, h⟩ | ⟨rfl, h⟩ <;> (repeat' split) <;> omega
      have HR := Lib.hid hr
      clear hr
      go_wp2
      go_returns
      rw [HR.out]
      exact ⟨rfl, rfl⟩
theorem half_pos (n : Nat) : 1 ≤ half n ∧ half n ≤ 32 := by unfold half; (repeat' split) <;> omega
theorem half_lt (n : Nat) (h : 2 ≤ n) (h2 : n ≤ 64) : half n < n ∧ n ≤ 2 * half n := by unfold half; (repeat' split) <;> omega

set_option maxRecDepth 100000 in
theorem rroot_calls (a n : Nat) (ha : a ≤ 128) (h2 : n ≤ 64) (w : World) : Calls Try.prog 38 #[.int .i64 a, .int .i64 n] w fun e w' => e = .returned (.int .i64 (rroot a n : Nat)) ∧ w = w' := by
  have hp := half_pos n
  by_cases h1 : n = 1
  · have hr : ((rroot a n : Nat) : Int) = 2 * (a : Int) := by unfold rroot; rw [if_pos h1]; omega
    rw [hr]
    subst h1
    go_enter Try.func38, Try.ntmps38
    go_wp2
    go_returns
    exact ⟨rfl, rfl⟩
  · have hr : ((rroot a n : Nat) : Int) = 2 * ((a : Int) + (half n : Nat)) - 1 := by unfold rroot; rw [if_neg h1]; omega
    rw [hr]
    have h1' : ¬ (n : Int) = 1 := by omega
    go_enter Try.func38, Try.ntmps38
    go_wp2_with fail
    refine (half_calls n h2 _).mono ?_
    rintro e w1 ⟨rfl, rfl⟩
    go_wp2
    go_returns
    exact ⟨rfl, rfl⟩
end Go.Proofs.Ytdmjiokeangmmaa.Bg
