/-
  Contracts of the code's sides, the node above, the one beside, the leaves.
-/
import Derived.Test.YtdmjiokeangmmaaBoughA
set_option linter.unusedSimpArgs false
set_option linter.unusedVariables false
namespace Go.Proofs.Ytdmjiokeangmmaa.Bg
open Go.RowKit

theorem wrap64_id {x : Int} (h0 : -9223372036854775808 ≤ x) (h1 : x ≤ 9223372036854775807) : wrap64 x = x := by
  unfold wrap64; omega
theorem pow_le (k : Nat) (h : k ≤ 8) : 2 ^ (k - 1) ≤ 128 := by
  have := Nat.pow_le_pow_right (n := 2) (by omega) (show k - 1 ≤ 7 by omega)
  omega
theorem pow_wrap0 : ∀ k, k < 10 → wrap64 (2 ^ k) = ((2 ^ k : Nat) : Int) := by decide +kernel
theorem pow_wrap (k : Nat) (h : k ≤ 9) : wrap64 (2 ^ k) = ((2 ^ k : Nat) : Int) := pow_wrap0 k (by omega)
theorem level_sub : ∀ x, x < 256 → level x ≠ 0 → 2 ^ (level x - 1) ≤ x := by decide +kernel

set_option maxRecDepth 100000 in
theorem left_yes (n x : Nat) (h : there n x = true) (w : World) : Calls Try.prog 23 #[.int .i64 n, .int .i64 x] w fun e w' => e = .returned (.int .i64 (left n x)) ∧ w = w' := by
  have hx : x < 128 := by unfold there at h; simp at h; omega
  have hl := level_le x (by omega)
  obtain ⟨k, hk⟩ : ∃ k, level x = k := ⟨_, rfl⟩
  rw [hk] at hl
  by_cases h0 : k = 0
  · have hv : left n x = -1 := by unfold left; rw [if_pos (by omega)]
    rw [hv]
    subst h0
    go_enter Try.func23, Try.ntmps23
    go_wp2_with fail
    refine (there_calls n x _).mono ?_
    rintro e w1 ⟨rfl, rfl⟩
    rw [thereI_of, h]
    go_wp2_with fail
    refine (level_calls x (by omega) _).mono ?_
    rintro e w1 ⟨rfl, rfl⟩
    rw [hk]
    go_wp2
    go_returns
    exact ⟨rfl, rfl⟩
  · have hv : left n x = ((x - 2 ^ (k - 1) : Nat) : Int) := by unfold left; rw [if_neg (by omega), hk]
    rw [hv]
    have hk' : ¬ (k : Int) = 0 := by omega
    have hk1 : 1 ≤ (k : Int) := by omega
    go_enter Try.func23, Try.ntmps23
    go_wp2_with fail
    refine (there_calls n x _).mono ?_
    rintro e w1 ⟨rfl, rfl⟩
    rw [thereI_of, h]
    go_wp2_with fail
    refine (level_calls x (by omega) _).mono ?_
    rintro e w1 ⟨rfl, rfl⟩
    rw [hk]
    go_wp2
    go_returns
    refine ⟨?_, rfl⟩
    have hs := level_sub x (by omega) (by omega)
    rw [hk] at hs
    rw [pow_wrap (k - 1) (by omega)]
    have hp := pow_le k hl
    generalize 2 ^ (k - 1) = P at *
    show Ending.returned (.int .i64 (wrap64 (x - P))) = _
    rw [wrap64_id (by omega) (by omega)]
    congr 2
    omega

theorem left_no (n x : Int) (h : thereI n x = false) (w : World) : Calls Try.prog 23 #[.int .i64 n, .int .i64 x] w fun e w' => e = .returned (.int .i64 (-1)) ∧ w = w' := by
  go_enter Try.func23, Try.ntmps23
  go_wp2_with fail
  refine (there_calls n x _).mono ?_
  rintro e w1 ⟨rfl, rfl⟩
  rw [h]
  go_wp2
  go_returns
  exact ⟨rfl, rfl⟩
theorem right_no (n x : Int) (h : thereI n x = false) (w : World) : Calls Try.prog 27 #[.int .i64 n, .int .i64 x] w fun e w' => e = .returned (.int .i64 (-1)) ∧ w = w' := by
  go_enter Try.func27, Try.ntmps27
  go_wp2_with fail
  refine (there_calls n x _).mono ?_
  rintro e w1 ⟨rfl, rfl⟩
  rw [h]
  go_wp2
  go_returns
  exact ⟨rfl, rfl⟩
theorem above_no (n x : Int) (h : thereI n x = false) (w : World) : Calls Try.prog 29 #[.int .i64 n, .int .i64 x] w fun e w' => e = .returned (.int .i64 (-1)) ∧ w = w' := by
  go_enter Try.func29, Try.ntmps29
  go_wp2_with fail
  refine (there_calls n x _).mono ?_
  rintro e w1 ⟨rfl, rfl⟩
  rw [h]
  go_wp2
  go_returns
  exact ⟨rfl, rfl⟩
theorem beside_no (n x : Int) (h : thereI n x = false) (w : World) : Calls Try.prog 31 #[.int .i64 n, .int .i64 x] w fun e w' => e = .returned (.int .i64 (-1)) ∧ w = w' := by
  go_enter Try.func31, Try.ntmps31
  go_wp2_with fail
  refine (above_no n x h _).mono ?_
  rintro e w1 ⟨rfl, rfl⟩
  go_wp2
  go_returns
  exact ⟨rfl, rfl⟩
theorem leaves_no (n x : Int) (h : thereI n x = false) (w : World) : Calls Try.prog 19 #[.int .i64 n, .int .i64 x] w fun e w' => e = .returned (.tuple #[.int .i64 0, .int .i64 0]) ∧ w = w' := by
  go_enter Try.func19, Try.ntmps19
  go_wp2_with fail
  refine (there_calls n x _).mono ?_
  rintro e w1 ⟨rfl, rfl⟩
  rw [h]
  go_wp2
  go_returns
  exact ⟨rfl, rfl⟩

/-- .. and in the loop of Right: no node is ever a leaf there -/
def rightOk (n : Nat) : Nat → Nat → Bool
  | 0, _ => false
  | f + 1, x => decide (x < 256) && (there n x || (decide (level x ≠ 0) && rightOk n f (x - 2 ^ (level x - 1))))
theorem right_ok : ∀ n, n < 65 → ∀ x, x < 127 → there n x = true → level x ≠ 0 → rightOk n 9 (x + 2 ^ (level x - 1)) = true := by decide +kernel
set_option maxRecDepth 100000 in
theorem right_yes (n x : Nat) (h : there n x = true) (w : World) : Calls Try.prog 27 #[.int .i64 n, .int .i64 x] w fun e w' => e = .returned (.int .i64 (right n x)) ∧ w = w' := by
  have hx : x < 127 ∧ n < 65 := by unfold there at h; simp at h; omega
  have hl := level_le x (by omega)
  obtain ⟨k, hk⟩ : ∃ k, level x = k := ⟨_, rfl⟩
  rw [hk] at hl
  by_cases h0 : k = 0
  · have hv : right n x = -1 := by unfold right; rw [if_pos (by omega)]
    rw [hv]
    subst h0
    go_enter Try.func27, Try.ntmps27
    go_wp2_with fail
    refine (there_calls n x _).mono ?_
    rintro e w1 ⟨rfl, rfl⟩
    rw [thereI_of, h]
    go_wp2_with fail
    refine (level_calls x (by omega) _).mono ?_
    rintro e w1 ⟨rfl, rfl⟩
    rw [hk]
    go_wp2
    go_returns
    exact ⟨rfl, rfl⟩
  · have hok := right_ok n hx.2 x hx.1 h (by omega)
    have hv : right n x = (rightF n 9 (x + 2 ^ (k - 1))).elim (-7) (fun r => (r : Int)) := by unfold right; rw [if_neg (by omega), hk]
    rw [hk] at hok
    have hk' : ¬ (k : Int) = 0 := by omega
    have hk1 : 1 ≤ (k : Int) := by omega
    have hs := level_sub x (by omega) (by omega)
    rw [hk] at hs
    have hp := pow_le k hl
    have hpw := pow_wrap (k - 1) (by omega)
    generalize right n x = R at *
    have HOK := Lib.hid hok
    have HV := Lib.hid hv
    clear hok hv
    go_enter Try.func27, Try.ntmps27
    go_wp2_with fail
    refine (there_calls n x _).mono ?_
    rintro e w1 ⟨rfl, rfl⟩
    rw [thereI_of, h]
    go_wp2_with fail
    refine (level_calls x (by omega) _).mono ?_
    rintro e w1 ⟨rfl, rfl⟩
    rw [hk]
    go_wp2_with fail
    obtain ⟨S, hS⟩ : ∃ S, S = x + 2 ^ (k - 1) := ⟨_, rfl⟩
    rw [← hS] at HOK HV
    have hS' : wrap64 ((x : Int) + 2 ^ (k - 1)) = (S : Int) := by
      rw [hS]
      have : ((2 : Int) ^ (k - 1)) = ((2 ^ (k - 1) : Nat) : Int) := by push_cast; rfl
      rw [this, wrap64_id (by omega) (by omega)]
      push_cast
      rfl
    rw [hS']
    obtain ⟨F, hF⟩ : ∃ F, F = 9 := ⟨_, rfl⟩
    rw [← hF] at HOK HV
    obtain ⟨RF, hRF⟩ : ∃ RF, rightF n F S = RF := ⟨_, rfl⟩
    rw [hRF] at HV
    have HRF := Lib.hid hRF
    rename ((k : Int) == 0) = false => hkf
    rw [hkf]
    clear hS hS' hk hk' hk1 hs hp hpw hl h0 hF hRF hkf
    go_loopw [1] (fun y wr => ∃ (a f : Nat), y = .int .i64 a ∧ Hid (rightOk n f a = true) ∧ Hid (rightF n f a = RF) ∧ w = wr) (fun y _ => (intOf y).toNat)
    case atStart => exact ⟨S, F, rfl, HOK, HRF, rfl⟩
    case round =>
      obtain ⟨a, f, rfl, ho, hf, rfl⟩ := hrel
      have ho1 := ho.out
      have hf1 := hf.out
      cases f with
      | zero => simp [rightOk] at ho1
      | succ f =>
        simp only [rightOk, Bool.and_eq_true, Bool.or_eq_true, decide_eq_true_eq] at ho1
        obtain ⟨ha, ho2⟩ := ho1
        by_cases ht : there n a = true
        · rw [rightF, if_pos ht] at hf1
          have HR : Hid (R = a) := by show R = a; rw [HV.out, ← hf1]; rfl
          clear ho2 hf1 ho hf
          go_wp2_with fail
          refine (there_calls n a _).mono ?_
          rintro e w1 ⟨rfl, rfl⟩
          rw [thereI_of, ht]
          go_wp2
          go_returns
          rw [HR.out]
          exact ⟨rfl, rfl⟩
        · obtain ⟨hl0, ho3⟩ := ho2.resolve_left ht
          rw [rightF, if_neg ht, if_neg hl0] at hf1
          have hl := level_le a ha
          have hs := level_sub a ha hl0
          obtain ⟨k, hk⟩ : ∃ k, level a = k := ⟨_, rfl⟩
          rw [hk] at hl hs ho3 hf1 hl0
          have hp := pow_le k hl
          have hk1 : 1 ≤ (k : Int) := by omega
          have HO := Lib.hid ho3
          have HF := Lib.hid hf1
          have ht' : there n a = false := by simpa using ht
          clear ho2 ho3 hf1 ho hf
          go_wp2_with fail
          refine (there_calls n a _).mono ?_
          rintro e w1 ⟨rfl, rfl⟩
          rw [thereI_of, ht']
          go_wp2_with fail
          refine (level_calls a ha _).mono ?_
          rintro e w1 ⟨rfl, rfl⟩
          rw [hk]
          have hw : wrap64 ((a : Int) - wrap64 (2 ^ (k - 1))) = ((a - 2 ^ (k - 1) : Nat) : Int) := by
            rw [pow_wrap (k - 1) (by omega)]
            generalize 2 ^ (k - 1) = P at *
            rw [wrap64_id (by omega) (by omega)]
            omega
          have hpos : 1 ≤ 2 ^ (k - 1) := Nat.one_le_two_pow
          go_wp2_with fail
          rw [hw]
          go_roundw
          case rel => exact ⟨a - 2 ^ (k - 1), f, rfl, HO, HF, trivial⟩
          case measure => simp [intOf]; omega
end Go.Proofs.Ytdmjiokeangmmaa.Bg
