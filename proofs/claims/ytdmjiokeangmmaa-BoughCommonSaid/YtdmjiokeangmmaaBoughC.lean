/-
  Contracts of the code's node above, the one beside, the leaves.
-/
import Derived.Test.YtdmjiokeangmmaaBoughB
set_option linter.unusedSimpArgs false
set_option linter.unusedVariables false
namespace Go.Proofs.Ytdmjiokeangmmaa.Bg
open Go.RowKit

/-- Nothing lies otherwise, nothing is new. -/
structure Still (w w' : World) : Prop where
  below : Below w.heap.size w w'
  size : w'.heap.size = w.heap.size
theorem Still.refl (w : World) : Still w w := ⟨Below.refl _ _, rfl⟩
theorem Still.drew {w w' : World} (h : Still w w') : Still w w'.drew := ⟨h.below.drew, h.size⟩
theorem Still.trans {a b c : World} (h : Still a b) (h2 : Still b c) : Still a c := ⟨h.below.trans (h.size ▸ h2.below), h2.size.trans h.size⟩
theorem upS_wrap : ∀ x, x < 256 → bits BinOp.or IntKind.i64 (bits BinOp.andNot IntKind.i64 (x : Nat) (wrap64 (2 ^ (level x + 1)))) (wrap64 (2 ^ level x)) = upS x := by decide +kernel

theorem above_ok : ∀ n, n < 65 → ∀ x, x < 127 → there n x = true → x ≠ root n → (aboveF n 9 x).isSome = true := by decide +kernel
theorem up_level : ∀ x, x < 256 → 0 ≤ upS x → upS x ≤ 255 → level x < level (upS x).toNat := by decide +kernel

set_option maxRecDepth 100000 in
theorem above_yes (n x : Nat) (h : there n x = true) (w : World) : Calls Try.prog 29 #[.int .i64 n, .int .i64 x] w fun e w' => e = .returned (.int .i64 (above n x)) ∧ Still w w' := by
  have hx : x < 127 ∧ n < 65 ∧ 1 ≤ n := by unfold there at h; simp at h; omega
  have hT : thereI n x = true := by rw [thereI_of, h]
  by_cases h0 : x = root n
  · have hv : above n x = -1 := by unfold above; rw [if_pos h0]
    rw [hv]
    have RC := fun w => root_calls n (by omega) (by omega) w
    clear hv
    generalize root n = R0 at *
    have H0 := Lib.hid h0
    clear h0
    go_enter Try.func29, Try.ntmps29
    go_wp2_with fail
    refine (there_calls n x _).mono ?_
    rintro e w1 ⟨rfl, rfl⟩
    rw [hT]
    go_wp2_with fail
    refine (RC _).mono ?_
    rintro e w1 ⟨rfl, rfl⟩
    have h0' : (x : Int) = R0 := by have := H0.out; omega
    go_wp2
    go_returns
    exact ⟨rfl, Still.refl _⟩
  · obtain ⟨r, hr⟩ := Option.isSome_iff_exists.1 (above_ok n hx.2.1 x hx.1 h h0)
    have hv : above n x = r := by unfold above; rw [if_neg h0, hr]; rfl
    rw [hv]
    have RC := fun w => root_calls n (by omega) (by omega) w
    clear hv
    generalize root n = R0 at *
    have h0' : ¬ (x : Int) = R0 := by omega
    obtain ⟨F, hF⟩ : ∃ F, F = 9 := ⟨_, rfl⟩
    rw [← hF] at hr
    have HR := Lib.hid hr
    clear hF hr
    go_enter Try.func29, Try.ntmps29
    go_wp2_with fail
    refine (there_calls n x _).mono ?_
    rintro e w1 ⟨rfl, rfl⟩
    rw [hT]
    go_wp2_with fail
    refine (RC _).mono ?_
    rintro e w1 ⟨rfl, rfl⟩
    go_wp2_with fail
    rename ((x : Int) == (R0 : Nat)) = false => hkf
    rw [hkf]
    clear hkf h0' h0
    go_loopw [1] (fun y wr => ∃ (a f : Nat), y = .int .i64 a ∧ a < 256 ∧ Hid (aboveF n f a = some r) ∧ Hid (Still w wr)) (fun y _ => 9 - level (intOf y).toNat)
    case atStart => exact ⟨x, F, rfl, by omega, HR, Still.refl _⟩
    case round =>
      obtain ⟨a, f, rfl, ha, hf, hst⟩ := hrel
      have hf1 := hf.out
      cases f with
      | zero => simp [aboveF] at hf1
      | succ f =>
        rw [aboveF] at hf1
        by_cases hu : upS a < 0 ∨ 255 < upS a
        · rw [if_pos hu] at hf1; cases hf1
        · rw [if_neg hu] at hf1
          have hlv := up_level a ha (by omega) (by omega)
          have hl := level_le a ha
          obtain ⟨k, hk⟩ : ∃ k, level a = k := ⟨_, rfl⟩
          obtain ⟨b, hb⟩ : ∃ b : Nat, upS a = b := ⟨(upS a).toNat, by omega⟩
          rw [hb] at hf1 hlv hu
          have HF := Lib.hid hf1
          clear hf hf1
          go_wp2_with fail
          refine (level_calls a ha _).mono ?_
          rintro e w1 ⟨rfl, rfl⟩
          rw [hk] at hl ⊢
          have hk0 : 0 ≤ (k : Int) := by omega
          have hk1 : 0 ≤ (k : Int) + 1 := by omega
          have hW : bits BinOp.or IntKind.i64 (bits BinOp.andNot IntKind.i64 (a : Nat) (wrap64 (2 ^ (k + 1)))) (wrap64 (2 ^ k)) = (b : Int) := by rw [← hk, upS_wrap a ha, hb]
          go_wp2_with fail
          go_region
          all_goals
            go_wp2_with fail
            refine (there_calls n b _).mono ?_
            rintro e w1 ⟨rfl, rfl⟩
            rw [thereI_of]
            have hf2 := HF.out
            by_cases ht : there n b = true
            · have hrb : Hid (r = b) := by show r = b; rw [Int.toNat_natCast, if_pos ht] at hf2; exact (Option.some.inj hf2).symm
              rw [ht]
              clear hf2
              go_wp2
              go_returns
              rw [hrb.out]
              exact ⟨rfl, hst.out.drew⟩
            · have ht' : there n b = false := by simpa using ht
              rw [Int.toNat_natCast, if_neg ht] at hf2
              have HF2 := Lib.hid hf2
              rw [ht']
              clear hf2 HF ht
              go_wp2_with fail
              go_roundw
              case rel => exact ⟨b, f, rfl, by omega, HF2, hst.out.drew⟩
              case measure => rw [Int.toNat_natCast] at hlv; simp [intOf]; omega

theorem thereI_nat {n x : Int} (h : thereI n x = true) : ∃ n' x' : Nat, n = n' ∧ x = x' ∧ there n' x' = true ∧ n' < 65 ∧ x' < 127 := by
  have h' := h
  unfold thereI at h'
  simp at h'
  refine ⟨n.toNat, x.toNat, by omega, by omega, ?_, by omega, by omega⟩
  rw [← thereI_of, Int.toNat_of_nonneg (by omega), Int.toNat_of_nonneg (by omega)]
  exact h

def rootI (n : Int) : Int := if thereI n 0 then (root n.toNat : Nat) else -1
def leftI (n x : Int) : Int := if thereI n x then left n.toNat x.toNat else -1
def rightI (n x : Int) : Int := if thereI n x then right n.toNat x.toNat else -1
def aboveI (n x : Int) : Int := if thereI n x then above n.toNat x.toNat else -1
def besideI (n x : Int) : Int := if aboveI n x < 0 then -1 else if x < aboveI n x then rightI n (aboveI n x) else leftI n (aboveI n x)
def leavesI (n x : Int) : Int × Int := if thereI n x then (((leaves n.toNat x.toNat).1 : Int), ((leaves n.toNat x.toNat).2 : Int)) else (0, 0)
def holdsI (n x l : Int) : Bool := decide ((leavesI n x).1 ≤ l) && decide (l < (leavesI n x).2)

theorem Root_calls (n : Int) (w : World) : Calls Try.prog 24 #[.int .i64 n] w fun e w' => e = .returned (.int .i64 (rootI n)) ∧ w = w' := by
  unfold rootI
  cases h : thereI n 0 with
  | true =>
    obtain ⟨n', x', rfl, hx, ht, h1, h2⟩ := thereI_nat h
    have h3 : 1 ≤ n' := by unfold there at ht; simp at ht; omega
    exact root_calls n' h3 (by omega) w
  | false =>
    go_enter Try.func24, Try.ntmps24
    go_wp2_with fail
    refine (there_calls n 0 _).mono ?_
    rintro e w1 ⟨rfl, rfl⟩
    rw [h]
    go_wp2
    go_returns
    exact ⟨rfl, rfl⟩
theorem Left_calls (n x : Int) (w : World) : Calls Try.prog 23 #[.int .i64 n, .int .i64 x] w fun e w' => e = .returned (.int .i64 (leftI n x)) ∧ w = w' := by
  unfold leftI
  cases h : thereI n x with
  | true => obtain ⟨n', x', rfl, rfl, ht, h1, h2⟩ := thereI_nat h; exact left_yes n' x' ht w
  | false => exact left_no n x h w
theorem Right_calls (n x : Int) (w : World) : Calls Try.prog 27 #[.int .i64 n, .int .i64 x] w fun e w' => e = .returned (.int .i64 (rightI n x)) ∧ w = w' := by
  unfold rightI
  cases h : thereI n x with
  | true => obtain ⟨n', x', rfl, rfl, ht, h1, h2⟩ := thereI_nat h; exact right_yes n' x' ht w
  | false => exact right_no n x h w
theorem Above_calls (n x : Int) (w : World) : Calls Try.prog 29 #[.int .i64 n, .int .i64 x] w fun e w' => e = .returned (.int .i64 (aboveI n x)) ∧ Still w w' := by
  unfold aboveI
  cases h : thereI n x with
  | true => obtain ⟨n', x', rfl, rfl, ht, h1, h2⟩ := thereI_nat h; exact above_yes n' x' ht w
  | false => exact (above_no n x h w).mono fun e w' ⟨a, b⟩ => ⟨a, b ▸ Still.refl _⟩

theorem Beside_calls (n x : Int) (w : World) : Calls Try.prog 31 #[.int .i64 n, .int .i64 x] w fun e w' => e = .returned (.int .i64 (besideI n x)) ∧ Still w w' := by
  unfold besideI
  have AC := fun w => Above_calls n x w
  generalize aboveI n x = p at *
  by_cases h1 : p < 0
  · rw [if_pos h1]
    go_enter Try.func31, Try.ntmps31
    go_wp2_with fail
    refine (AC _).mono ?_
    rintro e w1 ⟨rfl, hs⟩
    go_wp2
    go_returns
    exact ⟨rfl, hs⟩
  · rw [if_neg h1]
    by_cases h2 : x < p
    · rw [if_pos h2]
      go_enter Try.func31, Try.ntmps31
      go_wp2_with fail
      refine (AC _).mono ?_
      rintro e w1 ⟨rfl, hs⟩
      go_wp2_with fail
      refine (Right_calls n p _).mono ?_
      rintro e w2 ⟨rfl, rfl⟩
      go_wp2
      go_returns
      exact ⟨rfl, hs⟩
    · rw [if_neg h2]
      go_enter Try.func31, Try.ntmps31
      go_wp2_with fail
      refine (AC _).mono ?_
      rintro e w1 ⟨rfl, hs⟩
      go_wp2_with fail
      refine (Left_calls n p _).mono ?_
      rintro e w2 ⟨rfl, rfl⟩
      go_wp2
      go_returns
      exact ⟨rfl, hs⟩

theorem leaves_fit : ∀ x, x < 127 → 2 ^ level x ≤ x + 1 ∧ 2 ^ level x ≤ 128 := by decide +kernel
theorem leaves_yes (n x : Nat) (h : there n x = true) (w : World) : Calls Try.prog 19 #[.int .i64 n, .int .i64 x] w fun e w' => e = .returned (.tuple #[.int .i64 ((leaves n x).1 : Nat), .int .i64 ((leaves n x).2 : Nat)]) ∧ w = w' := by
  have hx : x < 127 ∧ n < 65 ∧ 1 ≤ n := by unfold there at h; simp at h; omega
  have hl := level_le x (by omega)
  have hf := leaves_fit x (by omega)
  have hr : ((leaves n x).1 : Int) = ((x : Int) + 1 - (2 ^ level x : Nat)) / 2 ∧ ((leaves n x).2 : Int) = min (((x : Int) + 1 + (2 ^ level x : Nat)) / 2) n := by
    unfold leaves
    generalize 2 ^ level x = P at *
    constructor
    · show (((x + 1 - P) / 2 : Nat) : Int) = _
      omega
    · show ((min ((x + 1 + P) / 2) n : Nat) : Int) = _
      omega
  rw [hr.1, hr.2]
  clear hr
  obtain ⟨k, hk⟩ : ∃ k, level x = k := ⟨_, rfl⟩
  rw [hk] at hl hf ⊢
  have hw := pow_wrap k (by omega)
  have hp : 1 ≤ 2 ^ k := Nat.one_le_two_pow
  generalize (2 : Nat) ^ k = P at *
  go_enter Try.func19, Try.ntmps19
  go_wp2_with fail
  refine (there_calls n x _).mono ?_
  rintro e w1 ⟨rfl, rfl⟩
  rw [thereI_of, h]
  go_wp2_with fail
  refine (level_calls x (by omega) _).mono ?_
  rintro e w1 ⟨rfl, rfl⟩
  rw [hk]
  go_wp2
  all_goals
    go_returns
    first
      | (rw [Int.min_eq_right (by omega)]; exact ⟨rfl, rfl⟩)
      | (rw [Int.min_eq_left (by omega)]; exact ⟨rfl, rfl⟩)

theorem Leaves_calls (n x : Int) (w : World) : Calls Try.prog 19 #[.int .i64 n, .int .i64 x] w fun e w' => e = .returned (.tuple #[.int .i64 (leavesI n x).1, .int .i64 (leavesI n x).2]) ∧ w = w' := by
  unfold leavesI
  cases h : thereI n x with
  | true => obtain ⟨n', x', rfl, rfl, ht, h1, h2⟩ := thereI_nat h; exact leaves_yes n' x' ht w
  | false => exact leaves_no n x h w

theorem Holds_calls (n x l : Int) (w : World) : Calls Try.prog 21 #[.int .i64 n, .int .i64 x, .int .i64 l] w fun e w' => e = .returned (.bool (holdsI n x l)) ∧ w = w' := by
  unfold holdsI
  have LC := fun w => Leaves_calls n x w
  generalize leavesI n x = q at *
  obtain ⟨lo, hi⟩ := q
  dsimp only at LC ⊢
  by_cases h1 : lo ≤ l
  · go_enter Try.func21, Try.ntmps21
    go_wp2_with fail
    refine (LC _).mono ?_
    rintro e w1 ⟨rfl, rfl⟩
    go_wp2
    go_returns
    exact ⟨by simp [h1], rfl⟩
  · go_enter Try.func21, Try.ntmps21
    go_wp2_with fail
    refine (LC _).mono ?_
    rintro e w1 ⟨rfl, rfl⟩
    go_wp2
    go_returns
    exact ⟨by simp; omega, rfl⟩
end Go.Proofs.Ytdmjiokeangmmaa.Bg
