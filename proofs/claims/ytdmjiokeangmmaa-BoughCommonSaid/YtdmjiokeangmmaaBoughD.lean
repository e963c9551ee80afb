/-
  Contracts of the document's functions on trees.
-/
import Derived.Test.YtdmjiokeangmmaaBoughC
set_option linter.unusedSimpArgs false
set_option linter.unusedVariables false
namespace Go.Proofs.Ytdmjiokeangmmaa.Bg
open Go.RowKit

set_option maxRecDepth 100000 in
set_option maxHeartbeats 2000000 in
theorem find_calls : ∀ (f a n x : Nat) (p b : Int) (ra rn : Nat) (rp rb : Int), find f a n x p b = some (ra, rn, rp, rb) → a + n ≤ 64 → n ≤ 64 → 1 ≤ n → ∀ (w : World),
    Calls Try.prog 37 #[.int .i64 a, .int .i64 n, .int .i64 x, .int .i64 p, .int .i64 b] w fun e w' => e = .returned (.tuple #[.int .i64 ra, .int .i64 rn, .int .i64 rp, .int .i64 rb]) ∧ w = w'
  | 0, a, n, x, p, b, ra, rn, rp, rb, h, ha, hn, hn1, w => by simp [find] at h
  | f + 1, a, n, x, p, b, ra, rn, rp, rb, h, ha, hn, hn1, w => by
    have RC := fun w => rroot_calls a n (by omega) hn w
    by_cases h0 : rroot a n = x
    · rw [find, if_pos h0] at h
      obtain ⟨rfl, rfl, rfl, rfl⟩ : a = ra ∧ n = rn ∧ p = rp ∧ b = rb := by simpa using h
      subst h0
      generalize rroot a n = x at *
      clear h
      go_enter Try.func37, Try.ntmps37
      go_wp2_with fail
      refine (RC _).mono ?_
      rintro e w1 ⟨rfl, rfl⟩
      go_wp2
      go_returns
      exact ⟨rfl, rfl⟩
    · rw [find, if_neg h0] at h
      by_cases h1 : n ≤ 1 ∨ 64 < n ∨ 64 < a
      · rw [if_pos h1] at h; cases h
      · rw [if_neg h1] at h
        have hh := half_pos n
        have hh2 := half_lt n (by omega) hn
        have HC := fun w => half_calls n hn w
        have R1 := fun w => rroot_calls a (half n) (by omega) (by omega) w
        have R2 := fun w => rroot_calls (a + half n) (n - half n) (by omega) (by omega) w
        have IH := fun (a n : Nat) (p b : Int) h ha hn hn1 w => find_calls f a n x p b ra rn rp rb h ha hn hn1 w
        generalize half n = H at *
        generalize rroot a n = R at *
        generalize rroot a H = Q1 at *
        generalize rroot (a + H) (n - H) = Q2 at *
        have e1 : Hid (((a : Int) + (H : Nat)) = ((a + H : Nat) : Int)) := by show _ = _; omega
        have e2 : Hid (((n : Int) - (H : Nat)) = ((n - H : Nat) : Int)) := by show _ = _; omega
        have h0' : ¬ (R : Int) = x := by omega
        by_cases h2 : x < R
        · rw [if_pos h2] at h
          have HI := Lib.hid h
          clear h h0 h1 find_calls
          go_enter Try.func37, Try.ntmps37
          go_wp2_with fail
          refine (RC _).mono ?_
          rintro e w1 ⟨rfl, rfl⟩
          go_wp2_with fail
          refine (HC _).mono ?_
          rintro e w1 ⟨rfl, rfl⟩
          go_wp2_with fail
          refine (R1 _).mono ?_
          rintro e w1 ⟨rfl, rfl⟩
          go_wp2_with fail
          rw [e1.out, e2.out]
          refine (R2 _).mono ?_
          rintro e w1 ⟨rfl, rfl⟩
          go_wp2_with fail
          refine (IH _ _ _ _ HI.out (by omega) (by omega) (by omega) _).mono ?_
          rintro e w1 ⟨rfl, rfl⟩
          go_wp2
          go_returns
          exact ⟨rfl, rfl⟩
        · rw [if_neg h2] at h
          have HI := Lib.hid h
          clear h h0 h1 find_calls
          go_enter Try.func37, Try.ntmps37
          go_wp2_with fail
          refine (RC _).mono ?_
          rintro e w1 ⟨rfl, rfl⟩
          go_wp2_with fail
          refine (HC _).mono ?_
          rintro e w1 ⟨rfl, rfl⟩
          go_wp2_with fail
          refine (R1 _).mono ?_
          rintro e w1 ⟨rfl, rfl⟩
          go_wp2_with fail
          rw [e1.out, e2.out]
          refine (R2 _).mono ?_
          rintro e w1 ⟨rfl, rfl⟩
          go_wp2_with fail
          rw [e1.out, e2.out]
          refine (IH _ _ _ _ HI.out (by omega) (by omega) (by omega) _).mono ?_
          rintro e w1 ⟨rfl, rfl⟩
          go_wp2
          go_returns
          exact ⟨rfl, rfl⟩

theorem found_ok (n x : Nat) (h : there n x = true) : ∃ ra rn rp rb, found n x = (ra, rn, rp, rb) ∧ find 9 0 n x (-1) (-1) = some (ra, rn, rp, rb) := by
  have hx : x < 127 ∧ n < 65 := by unfold there at h; simp at h; omega
  obtain ⟨⟨ra, rn, rp, rb⟩, hr⟩ := Option.isSome_iff_exists.1 (nodes n hx.2 x hx.1 h).1
  exact ⟨ra, rn, rp, rb, by unfold found; rw [hr]; rfl, hr⟩
theorem found_calls (n x : Nat) (h : there n x = true) (w : World) : Calls Try.prog 37 #[.int .i64 0, .int .i64 n, .int .i64 x, .int .i64 (-1), .int .i64 (-1)] w fun e w' => e = .returned (.tuple #[.int .i64 (found n x).1, .int .i64 (found n x).2.1, .int .i64 (found n x).2.2.1, .int .i64 (found n x).2.2.2]) ∧ w = w' := by
  have hx : x < 127 ∧ n < 65 ∧ 1 ≤ n := by unfold there at h; simp at h; omega
  obtain ⟨ra, rn, rp, rb, h1, h2⟩ := found_ok n x h
  rw [h1]
  exact find_calls 9 0 n x (-1) (-1) ra rn rp rb h2 (by omega) (by omega) (by omega) w
theorem found_fit : ∀ n, n < 65 → ∀ x, x < 127 → there n x = true → (found n x).1 + (found n x).2.1 ≤ 64 ∧ 1 ≤ (found n x).2.1 := by decide +kernel

def rrootI (n : Int) : Int := if thereI n 0 then (rroot 0 n.toNat : Nat) else -1
def rleftI (n x : Int) : Int := if thereI n x then rleft n.toNat x.toNat else -1
def rrightI (n x : Int) : Int := if thereI n x then rright n.toNat x.toNat else -1
def raboveI (n x : Int) : Int := if thereI n x then (found n.toNat x.toNat).2.2.1 else -1
def rbesideI (n x : Int) : Int := if thereI n x then (found n.toNat x.toNat).2.2.2 else -1
def rleavesI (n x : Int) : Int × Int := if thereI n x then (((found n.toNat x.toNat).1 : Int), ((found n.toNat x.toNat).1 + (found n.toNat x.toNat).2.1 : Nat)) else (0, 0)
def rholdsI (n x l : Int) : Bool := decide ((rleavesI n x).1 ≤ l) && decide (l < (rleavesI n x).2)

/-- They agree. -/
theorem rootI_eq (n : Int) : rrootI n = rootI n := by
  unfold rrootI rootI
  cases h : thereI n 0 with
  | false => rfl
  | true =>
    obtain ⟨n', x', rfl, hx, ht, h1, h2⟩ := thereI_nat h
    have : x' = 0 := by omega
    subst this
    simp [roots n' h1 ht]
theorem leftI_eq (n x : Int) : rleftI n x = leftI n x := by
  unfold rleftI leftI
  cases h : thereI n x with
  | false => rfl
  | true => obtain ⟨n', x', rfl, rfl, ht, h1, h2⟩ := thereI_nat h; simp [(nodes n' h1 x' h2 ht).2.1]
theorem rightI_eq (n x : Int) : rrightI n x = rightI n x := by
  unfold rrightI rightI
  cases h : thereI n x with
  | false => rfl
  | true => obtain ⟨n', x', rfl, rfl, ht, h1, h2⟩ := thereI_nat h; simp [(nodes n' h1 x' h2 ht).2.2.1]
theorem aboveI_eq (n x : Int) : raboveI n x = aboveI n x := by
  unfold raboveI aboveI
  cases h : thereI n x with
  | false => rfl
  | true => obtain ⟨n', x', rfl, rfl, ht, h1, h2⟩ := thereI_nat h; simp [(nodes n' h1 x' h2 ht).2.2.2.1]
theorem leavesI_eq (n x : Int) : rleavesI n x = leavesI n x := by
  unfold rleavesI leavesI
  cases h : thereI n x with
  | false => rfl
  | true => obtain ⟨n', x', rfl, rfl, ht, h1, h2⟩ := thereI_nat h; simp [(nodes n' h1 x' h2 ht).2.2.2.2.2.1, (nodes n' h1 x' h2 ht).2.2.2.2.2.2]
theorem above_there : ∀ n, n < 65 → ∀ x, x < 127 → there n x = true → 0 ≤ above n x → there n (above n x).toNat = true := by decide +kernel
theorem besideI_eq (n x : Int) : rbesideI n x = besideI n x := by
  unfold rbesideI besideI
  cases h : thereI n x with
  | false => simp [aboveI, h]
  | true =>
    obtain ⟨n', x', rfl, rfl, ht, h1, h2⟩ := thereI_nat h
    have ha : aboveI n' x' = above n' x' := by simp [aboveI, h]
    rw [ha]
    have hb := (nodes n' h1 x' h2 ht).2.2.2.2.1
    simp only [Int.toNat_natCast, if_true]
    rw [← hb, beside]
    by_cases h0 : above n' x' < 0
    · rw [if_pos h0, if_pos h0]
    · rw [if_neg h0, if_neg h0]
      have ht2 := above_there n' h1 x' h2 ht (by omega)
      have ht3 : thereI n' (above n' x') = true := by
        rw [← Int.toNat_of_nonneg (show 0 ≤ above n' x' by omega), thereI_of]; exact ht2
      unfold rightI leftI
      rw [if_pos ht3, if_pos ht3, Int.toNat_natCast]

theorem RRoot_calls (n : Int) (w : World) : Calls Try.prog 25 #[.int .i64 n] w fun e w' => e = .returned (.int .i64 (rrootI n)) ∧ w = w' := by
  unfold rrootI
  cases h : thereI n 0 with
  | true =>
    obtain ⟨n', x', rfl, hx, ht, h1, h2⟩ := thereI_nat h
    simp only [if_true, Int.toNat_natCast]
    clear hx
    have RC := fun w => rroot_calls 0 n' (by omega) (by omega) w
    generalize rroot 0 n' = R at *
    go_enter Try.func25, Try.ntmps25
    go_wp2_with fail
    refine (rthere_calls n' 0 _).mono ?_
    rintro e w1 ⟨rfl, rfl⟩
    rw [h]
    go_wp2_with fail
    refine (RC _).mono ?_
    rintro e w1 ⟨rfl, rfl⟩
    go_wp2
    go_returns
    exact ⟨rfl, rfl⟩
  | false =>
    go_enter Try.func25, Try.ntmps25
    go_wp2_with fail
    refine (rthere_calls n 0 _).mono ?_
    rintro e w1 ⟨rfl, rfl⟩
    rw [h]
    go_wp2
    go_returns
    exact ⟨rfl, rfl⟩
theorem RAbove_calls (n x : Int) (w : World) : Calls Try.prog 30 #[.int .i64 n, .int .i64 x] w fun e w' => e = .returned (.int .i64 (raboveI n x)) ∧ w = w' := by
  unfold raboveI
  cases h : thereI n x with
  | true =>
    obtain ⟨n', x', rfl, rfl, ht, h1, h2⟩ := thereI_nat h
    have FC := fun w => found_calls n' x' ht w
    have ff := found_fit n' h1 x' h2 ht
    simp only [if_true, Int.toNat_natCast]
    generalize found n' x' = q at *
    obtain ⟨ra, rn, rp, rb⟩ := q
    dsimp only at FC ff ⊢
    go_enter Try.func30, Try.ntmps30
    go_wp2_with fail
    refine (rthere_calls n' x' _).mono ?_
    rintro e w1 ⟨rfl, rfl⟩
    rw [h]
    go_wp2_with fail
    refine (FC _).mono ?_
    rintro e w1 ⟨rfl, rfl⟩
    go_wp2
    go_returns
    exact ⟨rfl, rfl⟩
  | false =>
    go_enter Try.func30, Try.ntmps30
    go_wp2_with fail
    refine (rthere_calls n x _).mono ?_
    rintro e w1 ⟨rfl, rfl⟩
    rw [h]
    go_wp2
    go_returns
    exact ⟨rfl, rfl⟩
theorem RBeside_calls (n x : Int) (w : World) : Calls Try.prog 32 #[.int .i64 n, .int .i64 x] w fun e w' => e = .returned (.int .i64 (rbesideI n x)) ∧ w = w' := by
  unfold rbesideI
  cases h : thereI n x with
  | true =>
    obtain ⟨n', x', rfl, rfl, ht, h1, h2⟩ := thereI_nat h
    have FC := fun w => found_calls n' x' ht w
    have ff := found_fit n' h1 x' h2 ht
    simp only [if_true, Int.toNat_natCast]
    generalize found n' x' = q at *
    obtain ⟨ra, rn, rp, rb⟩ := q
    dsimp only at FC ff ⊢
    go_enter Try.func32, Try.ntmps32
    go_wp2_with fail
    refine (rthere_calls n' x' _).mono ?_
    rintro e w1 ⟨rfl, rfl⟩
    rw [h]
    go_wp2_with fail
    refine (FC _).mono ?_
    rintro e w1 ⟨rfl, rfl⟩
    go_wp2
    go_returns
    exact ⟨rfl, rfl⟩
  | false =>
    go_enter Try.func32, Try.ntmps32
    go_wp2_with fail
    refine (rthere_calls n x _).mono ?_
    rintro e w1 ⟨rfl, rfl⟩
    rw [h]
    go_wp2
    go_returns
    exact ⟨rfl, rfl⟩
theorem RLeaves_calls (n x : Int) (w : World) : Calls Try.prog 20 #[.int .i64 n, .int .i64 x] w fun e w' => e = .returned (.tuple #[.int .i64 (rleavesI n x).1, .int .i64 (rleavesI n x).2]) ∧ w = w' := by
  unfold rleavesI
  cases h : thereI n x with
  | true =>
    obtain ⟨n', x', rfl, rfl, ht, h1, h2⟩ := thereI_nat h
    have FC := fun w => found_calls n' x' ht w
    have ff := found_fit n' h1 x' h2 ht
    simp only [if_true, Int.toNat_natCast]
    generalize found n' x' = q at *
    obtain ⟨ra, rn, rp, rb⟩ := q
    dsimp only at FC ff ⊢
    have e1 : Hid (((ra + rn : Nat) : Int) = (ra : Int) + rn) := by show _ = _; omega
    rw [e1.out]
    go_enter Try.func20, Try.ntmps20
    go_wp2_with fail
    refine (rthere_calls n' x' _).mono ?_
    rintro e w1 ⟨rfl, rfl⟩
    rw [h]
    go_wp2_with fail
    refine (FC _).mono ?_
    rintro e w1 ⟨rfl, rfl⟩
    go_wp2
    go_returns
    exact ⟨rfl, rfl⟩
  | false =>
    go_enter Try.func20, Try.ntmps20
    go_wp2_with fail
    refine (rthere_calls n x _).mono ?_
    rintro e w1 ⟨rfl, rfl⟩
    rw [h]
    go_wp2
    go_returns
    exact ⟨rfl, rfl⟩
theorem RHolds_calls (n x l : Int) (w : World) : Calls Try.prog 22 #[.int .i64 n, .int .i64 x, .int .i64 l] w fun e w' => e = .returned (.bool (rholdsI n x l)) ∧ w = w' := by
  unfold rholdsI
  have LC := fun w => RLeaves_calls n x w
  generalize rleavesI n x = q at *
  obtain ⟨lo, hi⟩ := q
  dsimp only at LC ⊢
  by_cases h1 : lo ≤ l
  · go_enter Try.func22, Try.ntmps22
    go_wp2_with fail
    refine (LC _).mono ?_
    rintro e w1 ⟨rfl, rfl⟩
    go_wp2
    go_returns
    exact ⟨by simp [h1], rfl⟩
  · go_enter Try.func22, Try.ntmps22
    go_wp2_with fail
    refine (LC _).mono ?_
    rintro e w1 ⟨rfl, rfl⟩
    go_wp2
    go_returns
    exact ⟨by simp; omega, rfl⟩
theorem RLeft_calls (n x : Int) (w : World) : Calls Try.prog 26 #[.int .i64 n, .int .i64 x] w fun e w' => e = .returned (.int .i64 (rleftI n x)) ∧ w = w' := by
  unfold rleftI
  cases h : thereI n x with
  | true =>
    obtain ⟨n', x', rfl, rfl, ht, h1, h2⟩ := thereI_nat h
    have FC := fun w => found_calls n' x' ht w
    have ff := found_fit n' h1 x' h2 ht
    simp only [if_true, Int.toNat_natCast]
    unfold rleft
    generalize found n' x' = q at *
    obtain ⟨ra, rn, rp, rb⟩ := q
    dsimp only at FC ff ⊢
    by_cases h0 : rn = 1
    · rw [if_pos h0]
      have H0 := Lib.hid h0
      clear h0
      go_enter Try.func26, Try.ntmps26
      go_wp2_with fail
      refine (rthere_calls n' x' _).mono ?_
      rintro e w1 ⟨rfl, rfl⟩
      rw [h]
      go_wp2_with fail
      refine (FC _).mono ?_
      rintro e w1 ⟨rfl, rfl⟩
      rw [H0.out]
      go_wp2
      go_returns
      exact ⟨rfl, rfl⟩
    · rw [if_neg h0]
      have hh := half_pos rn
      have hh2 := half_lt rn (by omega) (by omega)
      have HC := fun w => half_calls rn (by omega) w
      have R1 := fun w => rroot_calls ra (half rn) (by omega) (by omega) w
      generalize half rn = H at *
      generalize rroot ra H = R at *
      have h0' : ¬ (rn : Int) = 1 := by omega
      clear h0
      go_enter Try.func26, Try.ntmps26
      go_wp2_with fail
      refine (rthere_calls n' x' _).mono ?_
      rintro e w1 ⟨rfl, rfl⟩
      rw [h]
      go_wp2_with fail
      refine (FC _).mono ?_
      rintro e w1 ⟨rfl, rfl⟩
      go_wp2_with fail
      refine (HC _).mono ?_
      rintro e w1 ⟨rfl, rfl⟩
      go_wp2_with fail
      refine (R1 _).mono ?_
      rintro e w1 ⟨rfl, rfl⟩
      go_wp2
      go_returns
      exact ⟨rfl, rfl⟩
  | false =>
    go_enter Try.func26, Try.ntmps26
    go_wp2_with fail
    refine (rthere_calls n x _).mono ?_
    rintro e w1 ⟨rfl, rfl⟩
    rw [h]
    go_wp2
    go_returns
    exact ⟨rfl, rfl⟩
theorem RRight_calls (n x : Int) (w : World) : Calls Try.prog 28 #[.int .i64 n, .int .i64 x] w fun e w' => e = .returned (.int .i64 (rrightI n x)) ∧ w = w' := by
  unfold rrightI
  cases h : thereI n x with
  | true =>
    obtain ⟨n', x', rfl, rfl, ht, h1, h2⟩ := thereI_nat h
    have FC := fun w => found_calls n' x' ht w
    have ff := found_fit n' h1 x' h2 ht
    simp only [if_true, Int.toNat_natCast]
    unfold rright
    generalize found n' x' = q at *
    obtain ⟨ra, rn, rp, rb⟩ := q
    dsimp only at FC ff ⊢
    by_cases h0 : rn = 1
    · rw [if_pos h0]
      have H0 := Lib.hid h0
      clear h0
      go_enter Try.func28, Try.ntmps28
      go_wp2_with fail
      refine (rthere_calls n' x' _).mono ?_
      rintro e w1 ⟨rfl, rfl⟩
      rw [h]
      go_wp2_with fail
      refine (FC _).mono ?_
      rintro e w1 ⟨rfl, rfl⟩
      rw [H0.out]
      go_wp2
      go_returns
      exact ⟨rfl, rfl⟩
    · rw [if_neg h0]
      have hh := half_pos rn
      have hh2 := half_lt rn (by omega) (by omega)
      have HC := fun w => half_calls rn (by omega) w
      have R1 := fun w => rroot_calls (ra + half rn) (rn - half rn) (by omega) (by omega) w
      generalize half rn = H at *
      generalize rroot (ra + H) (rn - H) = R at *
      have e1 : Hid (((ra : Int) + (H : Nat)) = ((ra + H : Nat) : Int)) := by show _ = _; omega
      have e2 : Hid (((rn : Int) - (H : Nat)) = ((rn - H : Nat) : Int)) := by show _ = _; omega
      have h0' : ¬ (rn : Int) = 1 := by omega
      clear h0
      go_enter Try.func28, Try.ntmps28
      go_wp2_with fail
      refine (rthere_calls n' x' _).mono ?_
      rintro e w1 ⟨rfl, rfl⟩
      rw [h]
      go_wp2_with fail
      refine (FC _).mono ?_
      rintro e w1 ⟨rfl, rfl⟩
      go_wp2_with fail
      refine (HC _).mono ?_
      rintro e w1 ⟨rfl, rfl⟩
      go_wp2_with fail
      refine (HC _).mono ?_
      rintro e w1 ⟨rfl, rfl⟩
      go_wp2_with fail
      rw [e1.out, e2.out]
      refine (R1 _).mono ?_
      rintro e w1 ⟨rfl, rfl⟩
      go_wp2
      go_returns
      exact ⟨rfl, rfl⟩
  | false =>
    go_enter Try.func28, Try.ntmps28
    go_wp2_with fail
    refine (rthere_calls n x _).mono ?_
    rintro e w1 ⟨rfl, rfl⟩
    rw [h]
    go_wp2
    go_returns
    exact ⟨rfl, rfl⟩
end Go.Proofs.Ytdmjiokeangmmaa.Bg
