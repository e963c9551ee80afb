/-
  'Common', the whole of it; the document's.
-/
import Derived.Test.YtdmjiokeangmmaaBoughI
set_option linter.unusedSimpArgs false
set_option linter.unusedVariables false
namespace Go.Proofs.Ytdmjiokeangmmaa.Bg
open Go.RowKit Go.Shelf

def inI (N A B : Int) : Bool := decide (0 ≤ A) && decide (0 ≤ B) && decide (A < N) && decide (B < N) && decide (N ≤ 64)
def commonI (N A B : Int) : Int := if inI N A B then (if A = B then 2 * A else comI N A B) else -1

section
attribute [local go_sem] Oper.semAt_some
set_option maxRecDepth 100000 in
set_option maxHeartbeats 2000000 in
theorem common_same (N A : Int) (ha0 : 0 ≤ A) (ha1 : A < N) (h64 : N ≤ 64) (w : World) :
    Calls Try.prog 17 #[.int .i64 N, .int .i64 A, .int .i64 A] w fun e W' => e = .returned (.int .i64 (2 * A)) ∧ Below w.heap.size w W' := by
  have hT : thereI N 0 = true := by unfold thereI; simp; omega
  go_enter Try.func17, Try.ntmps17
  go_wp2_with fail
  refine (there_calls N 0 _).mono ?_
  rintro e w1 ⟨rfl, rfl⟩
  rw [hT]
  go_wp2
  refine bodyPost_ret (v := .int .i64 (2 * A)) (by simp [results, Try.f17, go_sem]) rfl ⟨rfl, (((Below.refl _ w).alloc (Nat.le_refl _) _).alloc (by simp) _).alloc (by simp; omega) _⟩

set_option maxRecDepth 100000 in
set_option maxHeartbeats 4000000 in
theorem common_no (N A B : Int) (h : inI N A B = false) (w : World) :
    Calls Try.prog 17 #[.int .i64 N, .int .i64 A, .int .i64 B] w fun e W' => e = .returned (.int .i64 (-1)) ∧ Below w.heap.size w W' := by
  by_cases h0 : 0 ≤ A ∧ 0 ≤ B ∧ A < N ∧ B < N
  · have hT : thereI N 0 = false := by unfold inI at h; unfold thereI; simp at h ⊢; omega
    obtain ⟨h1, h2, h3, h4⟩ := h0
    clear h
    go_enter Try.func17, Try.ntmps17
    go_wp2_with fail
    refine (there_calls N 0 _).mono ?_
    rintro e w1 ⟨rfl, rfl⟩
    rw [hT]
    go_wp2
    refine bodyPost_ret (v := .int .i64 (-1)) (by simp [results, Try.f17, go_sem]) rfl ⟨rfl, (((Below.refl _ w).alloc (Nat.le_refl _) _).alloc (by simp) _).alloc (by simp; omega) _⟩
  · clear h
    by_cases h1 : A < 0
    · clear h0
      go_enter Try.func17, Try.ntmps17
      go_wp2
      refine bodyPost_ret (v := .int .i64 (-1)) (by simp [results, Try.f17, go_sem]) rfl ⟨rfl, (((Below.refl _ w).alloc (Nat.le_refl _) _).alloc (by simp) _).alloc (by simp; omega) _⟩
    · by_cases h2 : B < 0
      · clear h0
        go_enter Try.func17, Try.ntmps17
        go_wp2
        refine bodyPost_ret (v := .int .i64 (-1)) (by simp [results, Try.f17, go_sem]) rfl ⟨rfl, (((Below.refl _ w).alloc (Nat.le_refl _) _).alloc (by simp) _).alloc (by simp; omega) _⟩
      · by_cases h3 : N ≤ A
        · clear h0
          go_enter Try.func17, Try.ntmps17
          go_wp2
          refine bodyPost_ret (v := .int .i64 (-1)) (by simp [results, Try.f17, go_sem]) rfl ⟨rfl, (((Below.refl _ w).alloc (Nat.le_refl _) _).alloc (by simp) _).alloc (by simp; omega) _⟩
        · have h4 : N ≤ B := by omega
          clear h0
          go_enter Try.func17, Try.ntmps17
          go_wp2
          refine bodyPost_ret (v := .int .i64 (-1)) (by simp [results, Try.f17, go_sem]) rfl ⟨rfl, (((Below.refl _ w).alloc (Nat.le_refl _) _).alloc (by simp) _).alloc (by simp; omega) _⟩
end

theorem Common_calls (N A B : Int) (w : World) :
    Calls Try.prog 17 #[.int .i64 N, .int .i64 A, .int .i64 B] w fun e W' => e = .returned (.int .i64 (commonI N A B)) ∧ Below w.heap.size w W' := by
  unfold commonI
  cases h : inI N A B with
  | false => exact common_no N A B h w
  | true =>
    unfold inI at h
    simp at h
    obtain ⟨⟨⟨⟨h1, h2⟩, h3⟩, h4⟩, h5⟩ := h
    by_cases hab : A = B
    · subst hab
      simp only [if_true]
      exact common_same N A h1 h3 h5 w
    · simp only [if_true, if_neg hab]
      exact common_yes N A B h1 h3 h2 h4 hab h5 w
end Go.Proofs.Ytdmjiokeangmmaa.Bg
