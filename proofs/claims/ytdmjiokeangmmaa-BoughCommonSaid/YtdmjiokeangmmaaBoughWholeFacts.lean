/-
  BoughWhole: all nodes of a tree hang together: plain.
-/
import Derived.Test.YtdmjiokeangmmaaBoughAwake
set_option linter.unusedSimpArgs false
set_option linter.unusedVariables false
namespace Go.Proofs.Ytdmjiokeangmmaa
open Go.RowKit Bg

def evenOk (n x : Nat) : Bool := decide (leftI n x = -1) && decide (rightI n x = -1) && decide (leavesI n x = (((x / 2 : Nat) : Int), ((x / 2 : Nat) : Int) + 1))
def oddOk (n x : Nat) : Bool :=
  let l := leftI n x
  let r := rightI n x
  decide ((leavesI n l).1 = (leavesI n x).1) && decide ((leavesI n l).2 = (leavesI n r).1) && decide ((leavesI n r).2 = (leavesI n x).2) && decide (aboveI n l = x) && decide (aboveI n r = x) && decide (besideI n l = r) && decide (besideI n r = l)
theorem even_all : ∀ n, n < 65 → ∀ x, x < 127 → there n x = true → x % 2 = 0 → evenOk n x = true := by decide +kernel
theorem odd_all : ∀ n, n < 65 → ∀ x, x < 127 → there n x = true → x % 2 = 1 → oddOk n x = true := by decide +kernel

theorem upsF_lt (n : Int) : ∀ f x, okF n f x = true → (upsF n f x).length < f
  | 0, x, h => by simp [okF] at h
  | f + 1, x, h => by
    rw [okF, Bool.or_eq_true, decide_eq_true_eq] at h
    rw [upsF]
    by_cases h0 : aboveI n x < 0
    · rw [if_pos h0]; simp
    · rw [if_neg h0]
      have := upsF_lt n f _ (h.resolve_left h0)
      simp; omega
theorem dir_six (n l : Int) : (dirI n l).length ≤ 6 := by
  unfold dirI
  split
  · have := upsF_lt n 7 (2 * l) (okF_all n _)
    unfold ups
    omega
  · simp

theorem even_facts (N X : Int) (h : thereI N X = true) (hp : X % 2 = 0) : leftI N X = -1 ∧ rightI N X = -1 ∧ leavesI N X = (X / 2, X / 2 + 1) := by
  obtain ⟨n, x, rfl, rfl, ht, h1, h2⟩ := thereI_nat h
  have := even_all n h1 x h2 ht (by omega)
  unfold evenOk at this
  simp only [Bool.and_eq_true, decide_eq_true_eq] at this
  obtain ⟨⟨g1, g2⟩, g3⟩ := this
  refine ⟨g1, g2, ?_⟩
  rw [g3]
  have : ((x / 2 : Nat) : Int) = (x : Int) / 2 := by omega
  rw [this]
theorem odd_facts (N X : Int) (h : thereI N X = true) (hp : ¬ X % 2 = 0) : ∃ m : Int, leavesI N (leftI N X) = ((leavesI N X).1, m) ∧ leavesI N (rightI N X) = (m, (leavesI N X).2) ∧ aboveI N (leftI N X) = X ∧ aboveI N (rightI N X) = X ∧ besideI N (leftI N X) = rightI N X ∧ besideI N (rightI N X) = leftI N X := by
  obtain ⟨n, x, rfl, rfl, ht, h1, h2⟩ := thereI_nat h
  have := odd_all n h1 x h2 ht (by omega)
  unfold oddOk at this
  simp only [Bool.and_eq_true, decide_eq_true_eq] at this
  obtain ⟨⟨⟨⟨⟨⟨g1, g2⟩, g3⟩, g4⟩, g5⟩, g6⟩, g7⟩ := this
  refine ⟨(leavesI n (leftI n x)).2, ?_, ?_, g4, g5, g6, g7⟩
  · rw [← g1]
  · rw [g2, ← g3]
theorem root_facts (N : Int) (h1 : 1 ≤ N) (h2 : N ≤ 64) : leavesI N (rootI N) = (0, N) ∧ aboveI N (rootI N) = -1 := by
  obtain ⟨n, rfl⟩ : ∃ n : Nat, N = n := ⟨N.toNat, by omega⟩
  have ht : there n 0 = true := by unfold there; simp; omega
  obtain ⟨g1, g2⟩ := root_leaves n (by omega) ht
  have hr : rootI n = (root n : Nat) := by unfold rootI; rw [thereI_0 n (by omega) (by omega)]; simp
  rw [hr]
  constructor
  · unfold leavesI; rw [thereI_of, if_pos g2, Int.toNat_natCast, Int.toNat_natCast, g1]; rfl
  · unfold aboveI; rw [thereI_of, if_pos g2, Int.toNat_natCast, Int.toNat_natCast]; unfold above; rw [if_pos rfl]
end Go.Proofs.Ytdmjiokeangmmaa
