/-
  The nodes above a node, in order: plain.
-/
import Derived.Test.YtdmjiokeangmmaaBoughD
set_option linter.unusedSimpArgs false
set_option linter.unusedVariables false
namespace Go.Proofs.Ytdmjiokeangmmaa.Bg
open Go.RowKit

/-- The nodes above x, the nearest first. -/
def upsF (n : Int) : Nat → Int → List Int
  | 0, _ => []
  | f + 1, x => if aboveI n x < 0 then [] else aboveI n x :: upsF n f (aboveI n x)
def okF (n : Int) : Nat → Int → Bool
  | 0, _ => false
  | f + 1, x => decide (aboveI n x < 0) || okF n f (aboveI n x)
theorem okF_nat : ∀ n, n < 65 → ∀ x, x < 127 → there n x = true → okF n 7 x = true := by decide +kernel
theorem okF_all (n x : Int) : okF n 7 x = true := by
  cases h : thereI n x with
  | true => obtain ⟨n', x', rfl, rfl, ht, h1, h2⟩ := thereI_nat h; exact okF_nat n' h1 x' h2 ht
  | false => simp [okF, aboveI, h]
theorem upsF_more (n : Int) : ∀ f x, okF n f x = true → ∀ g, f ≤ g → upsF n g x = upsF n f x
  | 0, x, h, g, hg => by simp [okF] at h
  | f + 1, x, h, g, hg => by
    obtain ⟨g, rfl⟩ : ∃ g', g = g' + 1 := ⟨g - 1, by omega⟩
    rw [okF, Bool.or_eq_true, decide_eq_true_eq] at h
    rw [upsF, upsF]
    by_cases h0 : aboveI n x < 0
    · rw [if_pos h0, if_pos h0]
    · rw [if_neg h0, if_neg h0, upsF_more n f _ (h.resolve_left h0) g (by omega)]
def ups (n x : Int) : List Int := upsF n 7 x
theorem ups_no {n x : Int} (h : aboveI n x < 0) : ups n x = [] := by rw [ups, upsF, if_pos h]
theorem ups_yes {n x : Int} (h : ¬ aboveI n x < 0) : ups n x = aboveI n x :: ups n (aboveI n x) := by
  rw [ups, ← upsF_more n 7 x (okF_all n x) 8 (by omega), upsF, if_neg h]; rfl
theorem ups_len (n x : Int) : (ups n x).length ≤ 7 := by
  have key : ∀ f x, (upsF n f x).length ≤ f := by
    intro f
    induction f with
    | zero => intro x; simp [upsF]
    | succ f ih => intro x; rw [upsF]; split; simp; have := ih (aboveI n x); simp; omega
  exact key 7 x

end Go.Proofs.Ytdmjiokeangmmaa.Bg
