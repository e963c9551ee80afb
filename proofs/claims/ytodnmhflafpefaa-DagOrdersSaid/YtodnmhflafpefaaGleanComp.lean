/-
  slices.Compact at digests.
-/
import Derived.Test.YtodnmhflafpefaaGleanDel
import Derived.Test.YtodnmhflafpefaaRd
import Derived.WalkLawsBesides
import Derived.Outline
import Derived.Handy
import Derived.Deep.RegionHeld
set_option linter.unusedSimpArgs false
set_option linter.unusedVariables false
namespace Go.Proofs.Ytodnmhflafpefaa
open Go.RowKit

/-- The first elements, but those that are as the one ahead. -/
def compT (l : List HsT) : Nat → List HsT
  | 0 => []
  | j + 1 => match l[j]? with
    | none => compT l j
    | some x => if 0 < j ∧ l[j - 1]? = some x then compT l j else compT l j ++ [x]
theorem compT_skip {l : List HsT} {j : Nat} {x : HsT} (h0 : 0 < j) (h : l[j]? = some x) (h1 : l[j - 1]? = some x) : compT l (j + 1) = compT l j := by
  rw [compT, h]; simp only []; rw [if_pos ⟨h0, h1⟩]
theorem compT_new {l : List HsT} {j : Nat} {x : HsT} (h : l[j]? = some x) (h1 : ¬ (0 < j ∧ l[j - 1]? = some x)) : compT l (j + 1) = compT l j ++ [x] := by
  rw [compT, h]; simp only []; rw [if_neg h1]
theorem compT_take {l : List HsT} : ∀ k, k ≤ l.length → (∀ p, 0 < p → p < k → l[p]? ≠ l[p - 1]?) → compT l k = l.take k
  | 0, _, _ => by simp [compT]
  | k + 1, hk, h => by
    have hx : l[k]? = some l[k] := List.getElem?_eq_getElem (by omega)
    rw [compT_new hx (fun ⟨h0, h1⟩ => h k h0 (by omega) (by rw [hx, h1])), compT_take k (by omega) (fun p h0 h1 => h p h0 (by omega)), List.take_add_one, hx]
    rfl
end Go.Proofs.Ytodnmhflafpefaa
