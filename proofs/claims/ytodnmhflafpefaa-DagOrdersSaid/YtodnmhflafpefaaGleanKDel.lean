/-
  slices.Clone, IndexFunc and DeleteFunc at epochs, the function being the first of glean.Tell.
-/
import Derived.Shelf.SlicesE.Clone
import Derived.Ground.SlgnProg
import Derived.Test.YtodnmhflafpefaaGleanDel
import Derived.Test.YtodnmhflafpefaaGleanOrd
import Derived.WalkLawsBesides
import Derived.Outline
import Derived.Handy
set_option linter.unusedSimpArgs false
set_option linter.unusedVariables false
namespace Go.Proofs
open Go.Shelf Go.Lib
end Go.Proofs
namespace Go.Proofs.Ytodnmhflafpefaa
open Go.RowKit

def zKnA : Array Value := Z32 ++ #[.int .i64 0, .string ⟨#[]⟩]
theorem zKnA_size : zKnA.size = 34 := by simp [zKnA, Z32_size]
theorem kn_all (c : Kn) : c.cells.toArray.all (·.oneCell') = true := by
  rw [List.all_toArray, List.all_eq_true]
  exact c.one
theorem zKn_one : ∀ u ∈ zKn.cells.toList, u.oneCell' = true := by
  intro u hu
  have h2 : u ∈ (Z32 ++ #[Value.int .i64 0, Value.string ⟨#[]⟩]).toList := hu
  rw [Array.toList_append, List.mem_append] at h2
  rcases h2 with h2 | h2
  · exact z32_one u h2
  · simp at h2
    rcases h2 with rfl | rfl <;> rfl
def firstK (D : Kn → Bool) (l : List Kn) : Int := match l.findIdx? D with
  | some i => (i : Int)
  | none => -1
theorem firstK_none {D : Kn → Bool} {l : List Kn} (h : ∀ j x, j < l.length → l[j]? = some x → D x = false) : firstK D l = -1 := by
  have : l.findIdx? D = none := List.findIdx?_eq_none_iff.2 fun x hx => by
    obtain ⟨j, hj, rfl⟩ := List.getElem_of_mem hx
    exact h j _ hj (List.getElem?_eq_getElem hj)
  rw [firstK, this]
theorem firstK_some {D : Kn → Bool} {l : List Kn} {k : Nat} {x : Kn} (h : ∀ j x, j < k → l[j]? = some x → D x = false) (hx : l[k]? = some x) (hd : D x = true) : firstK D l = (k : Int) := by
  obtain ⟨hk, rfl⟩ := List.getElem?_eq_some_iff.1 hx
  have : l.findIdx? D = some k := List.findIdx?_eq_some_iff_getElem.2 ⟨hk, hd, fun j hj => by
    have := h j _ hj (List.getElem?_eq_getElem (by omega))
    simp [this]⟩
  rw [firstK, this]
theorem keepK_snoc_no {D : Kn → Bool} {l : List Kn} {j : Nat} {x : Kn} (hx : l[j]? = some x) (hd : D x = true) : (l.take (j + 1)).filter (fun h => !D h) = (l.take j).filter (fun h => !D h) := by
  rw [List.take_add_one, hx, List.filter_append]; simp [hd]
theorem keepK_snoc_yes {D : Kn → Bool} {l : List Kn} {j : Nat} {x : Kn} (hx : l[j]? = some x) (hd : D x = false) : (l.take (j + 1)).filter (fun h => !D h) = (l.take j).filter (fun h => !D h) ++ [x] := by
  rw [List.take_add_one, hx, List.filter_append]; simp [hd]
theorem keepK_all {D : Kn → Bool} {l : List Kn} (h : ∀ j x, j < l.length → l[j]? = some x → D x = false) : l.filter (fun h => !D h) = l := by
  rw [List.filter_eq_self]
  intro x hx
  obtain ⟨j, hj, rfl⟩ := List.getElem_of_mem hx
  rw [h j _ hj (List.getElem?_eq_getElem hj)]; rfl
theorem firstK_cases (D : Kn → Bool) (l : List Kn) : (firstK D l = -1 ∧ l.filter (fun h => !D h) = l) ∨ ∃ (i : Nat) (x : Kn), firstK D l = (i : Int) ∧ i < l.length ∧ l[i]? = some x ∧ D x = true ∧ (l.take i).filter (fun h => !D h) = l.take i := by
  cases hf : l.findIdx? D with
  | none =>
    refine .inl ⟨by rw [firstK, hf], ?_⟩
    rw [List.findIdx?_eq_none_iff] at hf
    rw [List.filter_eq_self]
    intro x hx
    rw [hf x hx]; rfl
  | some i =>
    obtain ⟨h1, h2, h3⟩ := List.findIdx?_eq_some_iff_getElem.1 hf
    refine .inr ⟨i, l[i], by rw [firstK, hf], h1, List.getElem?_eq_getElem h1, h2, ?_⟩
    rw [List.filter_eq_self]
    intro x hx
    obtain ⟨j, hj, rfl⟩ := List.getElem_of_mem hx
    rw [List.length_take] at hj
    have := h3 j (by omega)
    rw [List.getElem_take]
    simpa using this
end Go.Proofs.Ytodnmhflafpefaa
