/-
  slices.IndexFunc and slices.DeleteFunc at digests, the function being glean.Want's closure.
-/
import Derived.Test.YtodnmhflafpefaaOwnSet
import Derived.Test.YtodnmhflafpefaaBookHash
import Derived.Test.YtodnmhflafpefaaHashAt
import Derived.Test.YtodnmhflafpefaaBookLaw
import Derived.Test.YtodnmhflafpefaaBookPut
set_option linter.unusedSimpArgs false
set_option linter.unusedVariables false
namespace Go.Proofs.Ytodnmhflafpefaa
open Go.RowKit

theorem zeroHashRun (w : World) : (zeroValue 32).run Try.prog w = .ok (.agg Z32) w := by
  have h := Try.zeroHash
  cases hi : Try.prog.info? 32 with
  | none => simp [hi] at h
  | some ie =>
    simp [hi] at h
    simp [zeroValue, typeInfo, hi, h]
theorem z32_one : ∀ u ∈ (Value.agg Z32).cells.toList, u.oneCell' = true := by
  intro u hu
  have : u ∈ Z32.toList := hu
  simp [Z32] at this
  rw [this]; rfl
def firstT (D : HsT → Bool) (l : List HsT) : Int := match l.findIdx? D with
  | some i => (i : Int)
  | none => -1
theorem firstT_none {D : HsT → Bool} {l : List HsT} (h : ∀ j x, j < l.length → l[j]? = some x → D x = false) : firstT D l = -1 := by
  have : l.findIdx? D = none := List.findIdx?_eq_none_iff.2 fun x hx => by
    obtain ⟨j, hj, rfl⟩ := List.getElem_of_mem hx
    exact h j _ hj (List.getElem?_eq_getElem hj)
  rw [firstT, this]
theorem firstT_some {D : HsT → Bool} {l : List HsT} {k : Nat} {x : HsT} (h : ∀ j x, j < k → l[j]? = some x → D x = false) (hx : l[k]? = some x) (hd : D x = true) : firstT D l = (k : Int) := by
  obtain ⟨hk, rfl⟩ := List.getElem?_eq_some_iff.1 hx
  have : l.findIdx? D = some k := List.findIdx?_eq_some_iff_getElem.2 ⟨hk, hd, fun j hj => by
    have := h j _ hj (List.getElem?_eq_getElem (by omega))
    simp [this]⟩
  rw [firstT, this]
theorem own_capH {w : World} {base : Nat} {e : TypeId} {size n c : Nat} {ao : Option Addr} {xs : List Value} (h : w.ownsRow base e size (.slice ao n c) n xs) : n ≤ c := by
  rcases h.2 with ⟨h0, h1⟩ | ⟨g, cap, cur, e1, hb, hg, h1, _⟩
  · injection h0 with _ h2 h3; omega
  · injection e1 with _ _ h3; omega
theorem keep_snoc_no {D : HsT → Bool} {l : List HsT} {j : Nat} {x : HsT} (hx : l[j]? = some x) (hd : D x = true) : (l.take (j + 1)).filter (fun h => !D h) = (l.take j).filter (fun h => !D h) := by
  rw [List.take_add_one, hx, List.filter_append]; simp [hd]
theorem keep_snoc_yes {D : HsT → Bool} {l : List HsT} {j : Nat} {x : HsT} (hx : l[j]? = some x) (hd : D x = false) : (l.take (j + 1)).filter (fun h => !D h) = (l.take j).filter (fun h => !D h) ++ [x] := by
  rw [List.take_add_one, hx, List.filter_append]; simp [hd]
theorem keep_all {D : HsT → Bool} {l : List HsT} (h : ∀ j x, j < l.length → l[j]? = some x → D x = false) : l.filter (fun h => !D h) = l := by
  rw [List.filter_eq_self]
  intro x hx
  obtain ⟨j, hj, rfl⟩ := List.getElem_of_mem hx
  rw [h j _ hj (List.getElem?_eq_getElem hj)]; rfl
theorem firstT_cases (D : HsT → Bool) (l : List HsT) : (firstT D l = -1 ∧ l.filter (fun h => !D h) = l) ∨ ∃ (i : Nat) (x : HsT), firstT D l = (i : Int) ∧ i < l.length ∧ l[i]? = some x ∧ D x = true ∧ (l.take i).filter (fun h => !D h) = l.take i := by
  cases hf : l.findIdx? D with
  | none =>
    refine .inl ⟨by rw [firstT, hf], ?_⟩
    rw [List.findIdx?_eq_none_iff] at hf
    rw [List.filter_eq_self]
    intro x hx
    rw [hf x hx]; rfl
  | some i =>
    obtain ⟨h1, h2, h3⟩ := List.findIdx?_eq_some_iff_getElem.1 hf
    refine .inr ⟨i, l[i], by rw [firstT, hf], h1, List.getElem?_eq_getElem h1, h2, ?_⟩
    rw [List.filter_eq_self]
    intro x hx
    obtain ⟨j, hj, rfl⟩ := List.getElem_of_mem hx
    rw [List.length_take] at hj
    have := h3 j (by omega)
    rw [List.getElem_take]
    simpa using this
end Go.Proofs.Ytodnmhflafpefaa
