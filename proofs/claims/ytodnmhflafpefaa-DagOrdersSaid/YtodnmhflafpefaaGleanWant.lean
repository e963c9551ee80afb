/-
  glean.rising and glean.Want.
-/
import Derived.Test.YtodnmhflafpefaaGleanComp
import Derived.Test.YtodnmhflafpefaaGleanSort
import Derived.Test.YtodnmhflafpefaaBookClone
import Derived.Test.YtodnmhflafpefaaBookRep
set_option linter.unusedSimpArgs false
set_option linter.unusedVariables false
namespace Go.Proofs.Ytodnmhflafpefaa
open Go.RowKit

theorem compT_mem {l : List HsT} (hs : l.Pairwise fun x y => ¬ cmpT y x < 0) (h32 : ∀ x ∈ l, x.length = 32) : ∀ j, j ≤ l.length → Rises (compT l j) ∧ ∀ x, x ∈ compT l j ↔ x ∈ l.take j
  | 0, _ => ⟨List.Pairwise.nil, fun x => by simp [compT]⟩
  | j + 1, hj => by
    obtain ⟨ih1, ih2⟩ := compT_mem hs h32 j (by omega)
    obtain ⟨x, hx⟩ : ∃ x, l[j]? = some x := ⟨_, List.getElem?_eq_getElem (by omega)⟩
    have htk : l.take (j + 1) = l.take j ++ [x] := by rw [List.take_add_one, hx]; rfl
    have hle : ∀ (a b : Nat) (y z : HsT), a < b → l[a]? = some y → l[b]? = some z → ¬ cmpT z y < 0 := fun a b y z hab hy hz => by
      obtain ⟨ha, rfl⟩ := List.getElem?_eq_some_iff.1 hy
      obtain ⟨hb, rfl⟩ := List.getElem?_eq_some_iff.1 hz
      exact List.pairwise_iff_getElem.1 hs a b ha hb hab
    by_cases hsk : 0 < j ∧ l[j - 1]? = some x
    · rw [compT_skip hsk.1 hx hsk.2, htk]
      refine ⟨ih1, fun y => ?_⟩
      rw [ih2, List.mem_append, List.mem_singleton]
      refine ⟨.inl, fun h => h.elim id (fun e => ?_)⟩
      rw [e]
      exact List.mem_of_getElem? (i := j - 1) (by rw [List.getElem?_take_of_lt (by omega)]; exact hsk.2)
    · rw [compT_new hx hsk, htk]
      refine ⟨List.pairwise_append.2 ⟨ih1, List.pairwise_singleton _ _, fun y hy z hz => ?_⟩, fun y => by rw [List.mem_append, List.mem_append, ih2]⟩
      obtain rfl := List.mem_singleton.1 hz
      obtain ⟨i, hi⟩ := List.getElem?_of_mem ((ih2 y).1 hy)
      have hij : i < j := by have := (List.getElem?_eq_some_iff.1 hi).1; rw [List.length_take] at this; omega
      rw [List.getElem?_take_of_lt hij] at hi
      have h1 := hle i j y z hij hi hx
      have hy32 := h32 y (List.mem_of_getElem? hi)
      have hz32 := h32 z (List.mem_of_getElem? hx)
      have e1 := cmpT_swap y z
      by_cases hc : cmpT y z < 0
      · exact hc
      · exfalso
        have e2 : y = z := cmpT_eq _ _ (by rw [hy32, hz32]) (by omega)
        subst e2
        -- all between are the same
        obtain ⟨p, hp⟩ : ∃ p, l[j - 1]? = some p := ⟨_, List.getElem?_eq_getElem (by omega)⟩
        have hp32 := h32 p (List.mem_of_getElem? hp)
        have e3 := cmpT_swap p y
        have h3 := hle (j - 1) j p y (by omega) hp hx
        have h4 : ¬ cmpT p y < 0 := by
          by_cases hij2 : i = j - 1
          · subst hij2
            rw [hi] at hp
            obtain rfl := Option.some.inj hp
            rw [cmpT_self]; omega
          · exact hle i (j - 1) y p (by omega) hi hp
        have : p = y := cmpT_eq _ _ (by rw [hp32, hy32]) (by omega)
        exact hsk ⟨by omega, by rw [hp, this]⟩
theorem compT_all {l : List HsT} (hs : l.Pairwise fun x y => ¬ cmpT y x < 0) (h32 : ∀ x ∈ l, x.length = 32) : Rises (compT l l.length) ∧ ∀ x, x ∈ compT l l.length ↔ x ∈ l := by
  have := compT_mem hs h32 l.length (Nat.le_refl _)
  rwa [List.take_length] at this
/-- What a map of names says. -/
def thereLook (hv : List HsT) (x : HsT) : Option Value := if x ∈ hv then some (.bool true) else none
theorem HashOwn.low {w : World} {b1 b2 : Nat} {e : TypeId} {v : Value} {l : List HsT} (h : HashOwn w b1 e v l) (hb : b2 ≤ b1) : HashOwn w b2 e v l := by
  refine ⟨h.1, h.2.1, ?_⟩
  rcases h.2.2 with h0 | ⟨g, cap, cur, e1, h1, h2⟩
  · exact .inl h0
  · exact .inr ⟨g, cap, cur, e1, Nat.le_trans hb h1, h2⟩
theorem HashOwn.cut {w : World} {base : Nat} {e : TypeId} {ao : Option Addr} {c : Nat} {l : List HsT} (h : HashOwn w base e (.slice ao l.length c) l) (M : Nat) (hM : M ≤ l.length) : HashesAt w (.slice ao M c) (l.take M) := by
  have hl : (l.take M).length = M := by rw [List.length_take]; omega
  rcases h.at.2 with ⟨h1, ao', h2⟩ | ⟨g, o, c', h2, h3, h4, h5⟩
  · refine ⟨fun x hx => h.1 x (List.mem_of_mem_take hx), .inl ⟨by rw [h1]; simp, ?_⟩⟩
    injection h2 with e1 e2 e3
    have : M = 0 := by omega
    exact ⟨ao, by rw [this, e3]⟩
  · injection h2 with e1 e2 e3
    subst e1 e3
    refine ⟨fun x hx => h.1 x (List.mem_of_mem_take hx), .inr ⟨g, o, c, by rw [hl], by rw [hl]; omega, h4, fun j u hj => h5 j u ?_⟩⟩
    rw [flat_take (size := 32) l (fun x hx => by rw [List.length_map]; exact h.1 x hx) M hM] at hj
    have hlt := (List.getElem?_eq_some_iff.1 hj).1
    rw [List.length_take] at hlt
    rwa [List.getElem?_take_of_lt (by omega)] at hj
end Go.Proofs.Ytodnmhflafpefaa
