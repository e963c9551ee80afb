/-
  glean.order, the functions of Tell, slices.SortFunc at epochs.
-/
import Derived.Test.YtodnmhflafpefaaGleanKn
import Derived.Test.YtodnmhflafpefaaGleanSort
import Derived.WalkLawsBesides
import Derived.Outline
import Derived.Handy
import Derived.Deep.RegionHeld
set_option linter.unusedSimpArgs false
set_option linter.unusedVariables false
namespace Go.Proofs
open Go.Shelf Go.Lib
end Go.Proofs
namespace Go.Proofs.Ytodnmhflafpefaa
open Go.RowKit Go.Sort

/-- Draws and blocks behind a world. -/
def GrowsW (w w' : World) : Prop := ∃ q os, w' = Sort.grow (w.drewN q) os
theorem GrowsW.refl (w : World) : GrowsW w w := ⟨0, #[], by rw [World.drewN_zero, Sort.grow_empty]⟩
theorem GrowsW.trans {a b c : World} (h : GrowsW a b) (h2 : GrowsW b c) : GrowsW a c := by
  obtain ⟨q, os, rfl⟩ := h
  obtain ⟨q2, os2, rfl⟩ := h2
  refine ⟨q + q2, os ++ os2, ?_⟩
  simp [Sort.grow, World.drewN, Nat.add_assoc]
theorem GrowsW.drewN {a b : World} (h : GrowsW a b) (n : Nat) : GrowsW a (b.drewN n) := h.trans ⟨n, #[], by rw [Sort.grow_empty]⟩
theorem GrowsW.drew {a b : World} (h : GrowsW a b) : GrowsW a b.drew := h.drewN 1
theorem GrowsW.alloc {a b : World} (h : GrowsW a b) (o : Obj) : GrowsW a (b.alloc o) := h.trans ⟨0, #[o], by rw [Sort.alloc_eq_grow]; rfl⟩
theorem GrowsW.below {a b : World} (h : GrowsW a b) : Below a.heap.size a b := by
  obtain ⟨q, os, rfl⟩ := h
  have h2 := growH_grown (a.drewN q) os none
  exact (below_drewN (Below.refl _ _) q).trans ⟨h2.os, h2.tape, h2.output, h2.size, fun k hk => h2.block k hk (by simp)⟩
def cmpK (x y : Kn) : Int := if x.d < y.d then -1 else if y.d < x.d then 1 else cmpT x.h y.h
def cmpD (x y : Kn) : Int := if x.d = y.d then cmpK x y else -(cmpK x y)
/-- The keys' order. -/
theorem cmpT_tri (x y : Kn) : cmpT y.h x.h = -(cmpT x.h y.h) := by have := cmpT_swap x.h y.h; omega
theorem cmpK_tri (x y : Kn) : cmpK y x = -(cmpK x y) := by
  unfold cmpK
  have e := cmpT_tri x y
  by_cases h1 : x.d < y.d
  · rw [if_pos h1, if_neg (by omega), if_pos h1]; rfl
  · by_cases h2 : y.d < x.d
    · rw [if_pos h2, if_neg h1, if_pos h2]
    · rw [if_neg h2, if_neg h1, if_neg h1, if_neg h2, e]
theorem cmpT_le_trans {a b c : Kn} (h1 : cmpT a.h b.h < 0) (h2 : cmpT b.h c.h < 0) : cmpT a.h c.h < 0 := cmpT_trans _ _ _ (by rw [a.hh, b.hh]) (by rw [b.hh, c.hh]) h1 h2
theorem cmpK_lt (x y : Kn) : cmpK x y < 0 ↔ x.d < y.d ∨ x.d = y.d ∧ cmpT x.h y.h < 0 := by
  unfold cmpK
  by_cases h1 : x.d < y.d
  · rw [if_pos h1]; simp [h1]
  · by_cases h2 : y.d < x.d
    · rw [if_neg h1, if_pos h2]
      constructor
      · intro h; omega
      · rintro (h | ⟨h, _⟩) <;> omega
    · rw [if_neg h1, if_neg h2]
      constructor
      · intro h; exact .inr ⟨by omega, h⟩
      · rintro (h | ⟨_, h⟩)
        · omega
        · exact h
theorem cmpD_lt (x y : Kn) : cmpD x y < 0 ↔ y.d < x.d ∨ x.d = y.d ∧ cmpT x.h y.h < 0 := by
  unfold cmpD
  by_cases h : x.d = y.d
  · rw [if_pos h, cmpK_lt]
    constructor
    · rintro (h1 | h1)
      · omega
      · exact .inr h1
    · rintro (h1 | h1)
      · omega
      · exact .inr h1
  · rw [if_neg h]
    have := cmpK_lt x y
    have := cmpK_lt y x
    rw [cmpK_tri x y] at this
    rw [this]
    constructor
    · rintro (h1 | ⟨h1, _⟩)
      · exact .inl h1
      · omega
    · rintro (h1 | ⟨h1, _⟩)
      · exact .inl h1
      · omega
/-- Two keys are one. -/
theorem key_eq {x y : Kn} (h1 : ¬ cmpT x.h y.h < 0) (h2 : ¬ cmpT y.h x.h < 0) : x.h = y.h := by
  have := cmpT_tri x y
  exact cmpT_eq _ _ (by rw [x.hh, y.hh]) (by omega)
theorem cmpT_ntrans {x y z : Kn} (h1 : ¬ cmpT x.h y.h < 0) (h2 : ¬ cmpT y.h z.h < 0) : ¬ cmpT x.h z.h < 0 := by
  intro h
  by_cases e : cmpT y.h x.h < 0
  · exact h2 (cmpT_le_trans e h)
  · rw [← key_eq h1 e] at h2
    exact h2 h
theorem cmpK_swo : SWO (ltOf cmpK) where
  irrefl x := by
    show decide (cmpK x x < 0) = false
    rw [decide_eq_false_iff_not, cmpK_lt, cmpT_self]; omega
  trans x y z h1 h2 := by
    have h1 : cmpK x y < 0 := of_decide_eq_true h1
    have h2 : cmpK y z < 0 := of_decide_eq_true h2
    refine decide_eq_true ?_
    rw [cmpK_lt] at *
    rcases h1 with h1 | ⟨h1, h3⟩ <;> rcases h2 with h2 | ⟨h2, h4⟩
    · exact .inl (by omega)
    · exact .inl (by omega)
    · exact .inl (by omega)
    · exact .inr ⟨by omega, cmpT_le_trans h3 h4⟩
  ntrans x y z h1 h2 := by
    have h1 : ¬ cmpK x y < 0 := of_decide_eq_false h1
    have h2 : ¬ cmpK y z < 0 := of_decide_eq_false h2
    refine decide_eq_false ?_
    rw [cmpK_lt] at *
    simp only [not_or, not_and] at *
    refine ⟨by omega, fun e => ?_⟩
    exact cmpT_ntrans (h1.2 (by omega)) (h2.2 (by omega))
theorem cmpD_swo : SWO (ltOf cmpD) where
  irrefl x := by
    show decide (cmpD x x < 0) = false
    rw [decide_eq_false_iff_not, cmpD_lt, cmpT_self]; omega
  trans x y z h1 h2 := by
    have h1 : cmpD x y < 0 := of_decide_eq_true h1
    have h2 : cmpD y z < 0 := of_decide_eq_true h2
    refine decide_eq_true ?_
    rw [cmpD_lt] at *
    rcases h1 with h1 | ⟨h1, h3⟩ <;> rcases h2 with h2 | ⟨h2, h4⟩
    · exact .inl (by omega)
    · exact .inl (by omega)
    · exact .inl (by omega)
    · exact .inr ⟨by omega, cmpT_le_trans h3 h4⟩
  ntrans x y z h1 h2 := by
    have h1 : ¬ cmpD x y < 0 := of_decide_eq_false h1
    have h2 : ¬ cmpD y z < 0 := of_decide_eq_false h2
    refine decide_eq_false ?_
    rw [cmpD_lt] at *
    simp only [not_or, not_and] at *
    refine ⟨by omega, fun e => ?_⟩
    exact cmpT_ntrans (h1.2 (by omega)) (h2.2 (by omega))
theorem holdsR_own {α : Type} [Inhabited α] {cells : α → List Value} {size : Nat} (hs : ∀ x, (cells x).length = size) (h0 : 0 < size) {w : World} {g c : Nat} {l : List α} {base n : Nat} {e : TypeId} (h : ROwn cells size w base e (.slice (some ⟨g, 0, none⟩) n c) l) : HoldsK cells size w g 0 l.toArray := by
  intro j hj
  have hj' : j < l.length * size := by simpa using hj
  have hi : j / size < l.length := (Nat.div_lt_iff_lt_mul h0).2 hj'
  have hm : j % size < size := Nat.mod_lt _ h0
  have hr := h.at.range' hs (j / size) l[j / size] (List.getElem?_eq_getElem hi)
  have e2 : j / size * size + j % size = j := by rw [Nat.mul_comm]; exact Nat.div_add_mod j size
  rw [get_flatK _ _ _ _ (by simpa using hj')]
  refine ⟨?_, ?_⟩
  · have h1 := hr (j % size) ((cells l[j / size])[j % size]'(by rw [hs]; exact hm)) (List.getElem?_eq_getElem _)
    rw [show 0 + j / size * size + j % size = 0 + j by omega] at h1
    rw [h1]
    have e : l.toArray[j / size]! = l[j / size] := by rw [getElem!_pos _ _ (by simpa using hi)]; simp
    rw [e, getElem!_pos _ _ (by rw [hs]; exact hm)]
    rfl
  · rcases h.2 with ⟨h0, _⟩ | ⟨g', cap, cur, he, _, hg, _⟩
    · simp at h0
    · simp only [Value.slice.injEq, Option.some.injEq, Addr.mk.injEq] at he
      obtain ⟨⟨rfl, _⟩, _, rfl⟩ := he
      simp [World.frozen?, hg]
theorem pairwise_of_sorted {α : Type} [Inhabited α] {lt : α → α → Bool} {d : Array α} (h : SortedIn lt 0 d.size d) : d.toList.Pairwise fun x y => lt y x = false := by
  rw [List.pairwise_iff_getElem]
  intro i j hi hj hij
  have := h i j (Nat.zero_le _) hij (by simpa using hj)
  rw [getElem!_pos _ _ (by simpa using hj), getElem!_pos _ _ (by simpa using hi)] at this
  simpa using this
end Go.Proofs.Ytodnmhflafpefaa
