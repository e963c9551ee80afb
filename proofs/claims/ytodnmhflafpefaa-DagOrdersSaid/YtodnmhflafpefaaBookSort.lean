/-
  slices.SortFunc at digests by sha.Cmp, off the shelf.
-/
import Derived.Shelf.SlSortCmp.NoneTotal
import Derived.Ground.SlsfProg
import Derived.Test.YtodnmhflafpefaaShaCmp
import Derived.Test.YtodnmhflafpefaaBookPut
set_option linter.unusedSimpArgs false
set_option linter.unusedVariables false
namespace Go.Proofs
open Go.Shelf Go.Lib
end Go.Proofs
namespace Go.Proofs.Ytodnmhflafpefaa
open Go.RowKit Go.Sort

abbrev H32 := { l : List UInt8 // l.length = 32 }
instance : Inhabited H32 := ⟨⟨List.replicate 32 0, by simp⟩⟩
def encH (x : H32) : List Value := x.1.map bv
theorem encH_len (x : H32) : (encH x).length = 32 := by simp [encH, x.2]
theorem encH_one (x : H32) : ∀ v ∈ encH x, v.oneCell' = true := bs_one x.1
def cfH (x y : H32) : Int := cmpT x.1 y.1
theorem ltH (x y : H32) : ltOf cfH x y = decide (cmpT x.1 y.1 < 0) := rfl
theorem ltH_total (x y : H32) (h1 : ltOf cfH x y = false) (h2 : ltOf cfH y x = false) : x = y := by
  rw [ltH, decide_eq_false_iff_not] at h1 h2
  rw [cmpT_swap] at h2
  exact Subtype.ext (cmpT_eq x.1 y.1 (by rw [x.2, y.2]) (by omega))
theorem ltH_swo : SWO (ltOf cfH) where
  irrefl x := by rw [ltH, cmpT_self]; rfl
  trans x y z h1 h2 := by
    rw [ltH, decide_eq_true_eq] at *
    exact cmpT_trans _ _ _ (by rw [x.2, y.2]) (by rw [y.2, z.2]) h1 h2
  ntrans x y z h1 h2 := by
    rw [ltH, decide_eq_false_iff_not] at *
    intro h
    have e1 := cmpT_swap x.1 y.1
    by_cases e : cmpT y.1 x.1 < 0
    · exact h2 (cmpT_trans _ _ _ (by rw [x.2, y.2]) (by rw [x.2, z.2]) e h)
    · have : x.1 = y.1 := cmpT_eq _ _ (by rw [x.2, y.2]) (by omega)
      rw [← this] at h2
      exact h2 h
theorem H32.lift : ∀ (l : List HsT), (∀ h ∈ l, h.length = 32) → ∃ D : List H32, D.map (·.1) = l
  | [], _ => ⟨[], rfl⟩
  | x :: l, h => by
    obtain ⟨D, hD⟩ := H32.lift l (fun y hy => h y (List.mem_cons_of_mem _ hy))
    exact ⟨⟨x, h x List.mem_cons_self⟩ :: D, by rw [List.map_cons, hD]⟩
theorem holdsH_own {w : World} {g c n : Nat} {D : List H32} {base : Nat} {e : TypeId} (h : w.ownsRow base e 32 (.slice (some ⟨g, 0, none⟩) n c) n ((D.map (·.1)).flatMap (·.map bv))) (hn : n = D.length) : HoldsK encH 32 w g 0 D.toArray := by
  have hl : ∀ s ∈ D.map (·.1), s.length = 32 := fun s hs => by
    obtain ⟨x, _, rfl⟩ := List.mem_map.1 hs
    exact x.2
  have hs := HashesAt.own h hl (by rw [List.length_map, hn])
  intro j hj
  have hj' : j < D.length * 32 := by simpa using hj
  have hi : j / 32 < D.length := by omega
  have hr := hs.range' (j / 32) (D[j / 32].1) (by rw [List.getElem?_map, List.getElem?_eq_getElem hi]; rfl)
  have h32 := D[j / 32].2
  rw [get_flatK _ _ _ _ (by simpa using hj')]
  refine ⟨?_, ?_⟩
  · have h1 := hr (j % 32) ((encH D[j / 32])[j % 32]'(by rw [encH_len]; omega)) (List.getElem?_eq_getElem _)
    rw [show 0 + j / 32 * 32 + j % 32 = 0 + j by omega] at h1
    rw [h1]
    have e : D.toArray[j / 32]! = D[j / 32] := by rw [getElem!_pos _ _ (by simpa using hi)]; simp
    rw [e, getElem!_pos _ _ (by rw [encH_len]; omega)]
    rfl
  · rcases h.2 with ⟨h0, _⟩ | ⟨g', cap, cur, he, _, hg, _⟩
    · simp at h0
    · simp only [Value.slice.injEq, Option.some.injEq, Addr.mk.injEq] at he
      obtain ⟨⟨rfl, _⟩, _, rfl⟩ := he
      simp [World.frozen?, hg]
theorem holdsH_at {w : World} {g c : Nat} {D : List H32} (h : HoldsK encH 32 w g 0 D.toArray) (hc : D.length ≤ c) (hg : g < w.heap.size) : HashesAt w (.slice (some ⟨g, 0, none⟩) D.length c) (D.map (·.1)) := by
  have hl : ∀ s ∈ D.map (·.1), s.length = 32 := fun s hs => by
    obtain ⟨x, _, rfl⟩ := List.mem_map.1 hs
    exact x.2
  refine ⟨hl, .inr ⟨g, 0, c, by rw [List.length_map], by rw [List.length_map]; exact hc, hg, fun j u hj => ?_⟩⟩
  have hflat : ((D.map (·.1)).flatMap (·.map bv)).length = D.length * 32 := by
    clear h hc hg hj hl
    induction D with
    | nil => rfl
    | cons s t ih => rw [List.map_cons, List.flatMap_cons, List.length_append, List.length_map, s.2, ih, List.length_cons]; omega
  have hlt : j < D.length * 32 := by have := (List.getElem?_eq_some_iff.1 hj).1; omega
  have hi : j / 32 < D.length := by omega
  have h1 := (HoldsK.cell h (i := j / 32) (c := j % 32) (by simpa using hi) (by omega)).1
  rw [show 0 + j / 32 * 32 + j % 32 = 0 + j by omega] at h1
  rw [h1]
  have e : D.toArray[j / 32]! = D[j / 32] := by rw [getElem!_pos _ _ (by simpa using hi)]; simp
  have h2 := hashes_at (D.map (·.1)) (j / 32) (D[j / 32].1) (j % 32) hl (by rw [List.getElem?_map, List.getElem?_eq_getElem hi]; rfl) (by omega)
  rw [show 32 * (j / 32) + j % 32 = j by omega, hj] at h2
  rw [e, getElem!_pos _ _ (by rw [encH_len]; omega), h2]
  exact (List.getElem?_eq_getElem _).symm
theorem putRowH_grown {α : Type} [Inhabited α] (enc : α → Value) (w : World) (g off : Nat) (d : Array α) : w.grownBy (putRow enc w g off d) (some g) := by
  refine ⟨rfl, rfl, rfl, by simp [putRow, mapBlock], fun k hk hr => ?_⟩
  have hne : g ≠ k := fun e => hr (by rw [e])
  simp only [putRow, mapBlock]
  rw [Array.getElem?_modify, if_neg hne]
theorem aheadH_grown (w : World) (n : Nat) (row : Option Nat) : w.grownBy (Sort.ahead w n) row := ⟨rfl, rfl, rfl, Nat.le_refl _, fun _ _ _ => rfl⟩
theorem growH_grown (w : World) (os : Array Obj) (row : Option Nat) : w.grownBy (Sort.grow w os) row := ⟨rfl, rfl, rfl, by simp [Sort.grow], fun k hk _ => by simp [Sort.grow, Array.getElem?_append_left hk]⟩
end Go.Proofs.Ytodnmhflafpefaa
