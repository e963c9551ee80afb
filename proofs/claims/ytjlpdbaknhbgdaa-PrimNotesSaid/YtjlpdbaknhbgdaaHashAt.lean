/-
  Slices of digests, as they lie in memory.
-/
import Derived.Test.YtjlpdbaknhbgdaaKit0
set_option linter.unusedSimpArgs false
set_option linter.unusedVariables false
namespace Go.Proofs.Ytjlpdbaknhbgdaa
open Go.RowKit

def HashesAt (w : World) (v : Value) (l : List (List UInt8)) : Prop :=
  (∀ h ∈ l, h.length = 32) ∧ ((l = [] ∧ ∃ ao, v = .slice ao 0 0) ∨ ∃ g o c, v = .slice (some ⟨g, o, none⟩) l.length c ∧ l.length ≤ c ∧ g < w.heap.size ∧ ∀ j u, (l.flatMap (·.map bv))[j]? = some u → w.cell? ⟨g, o + j, none⟩ = some u)
theorem HashesAt.below {w w' : World} {v : Value} {l : List (List UInt8)} (h : HashesAt w v l) (b : Below w.heap.size w w') : HashesAt w' v l := by
  refine ⟨h.1, ?_⟩
  rcases h.2 with h0 | ⟨g, o, c, rfl, hc, hlt, hcell⟩
  · exact .inl h0
  · exact .inr ⟨g, o, c, rfl, hc, Nat.lt_of_lt_of_le hlt b.size, fun j u hj => (b.cell (p := ⟨g, o + j, none⟩) hlt).trans (hcell j u hj)⟩
theorem HashesAt.slice {w : World} {v : Value} {l : List (List UInt8)} (h : HashesAt w v l) : ∃ ao c, v = .slice ao l.length c ∧ l.length ≤ c := by
  rcases h.2 with ⟨rfl, ao, rfl⟩ | ⟨g, o, c, rfl, hc, _⟩
  · exact ⟨_, _, rfl, Nat.le_refl _⟩
  · exact ⟨_, _, rfl, hc⟩
theorem hashes_at : ∀ (l : List (List UInt8)) (i : Nat) (s : List UInt8) (j : Nat), (∀ s ∈ l, s.length = 32) → l[i]? = some s → j < 32 → (l.flatMap (·.map bv))[32 * i + j]? = (s.map bv)[j]?
  | [], i, s, j, _, h, _ => by simp at h
  | t :: l, 0, s, j, hl, h, hj => by
    obtain rfl : t = s := by simpa using h
    rw [List.flatMap_cons, List.getElem?_append_left (by rw [List.length_map, hl t List.mem_cons_self]; omega), Nat.mul_zero, Nat.zero_add]
  | t :: l, i + 1, s, j, hl, h, hj => by
    have h32 := hl t List.mem_cons_self
    rw [List.flatMap_cons, List.getElem?_append_right (by rw [List.length_map]; omega), List.length_map, h32, show 32 * (i + 1) + j - 32 = 32 * i + j by omega]
    exact hashes_at l i s j (fun s hs => hl s (List.mem_cons_of_mem _ hs)) (by simpa using h) hj
/-- Where the digest k lies. -/
theorem HashesAt.range {w : World} {ao : Option Addr} {n c : Nat} {l : List (List UInt8)} (h : HashesAt w (.slice ao n c) l) (i : Nat) (s : List UInt8) (hi : l[i]? = some s) : ∃ g o, ao = some ⟨g, o, none⟩ ∧ w.rangeAt g (o + i * 32) (s.map bv) := by
  rcases h.2 with ⟨rfl, h0⟩ | ⟨g, o, c', he, _, hlt, hcell⟩
  · simp at hi
  · simp only [Value.slice.injEq] at he
    refine ⟨g, o, he.1, fun j u hj => ?_⟩
    have hs : s.length = 32 := h.1 s (List.mem_of_getElem? hi)
    have hj32 : j < 32 := by have := (List.getElem?_eq_some_iff.1 hj).1; rw [List.length_map, hs] at this; exact this
    have := hcell (32 * i + j) u (by rw [hashes_at l i s j h.1 hi hj32]; exact hj)
    rwa [show o + (32 * i + j) = o + i * 32 + j by omega] at this
theorem HashesAt.range' {w : World} {g o n c : Nat} {l : List (List UInt8)} (h : HashesAt w (.slice (some ⟨g, o, none⟩) n c) l) (i : Nat) (s : List UInt8) (hi : l[i]? = some s) : w.rangeAt g (o + i * 32) (s.map bv) := by
  obtain ⟨g', o', he, hr⟩ := h.range i s hi
  simp only [Option.some.injEq, Addr.mk.injEq] at he
  obtain ⟨rfl, rfl, _⟩ := he
  exact hr
theorem HashesAt.own {w : World} {e : TypeId} {base n : Nat} {v : Value} {l : List (List UInt8)} (h : w.ownsRow base e 32 v n (l.flatMap (·.map bv))) (hl : ∀ s ∈ l, s.length = 32) (hn : n = l.length) : HashesAt w v l := by
  subst hn
  refine ⟨hl, ?_⟩
  rcases h.2 with ⟨h0, h1⟩ | ⟨g, cap, cur, rfl, hb, hg, h1, h2, h3, h4⟩
  · exact .inl ⟨List.eq_nil_of_length_eq_zero h1, none, h0⟩
  · refine .inr ⟨g, 0, cap, rfl, h1, lt_of_block hg, fun j u hj => ?_⟩
    have hlt : j < l.length * 32 := by
      have := (List.getElem?_eq_some_iff.1 hj).1
      rw [h.1] at this; exact this
    have e : (cur.toList.take (l.length * 32))[j]? = some u := by rw [h4]; exact hj
    rw [List.getElem?_take_of_lt hlt] at e
    have : cur[j]? = some u := by simpa using e
    simp [World.cell?, hg, this]
end Go.Proofs.Ytjlpdbaknhbgdaa
