/-
  The document's rows: Gone, whole: what they say of the places that were taken.
  The document's rows: below, Seeds: the seeds that a row has. A store of one cell into a block known whole; what a row keeps while another block is written.
  Rows of seeds, plain: what a taking of any place does; what a row keeps while another row is written.
-/
import Derived.Test.YtjlpdbaknhbgdaaGreatQPpr
import Derived.Test.YtjlpdbaknhbgdaaGreatPprTake
import Derived.Test.YtjlpdbaknhbgdaaGreatQBase
import Derived.Test.YtjlpdbaknhbgdaaGreatQRef
import Derived.Test.YtjlpdbaknhbgdaaGreatPprWalk
set_option linter.unusedSimpArgs false
set_option linter.unusedVariables false
namespace Go.Proofs.YtjlpdbaknhbgdaaGreat
open Go.RowKit

/-- Places that were taken, as they lie in memory. -/
def IntsA (w : World) (v : Value) (tk : List Nat) : Prop := (v = .slice none 0 0 ∧ tk = []) ∨ ∃ g o c, v = .slice (some ⟨g, o, none⟩) tk.length c ∧ g < w.heap.size ∧ ∀ (j x : Nat), tk[j]? = some x → w.cell? ⟨g, o + j, none⟩ = some (.int .i64 (x : Int))
theorem IntsA.below {w w' : World} {v : Value} {tk : List Nat} (h : IntsA w v tk) (b : Below w.heap.size w w') : IntsA w' v tk := by
  rcases h with h0 | ⟨g, o, c, rfl, hlt, hcell⟩
  · exact .inl h0
  · exact .inr ⟨g, o, c, rfl, Nat.lt_of_lt_of_le hlt b.size, fun j x hj => (b.cell (p := ⟨g, o + j, none⟩) hlt).trans (hcell j x hj)⟩
theorem IntsA.slice {w : World} {v : Value} {tk : List Nat} (h : IntsA w v tk) : ∃ ao c, v = .slice ao tk.length c := by
  rcases h with ⟨rfl, rfl⟩ | ⟨g, o, c, rfl, _⟩
  · exact ⟨_, _, rfl⟩
  · exact ⟨_, _, rfl⟩
theorem IntsA.cell {w : World} {ao : Option Addr} {n c : Nat} {tk : List Nat} (h : IntsA w (.slice ao n c) tk) (k x : Nat) (hx : tk[k]? = some x) : ∃ g o, ao = some ⟨g, o, none⟩ ∧ w.cell? ⟨g, o + k, none⟩ = some (.int .i64 (x : Int)) := by
  rcases h with ⟨h0, rfl⟩ | ⟨g, o, c', he, hlt, hcell⟩
  · simp at hx
  · simp only [Value.slice.injEq] at he
    exact ⟨g, o, he.1, hcell k x hx⟩
end Go.Proofs.YtjlpdbaknhbgdaaGreat
set_option linter.unusedSimpArgs false
set_option linter.unusedVariables false
namespace Go.Proofs.YtjlpdbaknhbgdaaGreat
open Go.RowKit

end Go.Proofs.YtjlpdbaknhbgdaaGreat
set_option linter.unusedSimpArgs false
set_option linter.unusedVariables false
namespace Go.Proofs.YtjlpdbaknhbgdaaGreat
open Go.RowKit

/-- A row stays what it is while a block is written whose first cell is no number of type int. -/
theorem RowAt.other {w w' : World} {r B M : Nat} {l : List Sd} {cs : Array Value} {t : TypeId} (h : RowAt w r B l) (gr : w.grownBy w' (some M)) (hM : Blk w M cs t) (h0 : ∃ u, cs[0]? = some u ∧ ∀ n, u ≠ .int .i64 n) : RowAt w' r B l := by
  obtain ⟨v, h1, h2, h3⟩ := h
  obtain ⟨u0, hu, hu2⟩ := h0
  have hne : r ≠ M := fun e => by
    subst e
    unfold Blk at h1 hM
    rw [h1] at hM
    simp at hM
    rw [← hM.1] at hu
    simp at hu
    exact hu2 _ hu.symm
  refine ⟨v, h1.grown gr (by simpa using hne), h2, ?_⟩
  rcases h3 with h0 | ⟨g, c, rfl, hc, hlt, hcell⟩
  · exact .inl h0
  · refine .inr ⟨g, c, rfl, hc, Nat.lt_of_lt_of_le hlt gr.size, fun j u hj => ?_⟩
    have hg : g ≠ M := fun e => by
      subst e
      cases l with
      | nil => simp at hj
      | cons s l =>
        have h5 := hcell 0 (.int .i64 s.lv) (by simp [Sd.cells])
        have h6 := hM.cell 0 u0 hu
        rw [h5] at h6
        cases h6
        exact hu2 _ rfl
    have h7 := hcell j u hj
    have h8 := gr.block g hlt (by simpa using hg)
    simp only [World.cell?, h8] at h7 ⊢
    exact h7
theorem IntsA.grown {w w' : World} {v : Value} {tk : List Nat} {M : Nat} {cs : Array Value} {t : TypeId} (h : IntsA w v tk) (gr : w.grownBy w' (some M)) (hM : Blk w M cs t) (h0 : ∀ g o c, v = .slice (some ⟨g, o, none⟩) tk.length c → g ≠ M) : IntsA w' v tk := by
  rcases h with h0 | ⟨g, o, c, rfl, hlt, hcell⟩
  · exact .inl h0
  · refine .inr ⟨g, o, c, rfl, Nat.lt_of_lt_of_le hlt gr.size, fun j x hj => ?_⟩
    have h7 := hcell j x hj
    have h8 := gr.block g hlt (by simpa using h0 g o c rfl)
    simp only [World.cell?, h8] at h7 ⊢
    exact h7
end Go.Proofs.YtjlpdbaknhbgdaaGreat
set_option linter.unusedSimpArgs false
set_option linter.unusedVariables false
namespace Go.Proofs.YtjlpdbaknhbgdaaGreat
open Go.RowKit

theorem RowAt.otherRow {w w' : World} {r r2 B B' : Nat} {l l' : List Sd} (h : RowAt w r2 B l) (gr : w.grownBy w' (some r)) (hR : RowAt w r B' l') (hne : r2 ≠ r) : RowAt w' r2 B l := by
  obtain ⟨v, h1, h2, h3⟩ := h
  obtain ⟨v', g1, g2⟩ := hR
  refine ⟨v, h1.grown gr (by simpa using hne), h2, ?_⟩
  rcases h3 with h0 | ⟨g, c, rfl, hc, hlt, hcell⟩
  · exact .inl h0
  · refine .inr ⟨g, c, rfl, hc, Nat.lt_of_lt_of_le hlt gr.size, fun j u hj => ?_⟩
    have hg : g ≠ r := fun e => by
      subst e
      cases l with
      | nil => simp at hj
      | cons s l =>
        have h5 := hcell 1 (.int .i64 s.pl) (by simp [Sd.cells])
        have h6 := g1.cell 1 v' rfl
        rw [h5] at h6
        obtain ⟨ao, c', e, _⟩ := g2.slice
        rw [e] at h6
        cases h6
    have h7 := hcell j u hj
    have h8 := gr.block g hlt (by simpa using hg)
    simp only [World.cell?, h8] at h7 ⊢
    exact h7
theorem RowAt.slot {w : World} {r B : Nat} {l : List Sd} (h : RowAt w r B l) : ∃ v, Blk w r #[.int .i64 B, v] 158 := ⟨_, h.choose_spec.1⟩
end Go.Proofs.YtjlpdbaknhbgdaaGreat
