/-
  Rows of seeds, plain: what a taking of any place does; what a row keeps while another row is written.
-/
import Derived.Test.YtnfegmcdljejnaaPprCells
import Derived.Test.YtnfegmcdljejnaaElems
set_option linter.unusedSimpArgs false
set_option linter.unusedVariables false
namespace Go.Proofs.Ytnfegmcdljejnaa
open Go.RowKit

theorem row_step (root : List UInt8) (B : Nat) (tk : List Nat) (htk : ∀ y ∈ tk, y < 2 ^ B) (x : Int) :
    ∃ tk' : List Nat, takeT B x (rowT root B tk) = rowT root B tk' ∧ (∀ y : Nat, y < 2 ^ B → (y ∈ tk' ↔ y ∈ tk ∨ (y : Int) = x)) ∧ (rowT root B tk').length ≤ (rowT root B tk).length + 2 * B ∧ (∀ y ∈ tk', y < 2 ^ B) ∧ tk'.length ≤ tk.length + 1 := by
  by_cases hw : withinT B x = true
  · have hw2 : 0 ≤ x ∧ x < ((2 ^ B : Nat) : Int) := by simpa [withinT] using hw
    obtain ⟨q, rfl⟩ : ∃ q : Nat, x = q := ⟨x.toNat, by omega⟩
    have hq : q < 2 ^ B := by omega
    by_cases ht : q ∈ tk
    · refine ⟨tk, (row_gone root B q tk hw ht).1, fun y _ => ⟨.inl, fun h => h.elim id (fun e => ?_)⟩, by omega, htk, by omega⟩
      have : y = q := by omega
      subst this; exact ht
    · refine ⟨tk ++ [q], (row_take root B q tk hw ht).1, fun y _ => ?_, row_len root B q tk hq, fun y hy => ?_, by simp⟩
      · rw [List.mem_append, List.mem_singleton]
        exact ⟨fun h => h.imp id (fun e => by rw [e]), fun h => h.imp id (fun e => by omega)⟩
      · rcases List.mem_append.1 hy with hy | hy
        · exact htk y hy
        · rw [List.mem_singleton] at hy; omega
  · have hw' : withinT B x = false := by simpa using hw
    refine ⟨tk, (row_out root B x tk hw').1, fun y hy => ⟨.inl, fun h => h.elim id (fun e => ?_)⟩, by omega, htk, by omega⟩
    exfalso
    refine hw ?_
    rw [withinT]
    exact decide_eq_true ⟨by omega, by omega⟩
theorem RowAt.otherRow {w w' : World} {r r2 B B' : Nat} {l l' : List Sd} (h : RowAt w r2 B l) (gr : w.grownBy w' (some r)) (hR : RowAt w r B' l') (hne : r2 ≠ r) : RowAt w' r2 B l := by
  obtain ⟨v, h1, h2, h3⟩ := h
  obtain ⟨v', g1, g2⟩ := hR
  refine ⟨v, h1.grown gr (by simpa using hne), h2, ?_⟩
  rcases h3 with h0 | ⟨g, c, rfl, hc, hlt, hcell⟩
  · exact .inl h0
  · refine .inr ⟨g, c, rfl, hc, Nat.lt_of_lt_of_le hlt gr.size, fun j u hj => ?_⟩
    have hg : g ≠ r := fun e => by
      subst e
      cases l with
      | nil => simp at hj
      | cons s l =>
        have h5 := hcell 1 (.int .i64 s.pl) (by simp [Sd.cells])
        have h6 := g1.cell 1 v' rfl
        rw [h5] at h6
        obtain ⟨ao, c', e, _⟩ := g2.slice
        rw [e] at h6
        cases h6
    have h7 := hcell j u hj
    have h8 := gr.block g hlt (by simpa using hg)
    simp only [World.cell?, h8] at h7 ⊢
    exact h7
theorem RowAt.slot {w : World} {r B : Nat} {l : List Sd} (h : RowAt w r B l) : ∃ v, Blk w r #[.int .i64 B, v] 141 := ⟨_, h.choose_spec.1⟩
/-- What else lies in memory stays while a row is written: a slice of an argument, whose block was there before the row. -/
theorem Elems.grownR {α : Type} {cells : α → List Value} {size : Nat} {w0 w w' : World} {ao : Option Addr} {len : Nat} {xs : List α} {r : Nat} (h0 : Elems cells size w0 ao len xs) (h : Elems cells size w ao len xs) (gr : w.grownBy w' (some r)) (hr : w0.heap.size ≤ r) : Elems cells size w' ao len xs := by
  refine ⟨h.1, ?_⟩
  rcases h0.2 with h1 | ⟨b, off, rfl, hb0, _⟩
  · exact .inl h1
  · rcases h.2 with h1 | ⟨b', off', he, hb, hc⟩
    · exact .inl h1
    · simp only [Option.some.injEq, Addr.mk.injEq] at he
      obtain ⟨rfl, rfl, _⟩ := he
      refine .inr ⟨b, off, rfl, Nat.lt_of_lt_of_le hb gr.size, fun i hi j v hj => ?_⟩
      have h7 := hc i hi j v hj
      have h8 := gr.block b hb (by simp; omega)
      simp only [World.cell?, h8] at h7 ⊢
      exact h7
end Go.Proofs.Ytnfegmcdljejnaa
