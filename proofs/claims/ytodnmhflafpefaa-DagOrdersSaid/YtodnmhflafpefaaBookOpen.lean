/-
  What is read of the arguments: slices of digests, facts, namings.
-/
import Derived.Test.YtodnmhflafpefaaRd
import Derived.Test.YtodnmhflafpefaaBookRep
import Derived.ChangeSame
set_option linter.unusedSimpArgs false
set_option linter.unusedVariables false
namespace Go.Proofs.Ytodnmhflafpefaa
open Go.RowKit Go.ChangeShapes Go.WideShapes

section
variable {H : Type} {enc : TypeId × Value → H} {w : World} {base : Nat} {held : Bool} {fuel : Nat} {x : DataW H × List MemPlace}
set_option maxRecDepth 100000 in
/-- A slice, element by element, with where it lies. -/
theorem trod_elems {α : Type} {cells : α → List Value} {size : Nat} {ok : α → Prop} {t e : TypeId} {l : List Value}
    (ht : Try.prog.underlying t = some (.slice e)) (hs : Try.prog.cellsOf e = size) (hpos : 0 < size) (h0 : ∀ a, (cells a).length = size)
    (hel : ∀ (l : List Value) (m : Nat) (y : DataW H × List MemPlace), DataW.trod enc Try.prog w base (fun _ => true) held m e l = some y → ∃ a : α, ok a ∧ l = cells a)
    (h : DataW.trod enc Try.prog w base (fun _ => true) held fuel t l = some x) :
    ∃ (ao : Option Addr) (len cap : Nat) (xs : List α), l = [.slice ao len cap] ∧ len ≤ cap ∧ cap ≤ maxLen ∧ xs.length = len ∧ (∀ x ∈ xs, ok x) ∧
      (cap = 0 ∨ ∃ b off, ao = some ⟨b, off, none⟩ ∧ b < w.heap.size ∧ ∀ i (hi : i < xs.length), w.rangeAt b (off + i * size) (cells xs[i])) := by
  rcases Go.Deep.open_slice ht h with ⟨hcs, _⟩ | ⟨a, len, cap, m, n, D, Pl, hcs, hb, hl, hm, hmm, _, hi⟩
  · exact ⟨none, 0, 0, [], hcs, Nat.le_refl _, by simp [maxLen], rfl, by simp, .inl rfl⟩
  · simp only [if_true] at hmm
    subst hmm
    have hex : ∀ i, i < m → ∃ t : α, ok t ∧ ∀ j v, (cells t)[j]? = some v → w.cell? (a.add (i * size + j)) = some v := by
      intro i hlt
      obtain ⟨cs', h1, h2⟩ := hi i hlt
      rw [hs] at h1
      obtain ⟨_, h36, hat⟩ := World.cells?_some h1
      obtain ⟨t, hok, rfl⟩ := hel _ _ _ h2
      refine ⟨t, hok, fun j v hj => ?_⟩
      have hj36 : j < size := by have := (List.getElem?_eq_some_iff.1 hj).1; rw [h0] at this; exact this
      rw [← Go.Deep.add_add, hat j hj36]
      exact hj
    have hlist : ∀ n, n ≤ m → ∃ xs : List α, xs.length = n ∧ (∀ x ∈ xs, ok x) ∧ ∀ i (hi : i < xs.length) j v, (cells xs[i])[j]? = some v → w.cell? (a.add (i * size + j)) = some v := by
      intro n
      induction n with
      | zero => intro _; exact ⟨[], rfl, by simp, fun i hi => absurd hi (by simp)⟩
      | succ n ih =>
        intro hn
        obtain ⟨xs, hx1, hx2, hx3⟩ := ih (by omega)
        obtain ⟨t, ht1, ht2⟩ := hex n (by omega)
        refine ⟨xs ++ [t], by simp [hx1], ?_, ?_⟩
        · intro x hx
          rcases List.mem_append.1 hx with hx | hx
          · exact hx2 x hx
          · simp at hx; subst hx; exact ht1
        · intro i hi j v hj
          by_cases hlt : i < xs.length
          · rw [List.getElem_append_left hlt] at hj
            exact hx3 i hlt j v hj
          · have : i = xs.length := by simp at hi; omega
            subst this
            simp at hj
            rw [hx1]
            exact ht2 j v hj
    obtain ⟨xs, hx1, hx2, hx3⟩ := hlist len hl
    refine ⟨some a, len, m, xs, hcs, hl, hm, hx1, hx2, ?_⟩
    by_cases hz : m = 0
    · exact .inl hz
    · right
      obtain ⟨t, _, ht⟩ := hex 0 (by omega)
      obtain ⟨b, off, spot⟩ := a
      have hc := ht 0 _ (List.getElem?_eq_getElem (by rw [h0]; exact hpos))
      have hsp : spot = none := by simpa [Addr.add] using World.cell?_spot hc
      subst hsp
      refine ⟨b, off, rfl, ?_, fun i hi j v hj => ?_⟩
      · have := World.block_lt_of_cell? _ _ hc
        simpa [Addr.add] using this
      · have := hx3 i hi j v hj
        rw [Addr.add_mid] at this
        rw [Nat.add_assoc]
        exact this
abbrev Hs32 := { l : List UInt8 // l.length = 32 }
def FBound (f : FactT) : Prop := f.ins.length ≤ maxLen ∧ f.outs.length ≤ maxLen
set_option maxRecDepth 100000 in
theorem slice_cells {v : Value} {ao : Option Addr} {n c : Nat} {u : Value} (hv : v = .slice ao n c) (h : v.cells.toList = [u]) : v = u := by
  subst hv
  simpa [Value.cells] using h
end
end Go.Proofs.Ytodnmhflafpefaa
