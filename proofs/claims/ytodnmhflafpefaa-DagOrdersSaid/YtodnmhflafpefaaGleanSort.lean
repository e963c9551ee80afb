/-
  slices.SortFunc(l, sha.Cmp) of any digests: sorted, the row still one's own.
-/
import Derived.Test.YtodnmhflafpefaaBookSort
import Derived.Test.YtodnmhflafpefaaBookRep
import Derived.Test.YtodnmhflafpefaaOwnSet
set_option linter.unusedSimpArgs false
set_option linter.unusedVariables false
namespace Go.Proofs.Ytodnmhflafpefaa
open Go.RowKit Go.Sort

theorem own_of_cells {w : World} {base g n c size : Nat} {e : TypeId} {cur : Array Value} {xs : List Value} (hg : w.heap[g]? = some (.cells cur e (0, 0))) (hb : base ≤ g) (hn : n ≤ c) (hc : c ≤ maxLen) (hs : cur.size = c * size) (hx : xs.length = n * size) (h : ∀ j u, xs[j]? = some u → w.cell? ⟨g, j, none⟩ = some u) : w.ownsRow base e size (.slice (some ⟨g, 0, none⟩) n c) n xs := by
  refine ⟨hx, .inr ⟨g, c, cur, rfl, hb, hg, hn, hc, hs, ?_⟩⟩
  have hle : n * size ≤ c * size := Nat.mul_le_mul_right _ hn
  refine List.ext_getElem (by rw [List.length_take, hx]; simp; omega) fun j h1 h2 => ?_
  have h3 := h j xs[j] (List.getElem?_eq_getElem h2)
  have hj : j < cur.size := by rw [hx] at h2; omega
  simp only [World.cell?, hg] at h3
  rw [List.getElem_take]
  have h4 : cur[j]? = some xs[j] := by simpa using h3
  rw [Array.getElem?_eq_getElem hj] at h4
  simpa using Option.some.inj h4
end Go.Proofs.Ytodnmhflafpefaa
