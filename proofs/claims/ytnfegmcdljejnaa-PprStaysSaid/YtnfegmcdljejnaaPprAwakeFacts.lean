/-
  Plain facts for the document's example of rows (awake of bevylaw06).
-/
import Derived.Test.YtnfegmcdljejnaaPprTake
set_option linter.unusedSimpArgs false
set_option linter.unusedVariables false
namespace Go.Proofs.Ytnfegmcdljejnaa
open Go.RowKit

theorem stK_example (D : Bool → List UInt8 → List UInt8) (h : List UInt8) : wayT 2 1 0 = 0 ∧ wayT 2 1 1 = 1 := by decide
theorem stK_two (h : List UInt8) : stK 2 1 ⟨0, 0, h⟩ 2 = (⟨2, 1, downT true (downT false h)⟩, [⟨2, 0, downT false (downT false h)⟩], [⟨1, 1, downT true h⟩]) := by
  have w0 : wayT 2 1 0 = 0 := by decide
  have w1 : wayT 2 1 1 = 1 := by decide
  simp [stK, Sd.child, w0, w1]
theorem find_first (h : List UInt8) : findT 2 1 [⟨0, 0, h⟩] = some 0 := by simp [findT]
theorem take_first (h : List UInt8) : takeT 2 1 [⟨0, 0, h⟩] = [⟨2, 0, downT false (downT false h)⟩, ⟨1, 1, downT true h⟩] := by
  have hw : withinT 2 1 = true := by decide
  have hf := find_first h
  have hs := stK_two h
  rw [takeT, if_pos hw]
  simp [hf, hs]
theorem look_first (h : List UInt8) : (lookT 2 1 [⟨0, 0, h⟩]).2 = 0 := by
  have hw : withinT 2 1 = true := by decide
  have hf := find_first h
  rw [lookT, if_pos hw]
  simp [hf]
theorem find_second (a b : List UInt8) : findT 2 1 [⟨2, 0, a⟩, ⟨1, 1, b⟩] = none := by simp [findT, List.findIdx?_cons]
theorem find_third (a b : List UInt8) : findT 2 2 [⟨2, 0, a⟩, ⟨1, 1, b⟩] = some 1 := by simp [findT, List.findIdx?_cons]
theorem look_second (a b : List UInt8) : lookT 2 1 [⟨2, 0, a⟩, ⟨1, 1, b⟩] = (zh32, 10) := by
  have hw : withinT 2 1 = true := by decide
  rw [lookT, if_pos hw]
  simp [find_second a b]
theorem take_second (a b : List UInt8) : takeT 2 1 [⟨2, 0, a⟩, ⟨1, 1, b⟩] = [⟨2, 0, a⟩, ⟨1, 1, b⟩] := by
  have hw : withinT 2 1 = true := by decide
  rw [takeT, if_pos hw]
  simp [find_second a b]
theorem gone_one (a b : List UInt8) : goneT 2 1 [⟨2, 0, a⟩, ⟨1, 1, b⟩] = true := by
  rw [goneT]; simp [find_second a b]
theorem gone_two (a b : List UInt8) : goneT 2 2 [⟨2, 0, a⟩, ⟨1, 1, b⟩] = false := by
  have hw : withinT 2 2 = true := by decide
  rw [goneT, hw]; simp [find_third a b]
end Go.Proofs.Ytnfegmcdljejnaa
