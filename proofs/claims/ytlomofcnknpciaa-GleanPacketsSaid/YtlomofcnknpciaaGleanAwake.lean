/-
  glean: the example of the laws: Right and Pack of a digest without names; the law's awake.
-/
import Derived.Test.YtlomofcnknpciaaGleanRef
import Derived.Test.YtlomofcnknpciaaWireWH
set_option linter.unusedSimpArgs false
set_option linter.unusedVariables false
namespace Go.Proofs.Ytlomofcnknpciaa
open Go.RowKit

abbrev pkD : Array Value := #[.int .i64 4, .string ⟨#[]⟩, .slice none 0 0, .slice none 0 0]
set_option maxHeartbeats 4000000 in
set_option maxRecDepth 100000 in
theorem RightD_calls (w : World) : Calls Try.prog 58 #[.agg pkD] w fun e w' => e = .returned (.bool true) ∧ Below w.heap.size w w' := by
  have hb0 : Below w.heap.size w (w.alloc (.cells pkD 109)) := below_alloc1 _ _
  have hA0 : Blk (w.alloc (.cells pkD 109)) w.heap.size pkD 109 := Blk.new _ _ _
  have h0 := hA0.cell 0 _ rfl
  have h1 := hA0.cell 1 _ rfl
  have h2 := hA0.cell 2 _ rfl
  have h3 := hA0.cell 3 _ rfl
  go_enter Try.func58, Try.ntmps58
  go_wp2_with fail
  go_loopw [4] (fun iv wr => iv = .int .i64 1 ∧ wr = w.alloc (.cells pkD 109)) (fun _ _ => 0)
  case atStart => exact ⟨rfl, rfl⟩
  case round =>
    obtain ⟨rfl, rfl⟩ := hrel
    go_wp2_with fail
    go_returns
    exact ⟨rfl, hb0⟩
set_option maxHeartbeats 4000000 in
set_option maxRecDepth 100000 in
theorem PackD_calls (w : World) : Calls Try.prog 59 #[.agg pkD] w fun e w' => e = .returned (.string (str [4, 0])) ∧ Below w.heap.size w w' := by
  have hb0 : Below w.heap.size w (w.alloc (.cells pkD 109)) := below_alloc1 _ _
  have hA0 : Blk (w.alloc (.cells pkD 109)) w.heap.size pkD 109 := Blk.new _ _ _
  have h0 := hA0.cell 0 _ rfl
  have h1 := hA0.cell 1 _ rfl
  have h2 := hA0.cell 2 _ rfl
  have h3 := hA0.cell 3 _ rfl
  go_enter Try.func59, Try.ntmps59
  go_wp2_with fail
  clear h0 h1 h2 h3
  generalize w.alloc (.cells pkD 109) = W0 at hb0 hA0 ⊢
  refine (RightD_calls _).mono ?_
  rintro e w1 ⟨rfl, b1⟩
  have hA1 := hA0.below b1 hA0.lt
  have hB1 := hb0.trans (b1.mono hb0.size)
  clear b1 hA0 hb0
  go_wp2_with fail
  refine (New_calls _).mono ?_
  rintro e w2 ⟨rfl, hw2, b2⟩
  have hA2 := hA1.below b2 hA1.lt
  have hlt := hA1.lt
  obtain ⟨B, hBB⟩ : ∃ n, n = w1.heap.size := ⟨_, rfl⟩
  rw [← hBB] at hw2 b2 hlt ⊢
  have HW2 := Lib.hid hw2
  have hB2 := hB1.trans (b2.mono (by have := hB1.size; omega))
  have hs2 : B ≤ w2.heap.size := by have := b2.size; omega
  have h0 := hA2.cell 0 _ rfl
  have hwB : w.heap.size ≤ B := by have := hB1.size; omega
  clear hA1 hB1 hw2 b2 hBB
  go_wp2_with fail
  refine (num0_calls B B [] false 4 _ HW2.out hs2 (by simp) (by omega) (by omega)).mono ?_
  rintro e w3 ⟨rfl, hw3, k3⟩
  have hB3 := hB2.trans (k3.below.mono hwB)
  have hA3 := hA2.below (k3.below.mono (Nat.le_refl _)) hlt
  have HW3 := Lib.hid hw3
  have hs3 : B ≤ w3.heap.size := Nat.le_trans hs2 k3.below.size
  have h0 := hA3.cell 0 _ rfl
  have h2 := hA3.cell 2 _ rfl
  clear hA2 hB2 hw3 k3 HW2 hs2
  go_wp2_with fail
  refine (num0_calls B B [4] false 0 _ (by simpa [numB] using HW3.out) hs3 (by simp) (by omega) (by omega)).mono ?_
  rintro e w4 ⟨rfl, hw4, k4⟩
  have hB4 := hB3.trans (k4.below.mono hwB)
  have hA4 := hA3.below k4.below hlt
  have HW4 := Lib.hid hw4
  have h2 := hA4.cell 2 _ rfl
  clear hA3 hB3 hw4 k4 HW3 hs3
  go_wp2_with fail
  go_loopw [35] (fun iv wr => iv = .int .i64 0 ∧ wr = w4) (fun _ _ => 0)
  case atStart => exact ⟨rfl, rfl⟩
  case round =>
    obtain ⟨rfl, rfl⟩ := hrel
    go_wp2_with fail
    refine (endOk_calls B B [4, 0] _ (by simpa [numB] using HW4.out)).mono ?_
    rintro e w5 ⟨rfl, rfl⟩
    go_wp2_with fail
    go_returns
    exact ⟨rfl, hB4⟩
end Go.Proofs.Ytlomofcnknpciaa
