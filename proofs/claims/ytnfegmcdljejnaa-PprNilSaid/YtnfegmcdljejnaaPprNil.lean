/-
  ppr: a nil row: Look, Take, Copy, Pack.
-/
import Derived.Test.YtnfegmcdljejnaaPprLook
set_option linter.unusedSimpArgs false
set_option linter.unusedVariables false
namespace Go.Proofs.Ytnfegmcdljejnaa
open Go.RowKit

set_option maxHeartbeats 4000000 in
set_option maxRecDepth 100000 in
theorem LookNil_calls (p : Int) (w : World) : Calls Try.prog 36 #[.pointer none, .pointer none, .int .i64 p] w fun e w' => e = .returned (.tuple #[.agg (zh32.map bv).toArray, .int .i64 1]) ∧ Below w.heap.size w w' := by
  have hZ0 := Blk.new w Z32 23
  have hb0 := below_alloc1 w (.cells Z32 23)
  go_enter Try.func36, Try.ntmps36
  go_wp2_with fail
  generalize w.alloc (.cells Z32 23) = W0 at hZ0 hb0 ⊢
  refine (withinNil_calls p _).mono ?_
  rintro e w1 ⟨rfl, b1⟩
  have hZ1 := hZ0.below b1 hZ0.lt
  have hb1 := hb0.trans (b1.mono hb0.size)
  clear b1 hZ0 hb0
  go_wp2_with (first | ((with_reducible show wpList _ _ _ (⟨some 16, _, _, _, _, _⟩ :: _) _ _); refine wpList_buildCells rfl 23 #[] rfl Z32 (by kernel_rfl) ?_) | ((with_reducible show wpList _ _ _ (⟨none, Op.store _ (.tmp 6) _, _, _, _, _⟩ :: _) _ _); refine wpList_storeBlk rfl 23 (.tmp 6) _ rfl w.heap.size Z32 (by rfl) (by rfl) _ _ hZ1 Try.sizeHash rfl Z32_all ?_; intro wz hZz gz))
  refine ret_blk2 rfl w.heap.size _ _ _ (by rfl) hZz Try.underlying23 rfl Try.sizeHash rfl ?_
  exact ⟨rfl, hb1.trans (grown_below gz (Nat.le_refl _) hb1.size)⟩
set_option maxHeartbeats 4000000 in
set_option maxRecDepth 100000 in
theorem TakeNil_calls (p : Int) (w : World) : Calls Try.prog 38 #[.pointer none, .pointer none, .int .i64 p] w fun e w' => e = .returned (.tuple #[.agg (zh32.map bv).toArray, .int .i64 1]) ∧ Below w.heap.size w w' := by
  have hZ0 := Blk.new w Z32 23
  have hb0 := below_alloc1 w (.cells Z32 23)
  go_enter Try.func38, Try.ntmps38
  go_wp2_with fail
  generalize w.alloc (.cells Z32 23) = W0 at hZ0 hb0 ⊢
  refine (withinNil_calls p _).mono ?_
  rintro e w1 ⟨rfl, b1⟩
  have hZ1 := hZ0.below b1 hZ0.lt
  have hb1 := hb0.trans (b1.mono hb0.size)
  clear b1 hZ0 hb0
  go_wp2_with (first | ((with_reducible show wpList _ _ _ (⟨some 16, _, _, _, _, _⟩ :: _) _ _); refine wpList_buildCells rfl 23 #[] rfl Z32 (by kernel_rfl) ?_) | ((with_reducible show wpList _ _ _ (⟨none, Op.store _ (.tmp 6) _, _, _, _, _⟩ :: _) _ _); refine wpList_storeBlk rfl 23 (.tmp 6) _ rfl w.heap.size Z32 (by rfl) (by rfl) _ _ hZ1 Try.sizeHash rfl Z32_all ?_; intro wz hZz gz))
  refine ret_blk2 rfl w.heap.size _ _ _ (by rfl) hZz Try.underlying23 rfl Try.sizeHash rfl ?_
  exact ⟨rfl, hb1.trans (grown_below gz (Nat.le_refl _) hb1.size)⟩
theorem CopyNil_calls (w : World) : Calls Try.prog 37 #[.pointer none] w fun e w' => e = .returned (.pointer none) ∧ Below w.heap.size w w' := by
  go_enter Try.func37, Try.ntmps37
  go_wp2
  go_returns
  exact ⟨rfl, Below.refl _ _⟩
theorem PackNil_calls (w : World) : Calls Try.prog 79 #[.pointer none] w fun e w' => e = .returned (.string (str [])) ∧ Below w.heap.size w w' := by
  go_enter Try.func79, Try.ntmps79
  go_wp2
  go_returns
  exact ⟨rfl, Below.refl _ _⟩
end Go.Proofs.Ytnfegmcdljejnaa
