/-
  bevyref11.text: a digest's bytes.
-/
import Derived.Test.YtnfegmcdljejnaaKeysTag
set_option linter.unusedSimpArgs false
set_option linter.unusedVariables false
namespace Go.Proofs.Ytnfegmcdljejnaa
open Go.RowKit

set_option maxHeartbeats 4000000 in
set_option maxRecDepth 100000 in
theorem Text_calls (a : List UInt8) (w : World) (ha : a.length = 32) :
    Calls Try.prog 90 #[.agg (a.map bv).toArray] w fun e w' => e = .returned (.string (str a)) ∧ w' = w.alloc (.cells (a.map bv).toArray 22) := by
  have HA := Lib.hid ha
  clear ha
  have hA0 : Blk (w.alloc (.cells (a.map bv).toArray 22)) w.heap.size (a.map bv).toArray 22 := Blk.new _ _ _
  have hcv := conv_blk HA.out hA0
  go_enter Try.func90, Try.ntmps90
  go_wp2_with fail
  exact ⟨rfl, _, (by simp [results, Try.f90, go_sem]), rfl, rfl⟩
end Go.Proofs.Ytnfegmcdljejnaa
