/-
  The law's own example: it holds.
-/
import Derived.Test.YtfmendgbmkclkaaWireW2
import Derived.Test.YtfmendgbmkclkaaWireR2
import Derived.Test.YtfmendgbmkclkaaWireRef
set_option linter.unusedSimpArgs false
set_option linter.unusedVariables false
namespace Go.Proofs.Ytfmendgbmkclkaa
open Go.RowKit

theorem awake_calls (w : World) : Calls Try.prog 14 #[] w fun e w' => e = .returned (.bool true) ∧ Below w.heap.size w w' := by
  go_enter Try.func14, Try.ntmps14
  go_wp2_with fail
  refine (New_calls _).mono ?_
  rintro e w1 ⟨rfl, h1, b1⟩
  go_wp2_with fail
  refine (num_calls w.heap.size _ _ _ _ _ h1 b1.size (by simp) (by omega) (by omega)).mono ?_
  rintro e w2 ⟨rfl, h2, b2⟩
  go_wp2_with fail
  refine (textOk_calls w.heap.size _ _ _ [97, 98] _ h2 (Nat.le_trans b1.size b2.size) (by decide) (by decide)).mono ?_
  rintro e w3 ⟨rfl, h3, b3⟩
  go_wp2_with fail
  refine (endOk_calls w.heap.size _ _ _ h3).mono ?_
  rintro e w4 ⟨rfl, rfl⟩
  have hs : str ([] ++ numB (Int.toNat 16384) ++ numB ([97, 98] : List UInt8).length ++ [97, 98]) = str [128, 0, 64, 0, 2, 97, 98] := by decide
  rw [hs]
  go_wp2_with fail
  refine (From_calls [127, 255] _).mono ?_
  rintro e w5 ⟨rfl, h5, b5⟩
  go_wp2_with fail
  refine (RNum_calls _ _ 20000 _ h5 (by decide)).mono ?_
  rintro e w6 ⟨rfl, h6, g6⟩
  rw [show (rNum 20000 ([127, 255], 0)).1 = 16383 from by decide]
  go_wp2
  go_returns
  refine ⟨rfl, ?_⟩
  have bb := (b1.trans b2.below).trans b3.below
  exact bb.trans ((b5.mono bb.size).trans (grown_below g6 bb.size (Nat.le_trans bb.size b5.size)))
end Go.Proofs.Ytfmendgbmkclkaa
