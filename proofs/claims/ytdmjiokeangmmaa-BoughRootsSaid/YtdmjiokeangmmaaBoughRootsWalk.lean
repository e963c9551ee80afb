/-
  BoughRoots: the walk.
-/
import Derived.Test.YtdmjiokeangmmaaBoughAwake
set_option linter.unusedSimpArgs false
set_option linter.unusedVariables false
namespace Go.Proofs.Ytdmjiokeangmmaa
open Go.RowKit Bg

set_option maxRecDepth 100000 in
set_option maxHeartbeats 1000000 in
theorem walkBoughRoots (n : Int) (hn : (Lit.int .i64 n).wf = true) (w : World) : Calls Try.prog 6 #[.int .i64 n] w fun e w' => e = .returned (.bool true) ∧ Below w.heap.size w w' := by
  clear hn
  have hb : Below w.heap.size w w := Below.refl _ _
  go_enter Try.func6, Try.ntmps6
  go_wp2_with fail
  refine (Bg.awake_calls _).mono ?_
  rintro e w1 ⟨rfl, s1⟩
  have hb1 := bl hb s1
  clear s1
  go_wp2_with fail
  refine (Root_calls n _).mono ?_
  rintro e w2 ⟨rfl, rfl⟩
  go_wp2_with fail
  refine (RRoot' n _).mono ?_
  rintro e w3 ⟨rfl, rfl⟩
  go_wp2
  go_returns
  exact ⟨by simp, hb1⟩
end Go.Proofs.Ytdmjiokeangmmaa
