/-
  BoughAbove: the walk.
-/
import Derived.Test.YtdmjiokeangmmaaBoughAwake
set_option linter.unusedSimpArgs false
set_option linter.unusedVariables false
namespace Go.Proofs.Ytdmjiokeangmmaa
open Go.RowKit Bg

set_option maxRecDepth 100000 in
set_option maxHeartbeats 1000000 in
theorem walkBoughAbove (n : Int) (hn : (Lit.int .i64 n).wf = true) (x : Int) (hx : (Lit.int .i64 x).wf = true) (w : World) : Calls Try.prog 8 #[.int .i64 n, .int .i64 x] w fun e w' => e = .returned (.bool true) ∧ Below w.heap.size w w' := by
  clear hn
  clear hx
  have hb : Below w.heap.size w w := Below.refl _ _
  go_enter Try.func8, Try.ntmps8
  go_wp2_with fail
  refine (Bg.awake_calls _).mono ?_
  rintro e w1 ⟨rfl, s1⟩
  have hb1 := bl hb s1
  clear s1
  go_wp2_with fail
  refine (Above_calls n x _).mono ?_
  rintro e w2 ⟨rfl, s2⟩
  have hb2 := bs hb1 s2
  clear s2 hb1
  go_wp2_with fail
  refine (RAbove' n x _).mono ?_
  rintro e w3 ⟨rfl, rfl⟩
  go_wp2
  go_returns
  exact ⟨by simp, hb2⟩
end Go.Proofs.Ytdmjiokeangmmaa
