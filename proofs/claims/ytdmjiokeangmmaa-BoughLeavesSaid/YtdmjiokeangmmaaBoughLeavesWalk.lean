/-
  BoughLeaves: the walk.
-/
import Derived.Test.YtdmjiokeangmmaaBoughAwake
set_option linter.unusedSimpArgs false
set_option linter.unusedVariables false
namespace Go.Proofs.Ytdmjiokeangmmaa
open Go.RowKit Bg

set_option maxRecDepth 100000 in
set_option maxHeartbeats 1000000 in
theorem walkBoughLeaves (n : Int) (hn : (Lit.int .i64 n).wf = true) (x : Int) (hx : (Lit.int .i64 x).wf = true) (l : Int) (hl : (Lit.int .i64 l).wf = true) (w : World) : Calls Try.prog 4 #[.int .i64 n, .int .i64 x, .int .i64 l] w fun e w' => e = .returned (.bool true) ∧ Below w.heap.size w w' := by
  clear hn
  clear hx
  clear hl
  have hb : Below w.heap.size w w := Below.refl _ _
  go_enter Try.func4, Try.ntmps4
  go_wp2_with fail
  refine (Leaves_calls n x _).mono ?_
  rintro e w1 ⟨rfl, rfl⟩
  go_wp2_with fail
  refine (RLeaves' n x _).mono ?_
  rintro e w2 ⟨rfl, rfl⟩
  go_wp2_with fail
  refine (Bg.awake_calls _).mono ?_
  rintro e w3 ⟨rfl, s3⟩
  have hb3 := bl hb s3
  clear s3
  go_wp2_with fail
  refine (Holds_calls n x l _).mono ?_
  rintro e w4 ⟨rfl, rfl⟩
  go_wp2_with fail
  refine (RHolds' n x l _).mono ?_
  rintro e w5 ⟨rfl, rfl⟩
  go_wp2
  go_returns
  exact ⟨by simp, hb3⟩
end Go.Proofs.Ytdmjiokeangmmaa
