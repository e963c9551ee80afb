/-
  BoughNodes: the walk.
-/
import Derived.Test.YtdmjiokeangmmaaBoughAwake
set_option linter.unusedSimpArgs false
set_option linter.unusedVariables false
namespace Go.Proofs.Ytdmjiokeangmmaa
open Go.RowKit Bg

set_option maxRecDepth 100000 in
set_option maxHeartbeats 1000000 in
theorem walkBoughNodes (n : Int) (hn : (Lit.int .i64 n).wf = true) (x : Int) (hx : (Lit.int .i64 x).wf = true) (w : World) : Calls Try.prog 11 #[.int .i64 n, .int .i64 x] w fun e w' => e = .returned (.bool true) ∧ Below w.heap.size w w' := by
  clear hn
  clear hx
  have hb : Below w.heap.size w w := Below.refl _ _
  go_enter Try.func11, Try.ntmps11
  go_wp2_with fail
  refine (Bg.awake_calls _).mono ?_
  rintro e w1 ⟨rfl, s1⟩
  have hb1 := bl hb s1
  clear s1
  go_wp2_with fail
  refine (Root_calls n _).mono ?_
  rintro e w2 ⟨rfl, rfl⟩
  go_wp2_with fail
  refine (RRoot' n _).mono ?_
  rintro e w3 ⟨rfl, rfl⟩
  go_wp2_with fail
  refine (Left_calls n x _).mono ?_
  rintro e w4 ⟨rfl, rfl⟩
  go_wp2_with fail
  refine (RLeft' n x _).mono ?_
  rintro e w5 ⟨rfl, rfl⟩
  go_wp2_with fail
  refine (Right_calls n x _).mono ?_
  rintro e w6 ⟨rfl, rfl⟩
  go_wp2_with fail
  refine (RRight' n x _).mono ?_
  rintro e w7 ⟨rfl, rfl⟩
  go_wp2_with fail
  refine (Above_calls n x _).mono ?_
  rintro e w8 ⟨rfl, s8⟩
  have hb8 := bs hb1 s8
  clear s8 hb1
  go_wp2_with fail
  refine (RAbove' n x _).mono ?_
  rintro e w9 ⟨rfl, rfl⟩
  go_wp2_with fail
  refine (Beside_calls n x _).mono ?_
  rintro e w10 ⟨rfl, s10⟩
  have hb10 := bs hb8 s10
  clear s10 hb8
  go_wp2_with fail
  refine (RBeside' n x _).mono ?_
  rintro e w11 ⟨rfl, rfl⟩
  go_wp2
  go_returns
  exact ⟨by simp, hb10⟩
end Go.Proofs.Ytdmjiokeangmmaa
