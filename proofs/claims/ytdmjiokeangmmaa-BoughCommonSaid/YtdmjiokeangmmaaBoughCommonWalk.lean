/-
  BoughCommon: the walk.
-/
import Derived.Test.YtdmjiokeangmmaaBoughCommonLaw
set_option linter.unusedSimpArgs false
set_option linter.unusedVariables false
namespace Go.Proofs.Ytdmjiokeangmmaa
open Go.RowKit Bg

set_option maxRecDepth 100000 in
set_option maxHeartbeats 1000000 in
theorem walkBoughCommon (n : Int) (hn : (Lit.int .i64 n).wf = true) (a : Int) (ha : (Lit.int .i64 a).wf = true) (b : Int) (hb : (Lit.int .i64 b).wf = true) (w : World) : Calls Try.prog 10 #[.int .i64 n, .int .i64 a, .int .i64 b] w fun e w' => e = .returned (.bool true) ∧ Below w.heap.size w w' := by
  clear hn
  clear ha
  clear hb
  have hb : Below w.heap.size w w := Below.refl _ _
  go_enter Try.func10, Try.ntmps10
  go_wp2_with fail
  refine (Bg.awake_calls _).mono ?_
  rintro e w1 ⟨rfl, s1⟩
  have hb1 := bl hb s1
  clear s1
  go_wp2_with fail
  refine (Common_calls n a b _).mono ?_
  rintro e w2 ⟨rfl, s2⟩
  have hb2 := bl hb1 s2
  clear s2 hb1
  go_wp2_with fail
  refine (RCommon_calls n a b _).mono ?_
  rintro e w3 ⟨rfl, rfl⟩
  go_wp2_with fail
  refine (Common_calls n b a _).mono ?_
  rintro e w4 ⟨rfl, s4⟩
  rw [commonI_swap n a b]
  have hb4 := bl hb2 s4
  clear s4 hb2
  go_wp2_with fail
  refine (Common_calls n a b _).mono ?_
  rintro e w5 ⟨rfl, s5⟩
  have hb5 := bl hb4 s5
  clear s5 hb4
  go_wp2
  go_returns
  exact ⟨by simp, hb5⟩
end Go.Proofs.Ytdmjiokeangmmaa
