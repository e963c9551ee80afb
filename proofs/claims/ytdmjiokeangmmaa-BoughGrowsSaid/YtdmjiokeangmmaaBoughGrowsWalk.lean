/-
  BoughGrows: the walk.
-/
import Derived.Test.YtdmjiokeangmmaaBoughAwake
set_option linter.unusedSimpArgs false
set_option linter.unusedVariables false
namespace Go.Proofs.Ytdmjiokeangmmaa
open Go.RowKit Bg

def growsOk (n x : Nat) : Bool :=
  decide (leavesI n (leftI n x) = leavesI (n + 1 : Nat) (leftI (n + 1 : Nat) x)) && decide ((leavesI n x).2 ≤ (leavesI (n + 1 : Nat) x).2) && decide ((leavesI (n + 1 : Nat) x).2 ≤ (leavesI n x).2 + 1) && decide (0 ≤ (leavesI n x).2) && decide ((leavesI n x).2 ≤ 64)
theorem grows_all : ∀ n, n < 64 → ∀ x, x < 126 → there n x = true → growsOk n x = true := by decide +kernel
theorem grows_facts (N X : Int) (h : thereI N X = true) (h63 : N ≤ 63) : ∃ a b e1 e f1 f : Int, leavesI N (leftI N X) = (a, b) ∧ leavesI (N + 1) (leftI (N + 1) X) = (a, b) ∧ leavesI N X = (e1, e) ∧ leavesI (N + 1) X = (f1, f) ∧ e ≤ f ∧ f ≤ e + 1 ∧ 0 ≤ e ∧ e ≤ 64 := by
  obtain ⟨n, x, rfl, rfl, ht, h1, h2⟩ := thereI_nat h
  have hx : x < 126 := by unfold there at ht; simp at ht; omega
  have := grows_all n (by omega) x hx ht
  unfold growsOk at this
  simp only [Bool.and_eq_true, decide_eq_true_eq] at this
  obtain ⟨⟨⟨⟨g1, g2⟩, g3⟩, g4⟩, g5⟩ := this
  have hc : ((n : Int) + 1) = ((n + 1 : Nat) : Int) := by omega
  rw [hc]
  exact ⟨_, _, _, _, _, _, rfl, g1.symm, rfl, rfl, g2, g3, g4, g5⟩

set_option maxRecDepth 100000 in
set_option maxHeartbeats 1000000 in
theorem walkBoughGrows (s : Int) (hs : (Lit.int .u8 s).wf = true) (b : Int) (hb : (Lit.int .u8 b).wf = true) (w : World) : Calls Try.prog 5 #[.int .u8 s, .int .u8 b] w fun e w' => e = .returned (.bool true) ∧ Below w.heap.size w w' := by
  have h1 := bounds_u8 hs
  have h2 := bounds_u8 hb
  clear hs hb
  go_enter Try.func5, Try.ntmps5
  go_wp2_with fail
  refine (Bg.awake_calls _).mono ?_
  rintro e w1 ⟨rfl, s1⟩
  have hN : 1 ≤ 1 + s % 63 ∧ 1 + s % 63 ≤ 63 := by omega
  go_wp2_with fail
  have hX0 := Int.emod_nonneg b (show 2 * (1 + s % 63) - 1 ≠ 0 by omega)
  have hX1 := Int.emod_lt_of_pos b (show 0 < 2 * (1 + s % 63) - 1 by omega)
  generalize b % (2 * (1 + s % 63) - 1) = X at *
  generalize 1 + s % 63 = N at *
  have hT : thereI N X = true := by unfold thereI; simp; omega
  obtain ⟨a, c, e1, e2, f1, f2, g1, g2, g3, g4, g5, g6, g7, g8⟩ := grows_facts N X hT hN.2
  have LF1 := fun w => Left_calls N X w
  have LF2 := fun w => Left_calls (N + 1) X w
  have L1 := fun w => Leaves_calls N (leftI N X) w
  have L2 := fun w => Leaves_calls (N + 1) (leftI (N + 1) X) w
  have L3 := fun w => Leaves_calls N X w
  have L4 := fun w => Leaves_calls (N + 1) X w
  rw [g1] at L1
  rw [g2] at L2
  rw [g3] at L3
  rw [g4] at L4
  clear g1 g2 g3 g4 hT
  generalize leftI N X = l1 at *
  generalize leftI (N + 1) X = l2 at *
  refine (LF1 _).mono ?_
  rintro e w2 ⟨rfl, rfl⟩
  go_wp2_with fail
  refine (L1 _).mono ?_
  rintro e w2 ⟨rfl, rfl⟩
  go_wp2_with fail
  refine (LF2 _).mono ?_
  rintro e w2 ⟨rfl, rfl⟩
  go_wp2_with fail
  refine (L2 _).mono ?_
  rintro e w2 ⟨rfl, rfl⟩
  go_wp2_with fail
  refine (L3 _).mono ?_
  rintro e w2 ⟨rfl, rfl⟩
  go_wp2_with fail
  refine (L4 _).mono ?_
  rintro e w2 ⟨rfl, rfl⟩
  go_wp2
  go_returns
  exact ⟨by simp, s1⟩
end Go.Proofs.Ytdmjiokeangmmaa
