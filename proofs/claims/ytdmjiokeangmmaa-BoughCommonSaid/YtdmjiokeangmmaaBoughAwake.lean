/-
  The law's own example holds; the document's functions under the code's names.
-/
import Derived.Test.YtdmjiokeangmmaaBoughK
set_option linter.unusedSimpArgs false
set_option linter.unusedVariables false
namespace Go.Proofs.Ytdmjiokeangmmaa.Bg
open Go.RowKit Go.Shelf

theorem RRoot' (n : Int) (w : World) : Calls Try.prog 25 #[.int .i64 n] w fun e w' => e = .returned (.int .i64 (rootI n)) ∧ w = w' := by rw [← rootI_eq]; exact RRoot_calls n w
theorem RLeft' (n x : Int) (w : World) : Calls Try.prog 26 #[.int .i64 n, .int .i64 x] w fun e w' => e = .returned (.int .i64 (leftI n x)) ∧ w = w' := by rw [← leftI_eq]; exact RLeft_calls n x w
theorem RRight' (n x : Int) (w : World) : Calls Try.prog 28 #[.int .i64 n, .int .i64 x] w fun e w' => e = .returned (.int .i64 (rightI n x)) ∧ w = w' := by rw [← rightI_eq]; exact RRight_calls n x w
theorem RBeside' (n x : Int) (w : World) : Calls Try.prog 32 #[.int .i64 n, .int .i64 x] w fun e w' => e = .returned (.int .i64 (besideI n x)) ∧ w = w' := by rw [← besideI_eq]; exact RBeside_calls n x w
theorem RLeaves' (n x : Int) (w : World) : Calls Try.prog 20 #[.int .i64 n, .int .i64 x] w fun e w' => e = .returned (.tuple #[.int .i64 (leavesI n x).1, .int .i64 (leavesI n x).2]) ∧ w = w' := by rw [← leavesI_eq]; exact RLeaves_calls n x w

theorem dir_len (n l : Int) : (dirI n l).length ≤ 1000 := by
  unfold dirI
  split
  · have := ups_len n (2 * l); omega
  · simp
theorem bl {w w1 w2 : World} (h : Below w.heap.size w w1) (h2 : Below w1.heap.size w1 w2) : Below w.heap.size w w2 := h.trans (h2.mono h.size)
theorem bs {w w1 w2 : World} (h : Below w.heap.size w w1) (h2 : Still w1 w2) : Below w.heap.size w w2 := bl h h2.below
theorem own_below {w w' : World} {base : Nat} {e : TypeId} {size n : Nat} {v : Value} {xs : List Value} (h : w.ownsRow base e size v n xs) (hb : Below w.heap.size w w') : w'.ownsRow base e size v n xs :=
  h.kept (below_grown hb none) (by cases hv : v.ownBlock with | none => exact .inl rfl | some g => exact .inr (by simp))

theorem awakeFacts : rootI 5 = 7 ∧ leftI 5 7 = 3 ∧ rightI 5 7 = 8 ∧ dirI 5 2 = [5, 3, 7] ∧ commonI 5 0 3 = 3 := by decide +kernel

set_option maxRecDepth 100000 in
theorem awake_calls (w : World) : Calls Try.prog 13 #[] w fun e w' => e = .returned (.bool true) ∧ Below w.heap.size w w' := by
  obtain ⟨f1, f2, f3, f4, f5⟩ := awakeFacts
  go_enter Try.func13, Try.ntmps13
  go_wp2_with fail
  refine (Root_calls 5 _).mono ?_
  rintro e w1 ⟨rfl, rfl⟩
  rw [f1]
  go_wp2_with fail
  refine (Left_calls 5 7 _).mono ?_
  rintro e w1 ⟨rfl, rfl⟩
  rw [f2]
  go_wp2_with fail
  refine (Right_calls 5 7 _).mono ?_
  rintro e w1 ⟨rfl, rfl⟩
  rw [f3]
  go_wp2_with fail
  refine (Direct_calls 5 2 _).mono ?_
  rintro e w1 ⟨v, rfl, hv, b1⟩
  rw [f4] at hv
  go_wp2_with fail
  refine (Same_calls w.heap.size w1.heap.size v _ [5, 3, 7] [5, 3, 7] (by simp) (by simp) _ (hv.alloc _) ⟨rfl, .inr ⟨w1.heap.size, 3, #[.int .i64 5, .int .i64 3, .int .i64 7], rfl, Nat.le_refl _, Blk.new _ _ _, by decide, by simp [maxLen], rfl, rfl⟩⟩).mono ?_
  rintro e w2 ⟨rfl, s2⟩
  have hb2 : Below w.heap.size w w2 := bs (bl b1 ((Below.refl _ w1).alloc (Nat.le_refl _) _)) s2
  go_wp2_with fail
  refine (Common_calls 5 0 3 _).mono ?_
  rintro e w3 ⟨rfl, b3⟩
  rw [f5]
  go_wp2
  go_returns
  exact ⟨by simp, bl hb2 b3⟩
end Go.Proofs.Ytdmjiokeangmmaa.Bg
