/-
  Contracts of the nil writer and the nil reader.
-/
import Derived.Test.YtfmendgbmkclkaaWireAwake
set_option linter.unusedSimpArgs false
set_option linter.unusedVariables false
namespace Go.Proofs.Ytfmendgbmkclkaa
open Go.RowKit

theorem numNil_calls (n : Int) (w : World) : Calls Try.prog 12 #[.pointer none, .int .i64 n] w fun e w' => e = .returned (.tuple #[]) ∧ w = w' := by
  go_enter Try.func12, Try.ntmps12
  go_wp2
  go_returns
  exact ⟨rfl, rfl⟩
theorem textNil_calls (s : List UInt8) (w : World) : Calls Try.prog 21 #[.pointer none, .string (str s)] w fun e w' => e = .returned (.tuple #[]) ∧ w = w' := by
  go_enter Try.func21, Try.ntmps21
  go_wp2
  go_returns
  exact ⟨rfl, rfl⟩
theorem flagNil_calls (b : Bool) (w : World) : Calls Try.prog 35 #[.pointer none, .bool b] w fun e w' => e = .returned (.tuple #[]) ∧ w = w' := by
  go_enter Try.func35, Try.ntmps35
  go_wp2
  go_returns
  exact ⟨rfl, rfl⟩
theorem endNil_calls (w : World) : Calls Try.prog 13 #[.pointer none] w fun e w' => e = .returned (.tuple #[.string (str []), .int .i64 1]) ∧ w = w' := by
  go_enter Try.func13, Try.ntmps13
  go_wp2
  go_returns
  exact ⟨rfl, rfl⟩
theorem failNil_calls (n : Int) (w : World) : Calls Try.prog 32 #[.pointer none, .int .i64 n] w fun e w' => e = .returned (.tuple #[]) ∧ w = w' := by
  go_enter Try.func32, Try.ntmps32
  go_wp2
  go_returns
  exact ⟨rfl, rfl⟩
theorem takeNil_calls (n : Int) (w : World) : Calls Try.prog 37 #[.pointer none, .int .i64 n] w fun e w' => e = .returned (.tuple #[.string (str []), .bool false]) ∧ w = w' := by
  go_enter Try.func37, Try.ntmps37
  go_wp2
  go_returns
  exact ⟨rfl, rfl⟩
theorem rnumNil_calls (n : Int) (w : World) : Calls Try.prog 17 #[.pointer none, .int .i64 n] w fun e w' => e = .returned (.int .i64 0) ∧ w = w' := by
  go_enter Try.func17, Try.ntmps17
  go_wp2
  go_returns
  exact ⟨rfl, rfl⟩
theorem errNil_calls (w : World) : Calls Try.prog 26 #[.pointer none] w fun e w' => e = .returned (.int .i64 1) ∧ w = w' := by
  go_enter Try.func26, Try.ntmps26
  go_wp2
  go_returns
  exact ⟨rfl, rfl⟩
theorem rendNil_calls (w : World) : Calls Try.prog 18 #[.pointer none] w fun e w' => e = .returned (.int .i64 1) ∧ w = w' := by
  go_enter Try.func18, Try.ntmps18
  go_wp2_with fail
  refine (errNil_calls _).mono ?_
  rintro e w1 ⟨rfl, rfl⟩
  go_wp2_with fail
  refine (errNil_calls _).mono ?_
  rintro e w1 ⟨rfl, rfl⟩
  go_wp2
  go_returns
  exact ⟨rfl, rfl⟩
theorem rflagNil_calls (w : World) : Calls Try.prog 30 #[.pointer none] w fun e w' => e = .returned (.bool false) ∧ w = w' := by
  go_enter Try.func30, Try.ntmps30
  go_wp2_with fail
  refine (takeNil_calls _ _).mono ?_
  rintro e w1 ⟨rfl, rfl⟩
  go_wp2
  go_returns
  exact ⟨rfl, rfl⟩
theorem rtextNil_calls (n : Int) (w : World) : Calls Try.prog 23 #[.pointer none, .int .i64 n] w fun e w' => e = .returned (.string (str [])) ∧ w = w' := by
  by_cases h : n ≤ 65536
  all_goals
    go_enter Try.func23, Try.ntmps23
    go_wp2_with fail
    refine (rnumNil_calls _ _).mono ?_
    rintro e w1 ⟨rfl, rfl⟩
    go_wp2_with fail
    refine (takeNil_calls _ _).mono ?_
    rintro e w1 ⟨rfl, rfl⟩
    go_wp2
    go_returns
    exact ⟨rfl, rfl⟩

theorem hashNil_calls (hs : List UInt8) (w : World) : Calls Try.prog 24 #[.pointer none, .agg (hs.map bv).toArray] w fun e w' => e = .returned (.tuple #[]) ∧ Below w.heap.size w w' := by
  go_enter Try.func24, Try.ntmps24
  go_wp2
  go_returns
  exact ⟨rfl, (Below.refl _ w).alloc (Nat.le_refl _) _⟩

set_option maxHeartbeats 1000000 in
theorem rhashNil_calls (w : World) : Calls Try.prog 25 #[.pointer none] w fun e w' => e = .returned (.agg ((List.replicate 32 (0 : UInt8)).map bv).toArray) ∧ Below w.heap.size w w' := by
  have hB0 : Blk ((w.alloc (.cells Z32 40)).alloc (.cells Z32 40)) w.heap.size Z32 40 := (Blk.new _ _ _).alloc _
  have hB1 : Blk ((w.alloc (.cells Z32 40)).alloc (.cells Z32 40)) (w.heap.size + 1) Z32 40 := by have := Blk.new (w.alloc (.cells Z32 40)) Z32 40; simpa using this
  have hG : Below w.heap.size w ((w.alloc (.cells Z32 40)).alloc (.cells Z32 40)) := ((Below.refl _ w).alloc (Nat.le_refl _) _).alloc (by simp) _
  go_enter Try.func25, Try.ntmps25
  go_wp2_with fail
  generalize (w.alloc (.cells Z32 40)).alloc (.cells Z32 40) = W0 at hB0 hB1 hG ⊢
  refine (takeNil_calls _ _).mono ?_
  rintro e w1 ⟨rfl, rfl⟩
  have hs := hG.size
  go_wp2_with (first | ((with_reducible show wpList _ _ _ (⟨some 13, _, _, _, _, _⟩ :: _) _ _); refine wpList_copyStrNone rfl (.tmp 11) (.tmp 12) 61 9 rfl 5 Try.underlying61 (by rw [Try.sizeU8]; rfl) _ _ _ (by rfl) (by rfl) ?_) | ((with_reducible show wpList _ _ _ (⟨some 14, _, _, _, _, _⟩ :: _) _ _); refine wpList_loadBlk rfl 40 (.tmp 3) rfl (w.heap.size + 1) (by rfl) _ _ _ hB1 Try.underlying40 rfl (by rw [Z32_size]; exact Try.sizeHash) ?_) | ((with_reducible show wpList _ _ _ (⟨none, Op.store _ _ _, _, _, _, _⟩ :: _) _ _); refine wpList_storeBlk rfl 40 (.tmp 2) (.tmp 14) rfl w.heap.size Z32 (by rfl) (by rfl) _ _ hB0 (by rw [Z32_size]; exact Try.sizeHash) rfl Z32_all ?_; intro w3 hB3 hg3; have hG3 := below_new hG hg3 (Nat.le_refl _) hs; clear hG hg3 hB0))
  refine ret_blk rfl w.heap.size _ _ _ (by rfl) hB3 Try.underlying40 rfl (by rw [Z32_size]; exact Try.sizeHash) rfl ?_
  exact ⟨rfl, hG3⟩
end Go.Proofs.Ytfmendgbmkclkaa
