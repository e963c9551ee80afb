/-
  The document's answer for the wire: Num.
-/
import Derived.Test.YtlomofcnknpciaaChecked
import Derived.Test.YtlomofcnknpciaaKit0
import Derived.WalkLawsBesides
import Derived.Outline
import Derived.Handy
set_option linter.unusedSimpArgs false
set_option linter.unusedVariables false
namespace Go.Proofs.Ytlomofcnknpciaa
open Go.RowKit

theorem numB_arm0 (n : Int) (h0 : 0 ≤ n) (h1 : n < 64) : (numB n.toNat).length = 1 ∧ [Value.int .u8 (n)] = (numB n.toNat).map bv := by
  unfold numB
  rw [if_pos (by omega)]
  refine ⟨rfl, ?_⟩
  simp only [List.map_cons, List.map_nil]
  congr 1
  exact bv_ofNat _ (by omega) _ (by omega)
theorem refNum0 (n : Int) (w : World) (h0 : 0 ≤ n) (h1 : n < 64) :
    Calls Try.prog 126 #[.int .i64 n] w fun e w' => e = .returned (.string (str (numB n.toNat))) ∧ Below w.heap.size w w' := by
  have HN := Lib.hid (numB_arm0 n h0 h1)
  go_enter Try.func126, Try.ntmps126
  go_wp2_with ((with_reducible show wpList _ _ _ (⟨some 10, _, _, _, _, _⟩ :: _) _ _); refine wpList_convBlk rfl 69 9 5 _ rfl Try.underlying69 Try.underlying5 Try.underlying9 w.heap.size 1 1 (by rfl) _ _ (Blk.new _ _ _) (numB n.toNat) HN.out.1 HN.out.2 ?_)
  go_returns
  exact ⟨rfl, (Below.refl _ _).alloc (Nat.le_refl _) _⟩
theorem numB_arm1 (n : Int) (h0 : 64 ≤ n) (h1 : n < 16384) : (numB n.toNat).length = 2 ∧ [Value.int .u8 (64 + n / 256), Value.int .u8 (n % 256)] = (numB n.toNat).map bv := by
  unfold numB
  rw [if_neg (by omega), if_pos (by omega)]
  refine ⟨rfl, ?_⟩
  simp only [List.map_cons, List.map_nil]
  congr 1
  · exact bv_ofNat _ (by omega) _ (by omega)
  congr 1
  exact bv_ofNat _ (by omega) _ (by omega)
theorem refNum1 (n : Int) (w : World) (h0 : 64 ≤ n) (h1 : n < 16384) :
    Calls Try.prog 126 #[.int .i64 n] w fun e w' => e = .returned (.string (str (numB n.toNat))) ∧ Below w.heap.size w w' := by
  have HN := Lib.hid (numB_arm1 n h0 h1)
  go_enter Try.func126, Try.ntmps126
  go_wp2_with ((with_reducible show wpList _ _ _ (⟨some 21, _, _, _, _, _⟩ :: _) _ _); refine wpList_convBlk rfl 69 9 5 _ rfl Try.underlying69 Try.underlying5 Try.underlying9 w.heap.size 2 2 (by rfl) _ _ (Blk.new _ _ _) (numB n.toNat) HN.out.1 HN.out.2 ?_)
  go_returns
  exact ⟨rfl, (Below.refl _ _).alloc (Nat.le_refl _) _⟩
theorem numB_arm2 (n : Int) (h0 : 16384 ≤ n) (h1 : n < 1073741824) : (numB n.toNat).length = 4 ∧ [Value.int .u8 (128 + n / 16777216), Value.int .u8 (n / 65536 % 256), Value.int .u8 (n / 256 % 256), Value.int .u8 (n % 256)] = (numB n.toNat).map bv := by
  unfold numB
  rw [if_neg (by omega), if_neg (by omega), if_pos (by omega)]
  refine ⟨rfl, ?_⟩
  simp only [List.map_cons, List.map_nil]
  congr 1
  · exact bv_ofNat _ (by omega) _ (by omega)
  congr 1
  · exact bv_ofNat _ (by omega) _ (by omega)
  congr 1
  · exact bv_ofNat _ (by omega) _ (by omega)
  congr 1
  exact bv_ofNat _ (by omega) _ (by omega)
theorem refNum2 (n : Int) (w : World) (h0 : 16384 ≤ n) (h1 : n < 1073741824) :
    Calls Try.prog 126 #[.int .i64 n] w fun e w' => e = .returned (.string (str (numB n.toNat))) ∧ Below w.heap.size w w' := by
  have HN := Lib.hid (numB_arm2 n h0 h1)
  go_enter Try.func126, Try.ntmps126
  go_wp2_with ((with_reducible show wpList _ _ _ (⟨some 40, _, _, _, _, _⟩ :: _) _ _); refine wpList_convBlk rfl 69 9 5 _ rfl Try.underlying69 Try.underlying5 Try.underlying9 w.heap.size 4 4 (by rfl) _ _ (Blk.new _ _ _) (numB n.toNat) HN.out.1 HN.out.2 ?_)
  go_returns
  exact ⟨rfl, (Below.refl _ _).alloc (Nat.le_refl _) _⟩
theorem numB_arm3 (n : Int) (h0 : 1073741824 ≤ n) (h1 : n ≤ 4611686018427387903) : (numB n.toNat).length = 8 ∧ [Value.int .u8 (n / 256 / 256 / 256 / 256 / 256 / 256 / 256 % 256 + 192), Value.int .u8 (n / 256 / 256 / 256 / 256 / 256 / 256 % 256), Value.int .u8 (n / 256 / 256 / 256 / 256 / 256 % 256), Value.int .u8 (n / 256 / 256 / 256 / 256 % 256), Value.int .u8 (n / 256 / 256 / 256 % 256), Value.int .u8 (n / 256 / 256 % 256), Value.int .u8 (n / 256 % 256), Value.int .u8 (n % 256)] = (numB n.toNat).map bv := by
  unfold numB
  rw [if_neg (by omega), if_neg (by omega), if_neg (by omega)]
  refine ⟨rfl, ?_⟩
  simp only [List.map_cons, List.map_nil]
  congr 1
  · exact bv_ofNat _ (by omega) _ (by omega)
  congr 1
  · exact bv_ofNat _ (by omega) _ (by omega)
  congr 1
  · exact bv_ofNat _ (by omega) _ (by omega)
  congr 1
  · exact bv_ofNat _ (by omega) _ (by omega)
  congr 1
  · exact bv_ofNat _ (by omega) _ (by omega)
  congr 1
  · exact bv_ofNat _ (by omega) _ (by omega)
  congr 1
  · exact bv_ofNat _ (by omega) _ (by omega)
  congr 1
  exact bv_ofNat _ (by omega) _ (by omega)
set_option maxHeartbeats 4000000 in
set_option maxRecDepth 100000 in
theorem refNum3 (n : Int) (w : World) (h0 : 1073741824 ≤ n) (h1 : n ≤ 4611686018427387903) :
    Calls Try.prog 126 #[.int .i64 n] w fun e w' => e = .returned (.string (str (numB n.toNat))) ∧ Below w.heap.size w w' := by
  have HN := Lib.hid (numB_arm3 n h0 h1)
  go_enter Try.func126, Try.ntmps126
  go_wp2
  refine wp_loop_rounds 9 ?_
  repeat any_goals (rw [rounds_succ]; go_wp2_with ((with_reducible show wpList _ _ _ (⟨some 57, _, _, _, _, _⟩ :: _) _ _); refine wpList_convBlk rfl 69 9 5 _ rfl Try.underlying69 Try.underlying5 Try.underlying9 w.heap.size 8 8 (by rfl) _ _ (Blk.new _ _ _) (numB n.toNat) HN.out.1 HN.out.2 ?_))
  go_returns
  exact ⟨rfl, (Below.refl _ _).alloc (Nat.le_refl _) _⟩

/-- The document's bytes of a number. -/
theorem RefNum_calls (n : Int) (w : World) (h0 : 0 ≤ n) (h1 : n ≤ 4611686018427387903) :
    Calls Try.prog 126 #[.int .i64 n] w fun e w' => e = .returned (.string (str (numB n.toNat))) ∧ Below w.heap.size w w' := by
  by_cases a : n < 64
  · exact refNum0 n w h0 a
  by_cases c : n < 16384
  · exact refNum1 n w (by omega) c
  by_cases d : n < 1073741824
  · exact refNum2 n w (by omega) d
  · exact refNum3 n w (by omega) h1
end Go.Proofs.Ytlomofcnknpciaa
