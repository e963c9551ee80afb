/-
  The document's answer for the wire: Num, Text, Hash, Flag.
-/
import Derived.Test.YtlomofcnknpciaaWireRefNum
import Derived.Test.YtlomofcnknpciaaChecked
import Derived.Test.YtlomofcnknpciaaKit0
import Derived.WalkLawsBesides
import Derived.Outline
import Derived.Handy
set_option linter.unusedSimpArgs false
set_option linter.unusedVariables false
namespace Go.Proofs.Ytlomofcnknpciaa
open Go.RowKit

theorem RefText_calls (l : List UInt8) (w : World) (h1 : l.length ≤ 1099511627776) :
    Calls Try.prog 127 #[.string (str l)] w fun e w' => e = .returned (.string (str (numB l.length ++ l))) ∧ Below w.heap.size w w' := by
  go_enter Try.func127, Try.ntmps127
  go_wp2_with fail
  refine (RefNum_calls _ _ (by omega) (by omega)).mono ?_
  rintro e w1 ⟨rfl, hb⟩
  rw [Int.toNat_natCast]
  have hl := numB_len l.length
  generalize hx : numB l.length = x at hl ⊢
  have HX := Lib.hid hx
  clear hx
  go_wp2
  go_returns
  rw [HX.out]
  exact ⟨rfl, hb⟩

theorem RefHash_calls (l : List UInt8) (w : World) (hl : l.length = 32) :
    Calls Try.prog 128 #[.agg (l.map bv).toArray] w fun e w' => e = .returned (.string (str l)) ∧ Below w.heap.size w w' := by
  have HL := Lib.hid hl
  clear hl
  go_enter Try.func128, Try.ntmps128
  go_wp2_with ((with_reducible show wpList _ _ _ (⟨some 4, _, _, _, _, _⟩ :: _) _ _); refine wpList_convBlk rfl 69 9 5 _ rfl Try.underlying69 Try.underlying5 Try.underlying9 w.heap.size 32 32 (by rfl) _ _ (Blk.new _ _ _) l HL.out (by rw [List.take_of_length_le (by simp [HL.out])]) ?_)
  go_returns
  exact ⟨rfl, (Below.refl _ _).alloc (Nat.le_refl _) _⟩

end Go.Proofs.Ytlomofcnknpciaa
