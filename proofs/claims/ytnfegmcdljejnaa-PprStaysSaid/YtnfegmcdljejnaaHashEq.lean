/-
  '==' of two digests.
-/
import Derived.Test.YtnfegmcdljejnaaChecked
import Derived.Test.YtnfegmcdljejnaaBytesEq
import Derived.KernelRfl
namespace Go.Proofs.Ytnfegmcdljejnaa
theorem Try.plainU8 : Try.prog.plainKey 5 = true := by kernel_rfl
theorem Try.infoU8h : ∃ i, Try.prog.info? 5 = some i := by
  have h : (Try.prog.info? 5).isSome = true := by kernel_rfl
  exact Option.isSome_iff_exists.1 h
theorem Try.cellsU8e : Try.prog.cellsOf 5 = 1 := by kernel_rfl
theorem run_eq_hash (w : World) (a b : List UInt8) (ha : a.length = 32) (hb : b.length = 32) :
    (Op.equalIn 10000 23 (.agg (a.map bv).toArray) (.agg (b.map bv).toArray)).run Try.prog w = .ok (a == b) w := by
  obtain ⟨i, hi⟩ := Try.infoU8h
  exact run_eq_bytes w 9998 32 23 5 i Try.underlying23 Try.underlying5 Try.plainU8 hi Try.cellsU8e a b ha hb
end Go.Proofs.Ytnfegmcdljejnaa
