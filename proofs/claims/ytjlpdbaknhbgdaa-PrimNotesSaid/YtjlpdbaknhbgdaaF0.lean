/-
  Facts on the program's table of types that several texts use.
-/
import Derived.Test.YtjlpdbaknhbgdaaChecked
import Derived.Test.YtjlpdbaknhbgdaaKit0
set_option linter.unusedSimpArgs false
set_option linter.unusedVariables false
namespace Go.Proofs.Ytjlpdbaknhbgdaa
open Go.RowKit

theorem Try.infoU8 : (Try.prog.info? 5).map (fun i => (i.zero, i.size, i.bytes)) = some (some (.int .u8 0), 1, 1) := by kernel_rfl
theorem Try.sizeA32 : (Try.prog.info? 25).map (·.size) = some 32 := by kernel_rfl
theorem Try.sizeHash : (Try.prog.info? 26).map (·.size) = some 32 := by kernel_rfl
theorem Try.zeroHash : (Try.prog.info? 26).bind (·.zero) = some (.agg Z32) := by kernel_rfl
end Go.Proofs.Ytjlpdbaknhbgdaa
