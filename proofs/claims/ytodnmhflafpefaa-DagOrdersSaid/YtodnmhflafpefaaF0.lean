/-
  Facts on the program's table of types that several texts use.
-/
import Derived.Test.YtodnmhflafpefaaChecked
import Derived.Test.YtodnmhflafpefaaKit0
set_option linter.unusedSimpArgs false
set_option linter.unusedVariables false
namespace Go.Proofs.Ytodnmhflafpefaa
open Go.RowKit

theorem Try.infoU8 : (Try.prog.info? 5).map (fun i => (i.zero, i.size, i.bytes)) = some (some (.int .u8 0), 1, 1) := by kernel_rfl
theorem Try.sizeA32 : (Try.prog.info? 31).map (·.size) = some 32 := by kernel_rfl
theorem Try.sizeHash : (Try.prog.info? 32).map (·.size) = some 32 := by kernel_rfl
theorem Try.zeroHash : (Try.prog.info? 32).bind (·.zero) = some (.agg Z32) := by kernel_rfl
end Go.Proofs.Ytodnmhflafpefaa
