/-
  The document's mac: Code.
-/
import Derived.Test.YtjlpdbaknhbgdaaMacCode
import Derived.Test.YtjlpdbaknhbgdaaRefSum
set_option linter.unusedSimpArgs false
set_option linter.unusedVariables false
namespace Go.Proofs.Ytjlpdbaknhbgdaa
open Go.RowKit

theorem blk_new1 (w : World) (o : Obj) (cs : Array Value) (t : TypeId) : Blk ((w.alloc o).alloc (.cells cs t)) (w.heap.size + 1) cs t := by
  have := Blk.new (w.alloc o) cs t
  rwa [show (w.alloc o).heap.size = w.heap.size + 1 by simp] at this
theorem padX_take (c : UInt8) (key : List UInt8) (k : Nat) (h : k < 64) : (padX c key).take (k + 1) = (padX c key).take k ++ [key.getD k 0 ^^^ c] := by
  rw [List.take_succ_eq_append_getElem (by rw [padX_len]; exact h)]
  simp [padX]

end Go.Proofs.Ytjlpdbaknhbgdaa
