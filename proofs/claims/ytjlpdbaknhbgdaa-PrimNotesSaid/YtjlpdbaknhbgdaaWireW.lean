/-
  The wire's writer: what each call does, as a contract over any world.
-/
import Derived.Test.YtjlpdbaknhbgdaaF0
import Derived.Test.YtjlpdbaknhbgdaaChecked
import Derived.Test.YtjlpdbaknhbgdaaKit0
import Derived.WalkLawsBesides
import Derived.Outline
import Derived.Handy
set_option linter.unusedSimpArgs false
set_option linter.unusedVariables false
namespace Go.Proofs.Ytjlpdbaknhbgdaa
open Go.RowKit

abbrev bnds : Value := .agg #[.int .i64 64, .int .i64 16384, .int .i64 1073741824, .int .i64 4611686018427387903]
theorem blk_two (a b u : Value) : (#[a, b] : Array Value).setIfInBounds 0 u = #[u, b] := rfl
theorem blk_two1 (a b u : Value) : (#[a, b] : Array Value).setIfInBounds 1 u = #[a, u] := rfl

theorem kb_ne (K S : Nat) (n : Int) (k : Nat) (hk : k ≠ 0) : kb K S n k = n / 2 ^ (8 * (S - 1 - k)) % 256 := by simp [kb, hk]
theorem kb_0 (K S : Nat) (n : Int) : kb K S n 0 = bits BinOp.or IntKind.u8 (n / 2 ^ (8 * (S - 1)) % 256) (64 * (K : Int)) := by simp [kb]

end Go.Proofs.Ytjlpdbaknhbgdaa
