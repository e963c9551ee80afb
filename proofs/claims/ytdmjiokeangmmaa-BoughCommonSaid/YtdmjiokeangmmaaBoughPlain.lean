/-
  What the two packages on trees reckon, in plain Lean, and that they agree: by running through all trees of at most 64 leaves. No program here.
-/
import Derived.Test.YtdmjiokeangmmaaBase
set_option linter.unusedSimpArgs false
set_option linter.unusedVariables false
namespace Go.Proofs.Ytdmjiokeangmmaa.Bg
open Go.RowKit

/-- how many ones x ends with -/
def lvl : Nat → Nat → Nat
  | 0, _ => 0
  | f + 1, x => if x % 2 = 1 then lvl f (x / 2) + 1 else 0
def level (x : Nat) : Nat := lvl 9 x
def there (n x : Nat) : Bool := decide (1 ≤ n) && decide (n ≤ 64) && decide (x + 2 ≤ 2 * n)
/-- the least power of 2 that is not below n, less one -/
def root (n : Nat) : Nat := if n ≤ 1 then 0 else if n ≤ 2 then 1 else if n ≤ 4 then 3 else if n ≤ 8 then 7 else if n ≤ 16 then 15 else if n ≤ 32 then 31 else 63
def left (n x : Nat) : Int := if level x = 0 then -1 else (x - 2 ^ (level x - 1) : Nat)
def rightF (n : Nat) : Nat → Nat → Option Nat
  | 0, _ => none
  | f + 1, x => if there n x then some x else if level x = 0 then none else rightF n f (x - 2 ^ (level x - 1))
def right (n x : Nat) : Int := if level x = 0 then -1 else (rightF n 9 (x + 2 ^ (level x - 1))).elim (-7) (fun r => (r : Int))
/-- one step up in the endless tree -/
def upS (x : Nat) : Int := bits BinOp.or IntKind.i64 (bits BinOp.andNot IntKind.i64 x (2 ^ (level x + 1) : Nat)) (2 ^ level x : Nat)
def aboveF (n : Nat) : Nat → Nat → Option Nat
  | 0, _ => none
  | f + 1, x => if upS x < 0 ∨ 255 < upS x then none else if there n (upS x).toNat then some (upS x).toNat else aboveF n f (upS x).toNat
def above (n x : Nat) : Int := if x = root n then -1 else (aboveF n 9 x).elim (-7) (fun r => (r : Int))
def beside (n x : Nat) : Int := if above n x < 0 then -1 else if (x : Int) < above n x then right n (above n x).toNat else left n (above n x).toNat
def leaves (n x : Nat) : Nat × Nat := ((x + 1 - 2 ^ level x) / 2, min ((x + 1 + 2 ^ level x) / 2) n)
def holds (n x leaf : Nat) : Bool := decide ((leaves n x).1 ≤ leaf) && decide (leaf < (leaves n x).2)

/-- the document's: the greatest power of 2 below n -/
def half (n : Nat) : Nat := if n ≤ 2 then 1 else if n ≤ 4 then 2 else if n ≤ 8 then 4 else if n ≤ 16 then 8 else if n ≤ 32 then 16 else 32
def rroot (a n : Nat) : Nat := if n = 1 then 2 * a else 2 * (a + half n) - 1
def find : Nat → Nat → Nat → Nat → Int → Int → Option (Nat × Nat × Int × Int)
  | 0, _, _, _, _, _ => none
  | f + 1, a, n, x, p, b =>
    if rroot a n = x then some (a, n, p, b)
    else if n ≤ 1 ∨ 64 < n ∨ 64 < a then none
    else if x < rroot a n then find f a (half n) x (rroot a n) (rroot (a + half n) (n - half n))
    else find f (a + half n) (n - half n) x (rroot a n) (rroot a (half n))
def found (n x : Nat) : Nat × Nat × Int × Int := (find 9 0 n x (-1) (-1)).getD (0, 0, -9, -9)
def rleft (n x : Nat) : Int := if (found n x).2.1 = 1 then -1 else rroot (found n x).1 (half (found n x).2.1)
def rright (n x : Nat) : Int := if (found n x).2.1 = 1 then -1 else rroot ((found n x).1 + half (found n x).2.1) ((found n x).2.1 - half (found n x).2.1)

/-- ALL TREES, ALL NODES. -/
theorem nodes : ∀ n, n < 65 → ∀ x, x < 127 → there n x = true →
    (find 9 0 n x (-1) (-1)).isSome = true ∧ left n x = rleft n x ∧ right n x = rright n x ∧ above n x = (found n x).2.2.1 ∧ beside n x = (found n x).2.2.2 ∧ (leaves n x).1 = (found n x).1 ∧ (leaves n x).2 = (found n x).1 + (found n x).2.1 := by
  decide +kernel
theorem roots : ∀ n, n < 65 → there n 0 = true → root n = rroot 0 n := by decide +kernel
end Go.Proofs.Ytdmjiokeangmmaa.Bg
