/-
  Trees (api.Tree): leaves, parents, what lies in memory; when a tree is right (plain). What the two packages on trees reckon, in plain Lean, and that they agree: by running through all trees of at most 64 leaves. No program here. Contracts of the small functions on trees: each gives what the plain text says, and leaves the world as it was. Contracts of the code's sides, the node above, the one beside, the leaves. Contracts of the code's node above, the one beside, the leaves. When a tree is right; where a name's leaf is (plain). == of leaves. Contracts of the document's functions on trees.
-/
import Derived.Test.YtjlpdbaknhbgdaaGreatQBase
import Derived.Test.YtjlpdbaknhbgdaaGreatChecked
import Derived.WalkKit
import Derived.WalkSpells
import Derived.Handy
import Derived.Lib.Hide
set_option linter.unusedSimpArgs false
set_option linter.unusedVariables false
namespace Go.Proofs.YtjlpdbaknhbgdaaGreat
open Go.RowKit

/-- A leaf. -/
structure LeafA where
  n : Int
  p : List UInt8
  v : List UInt8
  a : List UInt8
  hp : p.length = 32
  hv : v.length = 32
  ha : a.length = 32
def LeafA.cells (l : LeafA) : List Value := .int .i64 l.n :: (l.p.map bv ++ (l.v.map bv ++ l.a.map bv))
theorem LeafA.cells_len (l : LeafA) : l.cells.length = 97 := by simp [LeafA.cells, l.hp, l.hv, l.ha]
/-- A node above leaves. -/
structure ParA where
  s : Bool
  p : List UInt8
  a : List UInt8
  loose : List Int
  hp : p.length = 32
  ha : a.length = 32
def ParA.cells (q : ParA) (lv : Value) : List Value := .bool q.s :: (q.p.map bv ++ (q.a.map bv ++ [lv]))
theorem ParA.cells_len (q : ParA) (lv : Value) : (q.cells lv).length = 66 := by simp [ParA.cells, q.hp, q.ha]
structure TreeT where
  leaves : List LeafA
  pars : List ParA
def wfI (x : Int) : Prop := -9223372036854775808 ≤ x ∧ x ≤ 9223372036854775807
def intCells (x : Int) : List Value := [.int .i64 x]
/-- A slice of numbers. -/
def IntsZ (w : World) (v : Value) (l : List Int) : Prop := ∃ ao c, v = .slice ao l.length c ∧ l.length ≤ c ∧ Elems intCells 1 w ao l.length l ∧ (∀ x ∈ l, wfI x) ∧ l.length ≤ maxLen
theorem IntsZ.below {w w' : World} {v : Value} {l : List Int} (h : IntsZ w v l) (b : Below w.heap.size w w') : IntsZ w' v l := by
  obtain ⟨ao, c, h1, h2, h3, h4⟩ := h
  exact ⟨ao, c, h1, h2, h3.below b, h4⟩
def parCells (q : ParA × Value) : List Value := q.1.cells q.2
/-- A tree in memory. -/
structure TreeIs (w : World) (ao : Option Addr) (n ac : Nat) (po : Option Addr) (m pc : Nat) (lvs : List Value) (T : TreeT) : Prop where
  ln : T.leaves.length = n
  lm : T.pars.length = m
  ca : n ≤ ac
  cp : m ≤ pc
  lv : lvs.length = m
  el : Elems LeafA.cells 97 w ao n T.leaves
  ep : Elems parCells 66 w po m (T.pars.zip lvs)
  wf : ∀ l ∈ T.leaves, wfI l.n
  lo : ∀ (i : Nat) (q : ParA) (u : Value), T.pars[i]? = some q → lvs[i]? = some u → IntsZ w u q.loose
theorem TreeIs.below {w w' : World} {ao po : Option Addr} {n ac m pc : Nat} {lvs : List Value} {T : TreeT} (h : TreeIs w ao n ac po m pc lvs T) (b : Below w.heap.size w w') : TreeIs w' ao n ac po m pc lvs T :=
  ⟨h.ln, h.lm, h.ca, h.cp, h.lv, h.el.below b, h.ep.below b, h.wf, fun i q u h1 h2 => (h.lo i q u h1 h2).below b⟩
end Go.Proofs.YtjlpdbaknhbgdaaGreat
set_option linter.unusedSimpArgs false
set_option linter.unusedVariables false
namespace Go.Proofs.YtjlpdbaknhbgdaaGreat.Bg
open Go.RowKit

/-- how many ones x ends with -/
def lvl : Nat → Nat → Nat
  | 0, _ => 0
  | f + 1, x => if x % 2 = 1 then lvl f (x / 2) + 1 else 0
def level (x : Nat) : Nat := lvl 9 x
def there (n x : Nat) : Bool := decide (1 ≤ n) && decide (n ≤ 64) && decide (x + 2 ≤ 2 * n)
/-- the least power of 2 that is not below n, less one -/
def root (n : Nat) : Nat := if n ≤ 1 then 0 else if n ≤ 2 then 1 else if n ≤ 4 then 3 else if n ≤ 8 then 7 else if n ≤ 16 then 15 else if n ≤ 32 then 31 else 63
def left (n x : Nat) : Int := if level x = 0 then -1 else (x - 2 ^ (level x - 1) : Nat)
def rightF (n : Nat) : Nat → Nat → Option Nat
  | 0, _ => none
  | f + 1, x => if there n x then some x else if level x = 0 then none else rightF n f (x - 2 ^ (level x - 1))
def right (n x : Nat) : Int := if level x = 0 then -1 else (rightF n 9 (x + 2 ^ (level x - 1))).elim (-7) (fun r => (r : Int))
/-- one step up in the endless tree -/
def upS (x : Nat) : Int := bits BinOp.or IntKind.i64 (bits BinOp.andNot IntKind.i64 x (2 ^ (level x + 1) : Nat)) (2 ^ level x : Nat)
def aboveF (n : Nat) : Nat → Nat → Option Nat
  | 0, _ => none
  | f + 1, x => if upS x < 0 ∨ 255 < upS x then none else if there n (upS x).toNat then some (upS x).toNat else aboveF n f (upS x).toNat
def above (n x : Nat) : Int := if x = root n then -1 else (aboveF n 9 x).elim (-7) (fun r => (r : Int))
def beside (n x : Nat) : Int := if above n x < 0 then -1 else if (x : Int) < above n x then right n (above n x).toNat else left n (above n x).toNat
def leaves (n x : Nat) : Nat × Nat := ((x + 1 - 2 ^ level x) / 2, min ((x + 1 + 2 ^ level x) / 2) n)
def holds (n x leaf : Nat) : Bool := decide ((leaves n x).1 ≤ leaf) && decide (leaf < (leaves n x).2)

/-- the document's: the greatest power of 2 below n -/
def half (n : Nat) : Nat := if n ≤ 2 then 1 else if n ≤ 4 then 2 else if n ≤ 8 then 4 else if n ≤ 16 then 8 else if n ≤ 32 then 16 else 32
def rroot (a n : Nat) : Nat := if n = 1 then 2 * a else 2 * (a + half n) - 1
def find : Nat → Nat → Nat → Nat → Int → Int → Option (Nat × Nat × Int × Int)
  | 0, _, _, _, _, _ => none
  | f + 1, a, n, x, p, b =>
    if rroot a n = x then some (a, n, p, b)
    else if n ≤ 1 ∨ 64 < n ∨ 64 < a then none
    else if x < rroot a n then find f a (half n) x (rroot a n) (rroot (a + half n) (n - half n))
    else find f (a + half n) (n - half n) x (rroot a n) (rroot a (half n))
def found (n x : Nat) : Nat × Nat × Int × Int := (find 9 0 n x (-1) (-1)).getD (0, 0, -9, -9)
def rleft (n x : Nat) : Int := if (found n x).2.1 = 1 then -1 else rroot (found n x).1 (half (found n x).2.1)
def rright (n x : Nat) : Int := if (found n x).2.1 = 1 then -1 else rroot ((found n x).1 + half (found n x).2.1) ((found n x).2.1 - half (found n x).2.1)

/-- ALL TREES, ALL NODES. -/
theorem nodes : ∀ n, n < 65 → ∀ x, x < 127 → there n x = true →
    (find 9 0 n x (-1) (-1)).isSome = true ∧ left n x = rleft n x ∧ right n x = rright n x ∧ above n x = (found n x).2.2.1 ∧ beside n x = (found n x).2.2.2 ∧ (leaves n x).1 = (found n x).1 ∧ (leaves n x).2 = (found n x).1 + (found n x).2.1 := by
  decide +kernel
end Go.Proofs.YtjlpdbaknhbgdaaGreat.Bg
set_option linter.unusedSimpArgs false
set_option linter.unusedVariables false
namespace Go.Proofs.YtjlpdbaknhbgdaaGreat.Bg
open Go.RowKit

def thereI (n x : Int) : Bool := decide (1 ≤ n) && decide (n ≤ 64) && decide (0 ≤ x) && decide (x ≤ 2 * n - 2)

set_option maxRecDepth 100000 in
theorem there_calls (n x : Int) (w : World) : Calls Tryz.prog 196 #[.int .i64 n, .int .i64 x] w fun e w' => e = .returned (.bool (thereI n x)) ∧ w = w' := by
  unfold thereI
  go_enter Tryz.func196, Tryz.ntmps196
  by_cases h1 : 1 ≤ n
  · by_cases h2 : n ≤ 64
    · by_cases h3 : 0 ≤ x
      · go_wp2
        go_returns
        exact ⟨by simp; omega, rfl⟩
      · go_wp2
        go_returns
        exact ⟨by simp; omega, rfl⟩
    · go_wp2
      go_returns
      exact ⟨by simp; omega, rfl⟩
  · go_wp2
    go_returns
    exact ⟨by simp; omega, rfl⟩

set_option maxRecDepth 100000 in
theorem rthere_calls (n x : Int) (w : World) : Calls Tryz.prog 205 #[.int .i64 n, .int .i64 x] w fun e w' => e = .returned (.bool (thereI n x)) ∧ w = w' := by
  unfold thereI
  go_enter Tryz.func205, Tryz.ntmps205
  by_cases h1 : 1 ≤ n
  · by_cases h2 : n ≤ 64
    · by_cases h3 : 0 ≤ x
      · go_wp2
        go_returns
        exact ⟨by simp; omega, rfl⟩
      · go_wp2
        go_returns
        exact ⟨by simp; omega, rfl⟩
    · go_wp2
      go_returns
      exact ⟨by simp; omega, rfl⟩
  · go_wp2
    go_returns
    exact ⟨by simp; omega, rfl⟩

theorem bits1 : ∀ y, y < 256 → bits BinOp.and IntKind.i64 (y : Nat) 1 = ((y % 2 : Nat) : Int) := by decide +kernel

theorem level_odd : ∀ a, a < 256 → a % 2 = 1 → level a = level (a / 2) + 1 := by decide +kernel
theorem level_even : ∀ a, a < 256 → a % 2 = 0 → level a = 0 := by decide +kernel
theorem level_le : ∀ a, a < 256 → level a ≤ 8 := by decide +kernel

set_option maxRecDepth 100000 in
theorem level_calls (x : Nat) (hx : x < 256) (w : World) : Calls Tryz.prog 217 #[.int .i64 x] w fun e w' => e = .returned (.int .i64 (level x : Nat)) ∧ w = w' := by
  have hlx := level_le x hx
  generalize hL : level x = L at *
  go_enter Tryz.func217, Tryz.ntmps217
  go_wp2
  go_loopw [0, 3] (fun y k wr => ∃ (a c : Nat), y = .int .i64 a ∧ k = .int .i64 c ∧ a < 256 ∧ c + level a = L ∧ w = wr) (fun y _ _ => (intOf y).toNat)
  case atStart => exact ⟨x, 0, rfl, rfl, by omega, by omega, rfl⟩
  case round =>
    obtain ⟨a, c, rfl, rfl, ha, hl, rfl⟩ := hrel
    have hb := bits1 a ha
    rcases Nat.mod_two_eq_zero_or_one a with h | h
    · rw [h] at hb
      rw [level_even a ha h] at hl
      obtain rfl : c = L := by omega
      go_wp2
      go_returns
      exact ⟨rfl, rfl⟩
    · rw [h] at hb
      rw [level_odd a ha h] at hl
      go_wp2
      go_roundw
      case rel => exact ⟨a / 2, c + 1, by simp, by simp, by omega, by omega, trivial⟩
      case measure => simp [intOf]; omega

theorem thereI_of (n x : Nat) : thereI n x = there n x := by
  unfold thereI there
  rw [Bool.eq_iff_iff]
  simp
  omega
set_option maxRecDepth 100000 in
theorem half_calls (n : Nat) (h2 : n ≤ 64) (w : World) : Calls Tryz.prog 221 #[.int .i64 n] w fun e w' => e = .returned (.int .i64 (half n : Nat)) ∧ w = w' := by
  go_enter Tryz.func221, Tryz.ntmps221
  go_wp2_with fail
  go_loopw [3] (fun k wr => ∃ c : Int, k = .int .i64 c ∧ ((c = 1) ∨ (c = 2 ∧ 2 < n) ∨ (c = 4 ∧ 4 < n) ∨ (c = 8 ∧ 8 < n) ∨ (c = 16 ∧ 16 < n) ∨ (c = 32 ∧ 32 < n)) ∧ w = wr) (fun k _ => 64 - (intOf k).toNat)
  case atStart => exact ⟨1, rfl, .inl rfl, rfl⟩
  case round =>
    obtain ⟨c, rfl, hc, rfl⟩ := hrel
    by_cases hlt : 2 * c < n
    · have h64 : c ≤ 32 := by omega
      have h0 : 1 ≤ c := by omega
      go_wp2
      go_roundw
      case rel => exact ⟨2 * c, rfl, by omega, trivial⟩
      case measure => simp [intOf]; omega
    · have h64 : c ≤ 64 := by omega
      have h0 : 1 ≤ c := by omega
      have hr : ((half n : Nat) : Int) = c := by
        unfold half
        rcases hc with rfl | ⟨rfl, h⟩ | ⟨rfl, h⟩ | ⟨rfl, h⟩ | ⟨rfl, h⟩ | ⟨rfl, h⟩ <;> (repeat' split) <;> omega
      have HR := Lib.hid hr
      clear hr
      go_wp2
      go_returns
      rw [HR.out]
      exact ⟨rfl, rfl⟩
theorem half_pos (n : Nat) : 1 ≤ half n ∧ half n ≤ 32 := by unfold half; (repeat' split) <;> omega
theorem half_lt (n : Nat) (h : 2 ≤ n) (h2 : n ≤ 64) : half n < n ∧ n ≤ 2 * half n := by unfold half; (repeat' split) <;> omega

set_option maxRecDepth 100000 in
theorem rroot_calls (a n : Nat) (ha : a ≤ 128) (h2 : n ≤ 64) (w : World) : Calls Tryz.prog 206 #[.int .i64 a, .int .i64 n] w fun e w' => e = .returned (.int .i64 (rroot a n : Nat)) ∧ w = w' := by
  have hp := half_pos n
  by_cases h1 : n = 1
  · have hr : ((rroot a n : Nat) : Int) = 2 * (a : Int) := by unfold rroot; rw [if_pos h1]; omega
    rw [hr]
    subst h1
    go_enter Tryz.func206, Tryz.ntmps206
    go_wp2
    go_returns
    exact ⟨rfl, rfl⟩
  · have hr : ((rroot a n : Nat) : Int) = 2 * ((a : Int) + (half n : Nat)) - 1 := by unfold rroot; rw [if_neg h1]; omega
    rw [hr]
    have h1' : ¬ (n : Int) = 1 := by omega
    go_enter Tryz.func206, Tryz.ntmps206
    go_wp2_with fail
    refine (half_calls n h2 _).mono ?_
    rintro e w1 ⟨rfl, rfl⟩
    go_wp2
    go_returns
    exact ⟨rfl, rfl⟩
end Go.Proofs.YtjlpdbaknhbgdaaGreat.Bg
set_option linter.unusedSimpArgs false
set_option linter.unusedVariables false
namespace Go.Proofs.YtjlpdbaknhbgdaaGreat.Bg
open Go.RowKit

theorem pow_wrap0 : ∀ k, k < 10 → wrap64 (2 ^ k) = ((2 ^ k : Nat) : Int) := by decide +kernel
theorem pow_wrap (k : Nat) (h : k ≤ 9) : wrap64 (2 ^ k) = ((2 ^ k : Nat) : Int) := pow_wrap0 k (by omega)
theorem leaves_no (n x : Int) (h : thereI n x = false) (w : World) : Calls Tryz.prog 213 #[.int .i64 n, .int .i64 x] w fun e w' => e = .returned (.tuple #[.int .i64 0, .int .i64 0]) ∧ w = w' := by
  go_enter Tryz.func213, Tryz.ntmps213
  go_wp2_with fail
  refine (there_calls n x _).mono ?_
  rintro e w1 ⟨rfl, rfl⟩
  rw [h]
  go_wp2
  go_returns
  exact ⟨rfl, rfl⟩

end Go.Proofs.YtjlpdbaknhbgdaaGreat.Bg
set_option linter.unusedSimpArgs false
set_option linter.unusedVariables false
namespace Go.Proofs.YtjlpdbaknhbgdaaGreat.Bg
open Go.RowKit

/-- Nothing lies otherwise, nothing is new. -/
structure Still (w w' : World) : Prop where
  below : Below w.heap.size w w'
  size : w'.heap.size = w.heap.size
theorem Still.refl (w : World) : Still w w := ⟨Below.refl _ _, rfl⟩
theorem Still.drew {w w' : World} (h : Still w w') : Still w w'.drew := ⟨h.below.drew, h.size⟩
theorem Still.trans {a b c : World} (h : Still a b) (h2 : Still b c) : Still a c := ⟨h.below.trans (h.size ▸ h2.below), h2.size.trans h.size⟩
theorem thereI_nat {n x : Int} (h : thereI n x = true) : ∃ n' x' : Nat, n = n' ∧ x = x' ∧ there n' x' = true ∧ n' < 65 ∧ x' < 127 := by
  have h' := h
  unfold thereI at h'
  simp at h'
  refine ⟨n.toNat, x.toNat, by omega, by omega, ?_, by omega, by omega⟩
  rw [← thereI_of, Int.toNat_of_nonneg (by omega), Int.toNat_of_nonneg (by omega)]
  exact h

def leavesI (n x : Int) : Int × Int := if thereI n x then (((leaves n.toNat x.toNat).1 : Int), ((leaves n.toNat x.toNat).2 : Int)) else (0, 0)
def holdsI (n x l : Int) : Bool := decide ((leavesI n x).1 ≤ l) && decide (l < (leavesI n x).2)

theorem leaves_fit : ∀ x, x < 127 → 2 ^ level x ≤ x + 1 ∧ 2 ^ level x ≤ 128 := by decide +kernel
theorem leaves_yes (n x : Nat) (h : there n x = true) (w : World) : Calls Tryz.prog 213 #[.int .i64 n, .int .i64 x] w fun e w' => e = .returned (.tuple #[.int .i64 ((leaves n x).1 : Nat), .int .i64 ((leaves n x).2 : Nat)]) ∧ w = w' := by
  have hx : x < 127 ∧ n < 65 ∧ 1 ≤ n := by unfold there at h; simp at h; omega
  have hl := level_le x (by omega)
  have hf := leaves_fit x (by omega)
  have hr : ((leaves n x).1 : Int) = ((x : Int) + 1 - (2 ^ level x : Nat)) / 2 ∧ ((leaves n x).2 : Int) = min (((x : Int) + 1 + (2 ^ level x : Nat)) / 2) n := by
    unfold leaves
    generalize 2 ^ level x = P at *
    constructor
    · show (((x + 1 - P) / 2 : Nat) : Int) = _
      omega
    · show ((min ((x + 1 + P) / 2) n : Nat) : Int) = _
      omega
  rw [hr.1, hr.2]
  clear hr
  obtain ⟨k, hk⟩ : ∃ k, level x = k := ⟨_, rfl⟩
  rw [hk] at hl hf ⊢
  have hw := pow_wrap k (by omega)
  have hp : 1 ≤ 2 ^ k := Nat.one_le_two_pow
  generalize (2 : Nat) ^ k = P at *
  go_enter Tryz.func213, Tryz.ntmps213
  go_wp2_with fail
  refine (there_calls n x _).mono ?_
  rintro e w1 ⟨rfl, rfl⟩
  rw [thereI_of, h]
  go_wp2_with fail
  refine (level_calls x (by omega) _).mono ?_
  rintro e w1 ⟨rfl, rfl⟩
  rw [hk]
  go_wp2
  all_goals
    go_returns
    first
      | exact ⟨rfl, rfl⟩
      | (rw [Int.min_eq_right (by omega)]; exact ⟨rfl, rfl⟩)
      | (rw [Int.min_eq_left (by omega)]; exact ⟨rfl, rfl⟩)

theorem Leaves_calls (n x : Int) (w : World) : Calls Tryz.prog 213 #[.int .i64 n, .int .i64 x] w fun e w' => e = .returned (.tuple #[.int .i64 (leavesI n x).1, .int .i64 (leavesI n x).2]) ∧ w = w' := by
  unfold leavesI
  cases h : thereI n x with
  | true => obtain ⟨n', x', rfl, rfl, ht, h1, h2⟩ := thereI_nat h; exact leaves_yes n' x' ht w
  | false => exact leaves_no n x h w

theorem Holds_calls (n x l : Int) (w : World) : Calls Tryz.prog 181 #[.int .i64 n, .int .i64 x, .int .i64 l] w fun e w' => e = .returned (.bool (holdsI n x l)) ∧ w = w' := by
  unfold holdsI
  have LC := fun w => Leaves_calls n x w
  generalize leavesI n x = q at *
  obtain ⟨lo, hi⟩ := q
  dsimp only at LC ⊢
  by_cases h1 : lo ≤ l
  · go_enter Tryz.func181, Tryz.ntmps181
    go_wp2_with fail
    refine (LC _).mono ?_
    rintro e w1 ⟨rfl, rfl⟩
    go_wp2
    go_returns
    exact ⟨by simp [h1], rfl⟩
  · go_enter Tryz.func181, Tryz.ntmps181
    go_wp2_with fail
    refine (LC _).mono ?_
    rintro e w1 ⟨rfl, rfl⟩
    go_wp2
    go_returns
    exact ⟨by simp; omega, rfl⟩
end Go.Proofs.YtjlpdbaknhbgdaaGreat.Bg
set_option linter.unusedSimpArgs false
set_option linter.unusedVariables false
namespace Go.Proofs.YtjlpdbaknhbgdaaGreat
open Go.RowKit
open Bg (holdsI)

def z32L : List UInt8 := List.replicate 32 0
def zeroL : LeafA := ⟨0, z32L, z32L, z32L, rfl, rfl, rfl⟩
def LeafA.isZ (l : LeafA) : Bool := decide (l.n = 0) && ((l.p == z32L) && ((l.v == z32L) && (l.a == z32L)))
/-- The name at a place that is there. -/
def nameAt (L : List LeafA) (x : Int) : Int := ((L[x.toNat]?).map (·.n)).getD 0
def rightLeaf (L : List LeafA) (i : Nat) : Bool := match L[i]? with
  | none => true
  | some l => l.isZ || (decide (1 ≤ l.n ∧ l.n ≤ 64) && (L.take i).all fun m => decide (m.n ≠ l.n))
def rightLoose (L : List LeafA) (i : Nat) (l : List Int) (k : Nat) : Bool := match l[k]? with
  | none => true
  | some x => holdsI L.length (2 * i + 1) x && (decide (nameAt L x ≠ 0) && (k == 0 || decide (l.getD (k - 1) 0 < x)))
def ParA.isZ (q : ParA) : Bool := (q.p == z32L) && ((q.a == z32L) && q.loose.isEmpty)
def rightPar (L : List LeafA) (i : Nat) (q : ParA) : Bool := (q.s || q.isZ) && (List.range q.loose.length).all fun k => rightLoose L i q.loose k
def rightParAt (T : TreeT) (i : Nat) : Bool := match T.pars[i]? with
  | none => true
  | some q => rightPar T.leaves i q
def rightT (T : TreeT) : Bool :=
  decide (T.leaves.length ≤ 64) && (decide (T.pars.length = T.leaves.length - 1) && ((List.range T.leaves.length).all (rightLeaf T.leaves) && ((List.range T.pars.length).all (rightParAt T) && (T.leaves.isEmpty || decide (nameAt T.leaves (T.leaves.length - 1 : Nat) ≠ 0)))))
theorem rightT_big {T : TreeT} (h : 64 < T.leaves.length) : rightT T = false := by
  unfold rightT
  rw [decide_eq_false (by omega)]
  rfl
theorem rightT_pars {T : TreeT} (h : T.pars.length ≠ T.leaves.length - 1) : rightT T = false := by
  unfold rightT
  rw [decide_eq_false h]
  simp
theorem rightT_leaf {T : TreeT} {i : Nat} (hi : i < T.leaves.length) (h : rightLeaf T.leaves i = false) : rightT T = false := by
  unfold rightT
  have : (List.range T.leaves.length).all (rightLeaf T.leaves) = false := by
    rw [List.all_eq_false]
    exact ⟨i, List.mem_range.2 hi, by rw [h]; simp⟩
  rw [this]
  simp
theorem rightT_par {T : TreeT} {i : Nat} {q : ParA} (hi : T.pars[i]? = some q) (h : rightPar T.leaves i q = false) : rightT T = false := by
  unfold rightT
  have : (List.range T.pars.length).all (rightParAt T) = false := by
    rw [List.all_eq_false]
    refine ⟨i, List.mem_range.2 (List.getElem?_eq_some_iff.1 hi).1, ?_⟩
    unfold rightParAt
    rw [hi]
    simp [h]
  rw [this]
  simp
theorem rightPar_loose {L : List LeafA} {i k : Nat} {q : ParA} (hk : k < q.loose.length) (h : rightLoose L i q.loose k = false) : rightPar L i q = false := by
  unfold rightPar
  have : (List.range q.loose.length).all (fun k => rightLoose L i q.loose k) = false := by
    rw [List.all_eq_false]
    exact ⟨k, List.mem_range.2 hk, by rw [h]; simp⟩
  rw [this]
  simp
theorem rightT_end {T : TreeT} (h1 : T.leaves.length ≤ 64) (h2 : T.pars.length = T.leaves.length - 1) (h3 : ∀ i, i < T.leaves.length → rightLeaf T.leaves i = true) (h4 : ∀ i q, T.pars[i]? = some q → rightPar T.leaves i q = true) :
    rightT T = (T.leaves.isEmpty || decide (nameAt T.leaves (T.leaves.length - 1 : Nat) ≠ 0)) := by
  unfold rightT
  have e3 : (List.range T.leaves.length).all (rightLeaf T.leaves) = true := by
    rw [List.all_eq_true]
    exact fun i hi => h3 i (List.mem_range.1 hi)
  have e4 : (List.range T.pars.length).all (rightParAt T) = true := by
    rw [List.all_eq_true]
    intro i hi
    unfold rightParAt
    cases h : T.pars[i]? with
    | none => rfl
    | some q => exact h4 i q h
  rw [decide_eq_true h1, decide_eq_true h2, e3, e4]
  simp
/-- Where a name's leaf is. -/
def placeL (L : List LeafA) (x : Int) : Int := if x < 1 then -1 else match L.findIdx? (fun l => decide (l.n = x)) with
  | none => -1
  | some i => i
def placeT (T : TreeT) (x : Int) : Int := if rightT T then placeL T.leaves x else -1
end Go.Proofs.YtjlpdbaknhbgdaaGreat
set_option linter.unusedSimpArgs false
set_option linter.unusedVariables false
namespace Go.Proofs.YtjlpdbaknhbgdaaGreat
open Go.RowKit

theorem part_hashT (xs : Array Value) (off : Nat) (h : List UInt8) (w : World) (he : xs.extract off (off + 32) = (h.map bv).toArray) : (part 23 xs off).run Tryz.prog w = .ok (.agg (h.map bv).toArray) w := by
  simp [part, Tryz.isAgg23, Tryz.sizeOf23, Result.andThen, he]
theorem part_intT (xs : Array Value) (off : Nat) (n : Int) (w : World) (he : xs[off]? = some (.int .i64 n)) : (part 3 xs off).run Tryz.prog w = .ok (.int .i64 n) w := by
  simp [part, isAgg, run_underlying Tryz.underlying3, Result.andThen, he]
theorem eq_fieldB (d : Nat) (xs ys : Array Value) (f : Field) (fs : List Field) (ty : TypeId) (off : Nat) (a b : Value) (c r : Bool) (w : World) (hf : decide (f.name ≠ "_" ∧ f.type = ty ∧ f.offset = off) = true) (hx : (part ty xs off).run Tryz.prog w = .ok a w) (hy : (part ty ys off).run Tryz.prog w = .ok b w) (he : (Op.equalIn d ty a b).run Tryz.prog w = .ok c w) (hr : (Op.eqFields d xs ys fs).run Tryz.prog w = .ok r w) : (Op.eqFields d xs ys (f :: fs)).run Tryz.prog w = .ok (c && r) w := by
  obtain ⟨h1, rfl, rfl⟩ := of_decide_eq_true hf
  rw [Op.eqFields, if_pos h1]
  cases c <;> simp only [Sem.run_bind, Sem.run_pure, hx, hy, he, Result.andThen_ok, Bool.not_true, Bool.not_false, Bool.false_eq_true, if_false, if_true, hr, Bool.true_and, Bool.false_and]
noncomputable def fLeaf (i : Nat) : Field := (Tryz.prog.fieldsOf 144).toList.getD i default
theorem Tryz.fieldsLeaf : (Tryz.prog.fieldsOf 144).toList = [fLeaf 0, fLeaf 1, fLeaf 2, fLeaf 3] := by kernel_rfl
theorem Tryz.fieldLeaf0 : decide ((fLeaf 0).name ≠ "_" ∧ (fLeaf 0).type = 3 ∧ (fLeaf 0).offset = 0) = true := by kernel_rfl
theorem Tryz.fieldLeaf1 : decide ((fLeaf 1).name ≠ "_" ∧ (fLeaf 1).type = 23 ∧ (fLeaf 1).offset = 1) = true := by kernel_rfl
theorem Tryz.fieldLeaf2 : decide ((fLeaf 2).name ≠ "_" ∧ (fLeaf 2).type = 23 ∧ (fLeaf 2).offset = 33) = true := by kernel_rfl
theorem Tryz.fieldLeaf3 : decide ((fLeaf 3).name ≠ "_" ∧ (fLeaf 3).type = 23 ∧ (fLeaf 3).offset = 65) = true := by kernel_rfl
def LeafA.eqB (l m : LeafA) : Bool := decide (l.n = m.n) && ((l.p == m.p) && ((l.v == m.v) && ((l.a == m.a) && true)))
theorem leaf_ext (l : LeafA) (a n : Nat) : l.cells.toArray.extract a (a + n) = ((l.cells.drop a).take n).toArray := by
  rw [List.extract_toArray]; congr 1; rw [List.extract_eq_take_drop]; congr 1; omega
theorem leaf_p (l : LeafA) : l.cells.toArray.extract 1 (1 + 32) = (l.p.map bv).toArray := by
  rw [leaf_ext, LeafA.cells, List.drop_succ_cons, List.drop_zero, List.take_left' (by simp [l.hp])]
theorem leaf_v (l : LeafA) : l.cells.toArray.extract 33 (33 + 32) = (l.v.map bv).toArray := by
  rw [leaf_ext, LeafA.cells, List.drop_succ_cons, List.drop_left' (by simp [l.hp]), List.take_left' (by simp [l.hv])]
theorem leaf_a (l : LeafA) : l.cells.toArray.extract 65 (65 + 32) = (l.a.map bv).toArray := by
  rw [leaf_ext, LeafA.cells, List.drop_succ_cons, ← List.append_assoc, List.drop_left' (by simp [l.hp, l.hv]), List.take_of_length_le (by simp [l.ha])]
theorem run_eq_leaf (l m : LeafA) (w : World) : (Op.equalIn 10000 144 (.agg l.cells.toArray) (.agg m.cells.toArray)).run Tryz.prog w = .ok (l.eqB m) w := by
  rw [run_equalIn_struct w 9999 144 _ _ (by kernel_rfl) (by kernel_rfl), Tryz.fieldsLeaf]
  obtain ⟨i, hi⟩ := Tryz.infoU8h
  have hb : ∀ a b : List UInt8, a.length = 32 → b.length = 32 → (Op.equalIn 9999 23 (.agg (a.map bv).toArray) (.agg (b.map bv).toArray)).run Tryz.prog w = .ok (a == b) w := fun a b ha hb => by
    rw [run_eq_bytes w 9997 32 23 5 i Tryz.underlying23 Tryz.underlying5 Tryz.plainU8 hi Tryz.cellsU8e a b ha hb]
  have hn : (Op.equalIn 9999 3 (.int .i64 l.n) (.int .i64 m.n)).run Tryz.prog w = .ok (decide (l.n = m.n)) w := by
    rw [run_equalIn_int w 9998 3 .i64 .i64 l.n m.n Tryz.underlying3]; simp; rfl
  refine eq_fieldB 9999 _ _ _ _ 3 0 _ _ _ _ w Tryz.fieldLeaf0 (part_intT _ 0 l.n w rfl) (part_intT _ 0 m.n w rfl) hn ?_
  refine eq_fieldB 9999 _ _ _ _ 23 1 _ _ _ _ w Tryz.fieldLeaf1 (part_hashT _ 1 _ w (leaf_p l)) (part_hashT _ 1 _ w (leaf_p m)) (hb _ _ l.hp m.hp) ?_
  refine eq_fieldB 9999 _ _ _ _ 23 33 _ _ _ _ w Tryz.fieldLeaf2 (part_hashT _ 33 _ w (leaf_v l)) (part_hashT _ 33 _ w (leaf_v m)) (hb _ _ l.hv m.hv) ?_
  refine eq_fieldB 9999 _ _ _ _ 23 65 _ _ _ _ w Tryz.fieldLeaf3 (part_hashT _ 65 _ w (leaf_a l)) (part_hashT _ 65 _ w (leaf_a m)) (hb _ _ l.ha m.ha) ?_
  simp [Op.eqFields]
theorem LeafA.eqB_zero (l : LeafA) : l.eqB zeroL = l.isZ := by
  unfold LeafA.eqB LeafA.isZ zeroL
  simp only [Bool.and_true]
end Go.Proofs.YtjlpdbaknhbgdaaGreat
set_option linter.unusedSimpArgs false
set_option linter.unusedVariables false
namespace Go.Proofs.YtjlpdbaknhbgdaaGreat.Bg
open Go.RowKit

set_option maxRecDepth 100000 in
set_option maxHeartbeats 2000000 in
theorem find_calls : ∀ (f a n x : Nat) (p b : Int) (ra rn : Nat) (rp rb : Int), find f a n x p b = some (ra, rn, rp, rb) → a + n ≤ 64 → n ≤ 64 → 1 ≤ n → ∀ (w : World),
    Calls Tryz.prog 220 #[.int .i64 a, .int .i64 n, .int .i64 x, .int .i64 p, .int .i64 b] w fun e w' => e = .returned (.tuple #[.int .i64 ra, .int .i64 rn, .int .i64 rp, .int .i64 rb]) ∧ w = w'
  | 0, a, n, x, p, b, ra, rn, rp, rb, h, ha, hn, hn1, w => by simp [find] at h
  | f + 1, a, n, x, p, b, ra, rn, rp, rb, h, ha, hn, hn1, w => by
    have RC := fun w => rroot_calls a n (by omega) hn w
    by_cases h0 : rroot a n = x
    · rw [find, if_pos h0] at h
      obtain ⟨rfl, rfl, rfl, rfl⟩ : a = ra ∧ n = rn ∧ p = rp ∧ b = rb := by simpa using h
      subst h0
      generalize rroot a n = x at *
      clear h
      go_enter Tryz.func220, Tryz.ntmps220
      go_wp2_with fail
      refine (RC _).mono ?_
      rintro e w1 ⟨rfl, rfl⟩
      go_wp2
      go_returns
      exact ⟨rfl, rfl⟩
    · rw [find, if_neg h0] at h
      by_cases h1 : n ≤ 1 ∨ 64 < n ∨ 64 < a
      · rw [if_pos h1] at h; cases h
      · rw [if_neg h1] at h
        have hh := half_pos n
        have hh2 := half_lt n (by omega) hn
        have HC := fun w => half_calls n hn w
        have R1 := fun w => rroot_calls a (half n) (by omega) (by omega) w
        have R2 := fun w => rroot_calls (a + half n) (n - half n) (by omega) (by omega) w
        have IH := fun (a n : Nat) (p b : Int) h ha hn hn1 w => find_calls f a n x p b ra rn rp rb h ha hn hn1 w
        generalize half n = H at *
        generalize rroot a n = R at *
        generalize rroot a H = Q1 at *
        generalize rroot (a + H) (n - H) = Q2 at *
        have e1 : Hid (((a : Int) + (H : Nat)) = ((a + H : Nat) : Int)) := by show _ = _; omega
        have e2 : Hid (((n : Int) - (H : Nat)) = ((n - H : Nat) : Int)) := by show _ = _; omega
        have h0' : ¬ (R : Int) = x := by omega
        by_cases h2 : x < R
        · rw [if_pos h2] at h
          have HI := Lib.hid h
          clear h h0 h1 find_calls
          go_enter Tryz.func220, Tryz.ntmps220
          go_wp2_with fail
          refine (RC _).mono ?_
          rintro e w1 ⟨rfl, rfl⟩
          go_wp2_with fail
          refine (HC _).mono ?_
          rintro e w1 ⟨rfl, rfl⟩
          go_wp2_with fail
          refine (R1 _).mono ?_
          rintro e w1 ⟨rfl, rfl⟩
          go_wp2_with fail
          rw [e1.out, e2.out]
          refine (R2 _).mono ?_
          rintro e w1 ⟨rfl, rfl⟩
          go_wp2_with fail
          refine (IH _ _ _ _ HI.out (by omega) (by omega) (by omega) _).mono ?_
          rintro e w1 ⟨rfl, rfl⟩
          go_wp2
          go_returns
          exact ⟨rfl, rfl⟩
        · rw [if_neg h2] at h
          have HI := Lib.hid h
          clear h h0 h1 find_calls
          go_enter Tryz.func220, Tryz.ntmps220
          go_wp2_with fail
          refine (RC _).mono ?_
          rintro e w1 ⟨rfl, rfl⟩
          go_wp2_with fail
          refine (HC _).mono ?_
          rintro e w1 ⟨rfl, rfl⟩
          go_wp2_with fail
          refine (R1 _).mono ?_
          rintro e w1 ⟨rfl, rfl⟩
          go_wp2_with fail
          rw [e1.out, e2.out]
          refine (R2 _).mono ?_
          rintro e w1 ⟨rfl, rfl⟩
          go_wp2_with fail
          rw [e1.out, e2.out]
          refine (IH _ _ _ _ HI.out (by omega) (by omega) (by omega) _).mono ?_
          rintro e w1 ⟨rfl, rfl⟩
          go_wp2
          go_returns
          exact ⟨rfl, rfl⟩

theorem found_ok (n x : Nat) (h : there n x = true) : ∃ ra rn rp rb, found n x = (ra, rn, rp, rb) ∧ find 9 0 n x (-1) (-1) = some (ra, rn, rp, rb) := by
  have hx : x < 127 ∧ n < 65 := by unfold there at h; simp at h; omega
  obtain ⟨⟨ra, rn, rp, rb⟩, hr⟩ := Option.isSome_iff_exists.1 (nodes n hx.2 x hx.1 h).1
  exact ⟨ra, rn, rp, rb, by unfold found; rw [hr]; rfl, hr⟩
theorem found_calls (n x : Nat) (h : there n x = true) (w : World) : Calls Tryz.prog 220 #[.int .i64 0, .int .i64 n, .int .i64 x, .int .i64 (-1), .int .i64 (-1)] w fun e w' => e = .returned (.tuple #[.int .i64 (found n x).1, .int .i64 (found n x).2.1, .int .i64 (found n x).2.2.1, .int .i64 (found n x).2.2.2]) ∧ w = w' := by
  have hx : x < 127 ∧ n < 65 ∧ 1 ≤ n := by unfold there at h; simp at h; omega
  obtain ⟨ra, rn, rp, rb, h1, h2⟩ := found_ok n x h
  rw [h1]
  exact find_calls 9 0 n x (-1) (-1) ra rn rp rb h2 (by omega) (by omega) (by omega) w
theorem found_fit : ∀ n, n < 65 → ∀ x, x < 127 → there n x = true → (found n x).1 + (found n x).2.1 ≤ 64 ∧ 1 ≤ (found n x).2.1 := by decide +kernel

def rrightI (n x : Int) : Int := if thereI n x then rright n.toNat x.toNat else -1
def rleavesI (n x : Int) : Int × Int := if thereI n x then (((found n.toNat x.toNat).1 : Int), ((found n.toNat x.toNat).1 + (found n.toNat x.toNat).2.1 : Nat)) else (0, 0)
def rholdsI (n x l : Int) : Bool := decide ((rleavesI n x).1 ≤ l) && decide (l < (rleavesI n x).2)

theorem leavesI_eq (n x : Int) : rleavesI n x = leavesI n x := by
  unfold rleavesI leavesI
  cases h : thereI n x with
  | false => rfl
  | true => obtain ⟨n', x', rfl, rfl, ht, h1, h2⟩ := thereI_nat h; simp [(nodes n' h1 x' h2 ht).2.2.2.2.2.1, (nodes n' h1 x' h2 ht).2.2.2.2.2.2]
theorem RLeaves_calls (n x : Int) (w : World) : Calls Tryz.prog 214 #[.int .i64 n, .int .i64 x] w fun e w' => e = .returned (.tuple #[.int .i64 (rleavesI n x).1, .int .i64 (rleavesI n x).2]) ∧ w = w' := by
  unfold rleavesI
  cases h : thereI n x with
  | true =>
    obtain ⟨n', x', rfl, rfl, ht, h1, h2⟩ := thereI_nat h
    have FC := fun w => found_calls n' x' ht w
    have ff := found_fit n' h1 x' h2 ht
    simp only [if_true, Int.toNat_natCast]
    generalize found n' x' = q at *
    obtain ⟨ra, rn, rp, rb⟩ := q
    dsimp only at FC ff ⊢
    have e1 : Hid (((ra + rn : Nat) : Int) = (ra : Int) + rn) := by show _ = _; omega
    rw [e1.out]
    go_enter Tryz.func214, Tryz.ntmps214
    go_wp2_with fail
    refine (rthere_calls n' x' _).mono ?_
    rintro e w1 ⟨rfl, rfl⟩
    rw [h]
    go_wp2_with fail
    refine (FC _).mono ?_
    rintro e w1 ⟨rfl, rfl⟩
    go_wp2
    go_returns
    exact ⟨rfl, rfl⟩
  | false =>
    go_enter Tryz.func214, Tryz.ntmps214
    go_wp2_with fail
    refine (rthere_calls n x _).mono ?_
    rintro e w1 ⟨rfl, rfl⟩
    rw [h]
    go_wp2
    go_returns
    exact ⟨rfl, rfl⟩
theorem RHolds_calls (n x l : Int) (w : World) : Calls Tryz.prog 183 #[.int .i64 n, .int .i64 x, .int .i64 l] w fun e w' => e = .returned (.bool (rholdsI n x l)) ∧ w = w' := by
  unfold rholdsI
  have LC := fun w => RLeaves_calls n x w
  generalize rleavesI n x = q at *
  obtain ⟨lo, hi⟩ := q
  dsimp only at LC ⊢
  by_cases h1 : lo ≤ l
  · go_enter Tryz.func183, Tryz.ntmps183
    go_wp2_with fail
    refine (LC _).mono ?_
    rintro e w1 ⟨rfl, rfl⟩
    go_wp2
    go_returns
    exact ⟨by simp [h1], rfl⟩
  · go_enter Tryz.func183, Tryz.ntmps183
    go_wp2_with fail
    refine (LC _).mono ?_
    rintro e w1 ⟨rfl, rfl⟩
    go_wp2
    go_returns
    exact ⟨by simp; omega, rfl⟩
theorem RRight_calls (n x : Int) (w : World) : Calls Tryz.prog 204 #[.int .i64 n, .int .i64 x] w fun e w' => e = .returned (.int .i64 (rrightI n x)) ∧ w = w' := by
  unfold rrightI
  cases h : thereI n x with
  | true =>
    obtain ⟨n', x', rfl, rfl, ht, h1, h2⟩ := thereI_nat h
    have FC := fun w => found_calls n' x' ht w
    have ff := found_fit n' h1 x' h2 ht
    simp only [if_true, Int.toNat_natCast]
    unfold rright
    generalize found n' x' = q at *
    obtain ⟨ra, rn, rp, rb⟩ := q
    dsimp only at FC ff ⊢
    by_cases h0 : rn = 1
    · rw [if_pos h0]
      have H0 := Lib.hid h0
      clear h0
      go_enter Tryz.func204, Tryz.ntmps204
      go_wp2_with fail
      refine (rthere_calls n' x' _).mono ?_
      rintro e w1 ⟨rfl, rfl⟩
      rw [h]
      go_wp2_with fail
      refine (FC _).mono ?_
      rintro e w1 ⟨rfl, rfl⟩
      rw [H0.out]
      go_wp2
      go_returns
      exact ⟨rfl, rfl⟩
    · rw [if_neg h0]
      have hh := half_pos rn
      have hh2 := half_lt rn (by omega) (by omega)
      have HC := fun w => half_calls rn (by omega) w
      have R1 := fun w => rroot_calls (ra + half rn) (rn - half rn) (by omega) (by omega) w
      generalize half rn = H at *
      generalize rroot (ra + H) (rn - H) = R at *
      have e1 : Hid (((ra : Int) + (H : Nat)) = ((ra + H : Nat) : Int)) := by show _ = _; omega
      have e2 : Hid (((rn : Int) - (H : Nat)) = ((rn - H : Nat) : Int)) := by show _ = _; omega
      have h0' : ¬ (rn : Int) = 1 := by omega
      clear h0
      go_enter Tryz.func204, Tryz.ntmps204
      go_wp2_with fail
      refine (rthere_calls n' x' _).mono ?_
      rintro e w1 ⟨rfl, rfl⟩
      rw [h]
      go_wp2_with fail
      refine (FC _).mono ?_
      rintro e w1 ⟨rfl, rfl⟩
      go_wp2_with fail
      refine (HC _).mono ?_
      rintro e w1 ⟨rfl, rfl⟩
      go_wp2_with fail
      refine (HC _).mono ?_
      rintro e w1 ⟨rfl, rfl⟩
      go_wp2_with fail
      rw [e1.out, e2.out]
      refine (R1 _).mono ?_
      rintro e w1 ⟨rfl, rfl⟩
      go_wp2
      go_returns
      exact ⟨rfl, rfl⟩
  | false =>
    go_enter Tryz.func204, Tryz.ntmps204
    go_wp2_with fail
    refine (rthere_calls n x _).mono ?_
    rintro e w1 ⟨rfl, rfl⟩
    rw [h]
    go_wp2
    go_returns
    exact ⟨rfl, rfl⟩
end Go.Proofs.YtjlpdbaknhbgdaaGreat.Bg
