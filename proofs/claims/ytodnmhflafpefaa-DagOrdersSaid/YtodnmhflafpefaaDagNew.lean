/-
  dag.New.
-/
import Derived.Test.YtodnmhflafpefaaDagLen
import Derived.Test.YtodnmhflafpefaaBookRep
import Derived.Test.YtodnmhflafpefaaBookMark
import Derived.WalkLawsBesides
import Derived.Laws.ResultCell
import Derived.Deep.LoopGhost
import Derived.Outline
import Derived.Handy
set_option linter.unusedSimpArgs false
set_option linter.unusedVariables false
namespace Go.Proofs.Ytodnmhflafpefaa
open Go.RowKit

set_option maxHeartbeats 4000000 in
set_option maxRecDepth 100000 in
theorem DNew_calls (keep : Int) (w : World) (hk : 1 ≤ keep ∧ keep ≤ 64) :
    Calls Try.prog 6 #[.int .i64 keep] w fun e w' => ∃ sp mb, e = .returned (.tuple #[.pointer (some ⟨sp, 0, none⟩), .int .i64 0]) ∧ StoreIs w' sp mb keep [] ∧ Below w.heap.size w w' ∧ w.heap.size ≤ sp ∧ w.heap.size ≤ mb ∧ mb ≠ sp := by
  obtain ⟨hk1, hk2⟩ := hk
  have hn1 : ¬ keep < 1 := by omega
  have hn2 : ¬ 64 < keep := by omega
  have hd1 : decide (keep < 1) = false := decide_eq_false hn1
  have hd2 : decide (64 < keep) = false := decide_eq_false hn2
  clear hk1 hk2
  go_enter Try.func6, Try.ntmps6
  go_wp2_with (first | ((with_reducible show wpList _ _ _ (⟨some 11, _, _, _, _, _⟩ :: _) _ _); refine wpList_makeM rfl 46 rfl hashOk hashEnc ?_; intro w1 s1 b1 m1) | ((with_reducible show wpList _ _ _ (⟨some 13, _, _, _, _, _⟩ :: _) _ _); refine wpList_boxA rfl 48 (.tmp 12) rfl #[.int .i64 keep, .map (some w.heap.size)] (by rfl) ?_; intro w2 b2 n2; have m2 := m1.below b2; have b12 := b1.trans (b2.mono b1.size)))
  have e1 := b1.size
  go_returns
  refine ⟨w.heap.size + 1, rfl, w.heap.size, ⟨by rw [← s1]; exact n2, m2.congr (fun x _ => rfl), List.Pairwise.nil⟩, b12, by omega, Nat.le_refl _, by omega⟩
set_option maxHeartbeats 4000000 in
set_option maxRecDepth 100000 in
theorem DNewArg_calls (keep : Int) (w : World) (hk : keep < 1 ∨ 64 < keep) :
    Calls Try.prog 6 #[.int .i64 keep] w fun e w' => e = .returned (.tuple #[.pointer none, .int .i64 1]) ∧ w' = w := by
  by_cases h1 : keep < 1
  · have hd1 : decide (keep < 1) = true := decide_eq_true h1
    go_enter Try.func6, Try.ntmps6
    go_wp2
    go_returns
    exact ⟨rfl, rfl⟩
  · have h2 : 64 < keep := hk.resolve_left h1
    have hd1 : decide (keep < 1) = false := decide_eq_false h1
    have hd2 : decide (64 < keep) = true := decide_eq_true h2
    go_enter Try.func6, Try.ntmps6
    go_wp2
    go_returns
    exact ⟨rfl, rfl⟩
end Go.Proofs.Ytodnmhflafpefaa
