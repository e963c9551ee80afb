/-
  The iterator over the nodes above, and the list of them ('Direct').
-/
import Derived.RangeFuncNested
import Derived.RangeFuncBound
import Derived.RangeFuncCalls
import Derived.RangeFuncLeaves
import Derived.RangeFuncBox
import Derived.Shelf.Abstract
import Derived.Shelf.RegionOpen
import Derived.WalkKit
import Derived.OwnWalkIn
import Derived.TacticsInMore
import Derived.LoopNIn
import Derived.LoopIn
import Derived.Maps.AppendAt
import Derived.Test.YtdmjiokeangmmaaBoughUps
set_option linter.unusedSimpArgs false
set_option linter.unusedVariables false
namespace Go.Proofs.Ytdmjiokeangmmaa.Bg
open Go.RowKit Go.Shelf

attribute [local go_sem] Oper.semAt_some

/-- What a round keeps: the box of n. -/
def KpB (b : Nat) (A B : World) : Prop := A.heap.size ≤ B.heap.size ∧ B.heap[b]? = A.heap[b]?
theorem KpB.refl (b : Nat) (A : World) : KpB b A A := ⟨Nat.le_refl _, rfl⟩
theorem KpB.t {b : Nat} {A B C : World} (h : KpB b A B) (k : KpB b B C) : KpB b A C := ⟨Nat.le_trans h.1 k.1, k.2.trans h.2⟩
theorem KpB.cell {b : Nat} {A B : World} (h : KpB b A B) {v : Value} (hc : A.cell? ⟨b, 0, none⟩ = some v) : B.cell? ⟨b, 0, none⟩ = some v := by
  rw [← hc]; simp only [World.cell?, h.2]
theorem KpB.b {b : Nat} {w : World} (hb : b < w.heap.size) (W : World) (l : Nat) (o o' : Obj) (hl : w.heap.size ≤ l) (h : W.heap[l]? = some o) (_ : o.isCells = false) (_ : o.isWalk = false) : KpB b W (W.putObj l o') :=
  ⟨by simp, World.putObj_heap_other (by omega)⟩
theorem Still.cell {A B : World} (h : Still A B) {p : Addr} {v : Value} (hc : A.cell? p = some v) : B.cell? p = some v :=
  (h.below.cell (World.block_lt_of_cell? _ _ hc)).trans hc
theorem Still.grown {A B : World} (h : Still A B) (row : Option Nat) : A.grownBy B row := below_grown h.below row

set_option maxRecDepth 100000 in
set_option maxHeartbeats 2000000 in
/-- The closure of 'up'. -/
theorem up1_in (n : Nat) (hn : 1 ≤ n) (l bn bx : Nat) (N X : Int) (J Jx : List Int → World → Prop) (W0 : World) (hJ : AbidesFrom W0.heap.size J)
    (hY : ∀ pre x W, J pre W → pre.length < 7 → YieldAt Fence.wide (n - 1) Try.prog l #[.int .i64 x] W fun e W' =>
      (e = .returned (.bool true) ∧ J (pre ++ [x]) W' ∧ KpB bn W W') ∨ (e = .returned (.bool false) ∧ Jx (pre ++ [x]) W'))
    (W : World) (hBn : W.cell? ⟨bn, 0, none⟩ = some (.int .i64 N)) (hBx : W.cell? ⟨bx, 0, none⟩ = some (.int .i64 X)) (h0 : J [] W) :
    CallsIn Fence.wide n Try.prog 40 #[.func (.yield l) #[] #[], .pointer (some ⟨bn, 0, none⟩), .pointer (some ⟨bx, 0, none⟩)] W fun e W' => (∃ v, e = .returned v) ∧
      ((∃ ys, ys = ups N X ∧ J ys W') ∨ (∃ pre, pre <+: ups N X ∧ Jx pre W')) := by
  refine callsIn_of_wp Try.func40 rfl trivial ?_ rfl
  simp only [Try.ntmps40, List.size_toArray, List.length_cons, List.length_nil, Nat.reduceAdd, Nat.reduceSub, Array.replicate_succ, Array.replicate_zero, List.push_toArray, List.append_toArray, List.nil_append, List.cons_append]
  gi_wp2_with fail
  refine ⟨trivial, ?_⟩
  refine (callsIn_wide.2 (Above_calls N X _)).mono ?_
  rintro e w1 ⟨rfl, hs⟩
  have hB1 := hs.cell hBn
  have h1 : J [] w1 := hJ _ _ _ none h0 (hs.grown none) (fun r e => by cases e)
  clear hBn hBx h0 hs
  gi_wp2_with fail
  gi_loopw [4] (fun p wr => ∃ (pre : List Int) (y : Int), p = .int .i64 (aboveI N y) ∧ Hid (ups N X = pre ++ ups N y) ∧ Hid (J pre wr) ∧ wr.cell? ⟨bn, 0, none⟩ = some (.int .i64 N)) (fun p _ => if intOf p < 0 then 0 else 1 + (ups N (intOf p)).length)
  case atStart => exact ⟨[], X, rfl, rfl, h1, hB1⟩
  case round =>
    obtain ⟨pre, y, rfl, hx, hj, hB⟩ := hrel
    have hlen := ups_len N X
    by_cases hp : aboveI N y < 0
    · rw [ups_no hp, List.append_nil] at hx
      have HX := hx
      clear hx
      generalize aboveI N y = p at *
      clear hY hJ
      gi_wp2
      refine ⟨fun _ h => (by cases h), ?_⟩
      gi_wp2
      go_end0
      exact ⟨⟨_, rfl⟩, .inl ⟨pre, HX.out.symm, hj.out⟩⟩
    · have hy := ups_yes hp
      rw [hy] at hx
      obtain ⟨p, hpe⟩ : ∃ p, aboveI N y = p := ⟨_, rfl⟩
      rw [hpe] at hx hp ⊢
      have hl : pre.length < 7 := by
        have := congrArg List.length hx.out
        simp at this; omega
      obtain ⟨fn, tmps, assign, body, hyy, hR⟩ := hY pre p wr hj.out hl
      have HY := Lib.hid hY
      clear hY hy hpe
      gi_wp2_with fail
      refine hR.mono ?_
      rintro e W3 (⟨rfl, hJ3, hk3⟩ | ⟨rfl, hJx3⟩)
      · have hB3 := hk3.cell hB
        gi_wp2_with fail
        refine ⟨trivial, ?_⟩
        refine (callsIn_wide.2 (Above_calls N p _)).mono ?_
        rintro e w4 ⟨rfl, hs4⟩
        have hB4 := hs4.cell hB3
        have hJ4 : Hid (J (pre ++ [p]) w4) := hJ _ _ _ none hJ3 (hs4.grown none) (fun r e => by cases e)
        clear hJ3 hB hB3 hk3 hs4 hyy hR hj
        gi_wp2_with fail
        go_roundw
        case rel => exact ⟨pre ++ [p], p, rfl, by show _ = _; rw [hx.out]; simp, hJ4, hB4⟩
        case measure =>
          show (if aboveI N p < 0 then 0 else 1 + (ups N (aboveI N p)).length) < (if p < 0 then 0 else 1 + (ups N p).length)
          rw [if_neg (show ¬ p < 0 by omega)]
          by_cases hq : aboveI N p < 0
          · rw [if_pos hq]; omega
          · rw [if_neg hq, ups_yes hq, List.length_cons]; omega
      · clear hyy hR hj HY hJ
        gi_wp2
        go_end0
        exact ⟨⟨_, rfl⟩, .inr ⟨pre ++ [p], ⟨ups N p, by rw [hx.out]; simp⟩, hJx3⟩⟩

theorem up_in (n : Nat) (N X : Int) (w : World) : CallsIn Fence.wide n Try.prog 33 #[.int .i64 N, .int .i64 X] w fun e w' => e = .returned (.func (.func 40) #[] #[.pointer (some ⟨w.heap.size, 0, none⟩), .pointer (some ⟨w.heap.size + 1, 0, none⟩)]) ∧ w' = (w.alloc (.cells #[.int .i64 N] 3)).alloc (.cells #[.int .i64 X] 3) := by
  refine callsIn_of_wp Try.func33 rfl trivial ?_ rfl
  simp only [Try.ntmps33, List.size_toArray, List.length_cons, List.length_nil, Nat.reduceAdd, Nat.reduceSub, Array.replicate_succ, Array.replicate_zero, List.push_toArray, List.append_toArray, List.nil_append, List.cons_append]
  gi_wp2
  go_ret
  exact ⟨rfl, rfl⟩

theorem up_stops (n : Nat) (hn : 1 ≤ n) (bn bx : Nat) (N X : Int) (w : World) (hbn : bn < w.heap.size) (hbx : bx < w.heap.size)
    (hBn : w.cell? ⟨bn, 0, none⟩ = some (.int .i64 N)) (hBx : w.cell? ⟨bx, 0, none⟩ = some (.int .i64 X)) :
    SeqStopsK Fence.wide n Try.prog 40 #[.pointer (some ⟨bn, 0, none⟩), .pointer (some ⟨bx, 0, none⟩)] (fun x : Int => #[Value.int .i64 x]) (KpB bn) (fun ys => ys = ups N X) (fun pre => pre <+: ups N X) 7 w := fun l J Jx W hW hJ _ hY h0 =>
  up1_in n hn l bn bx N X J Jx W hJ hY W ((hW.cell (p := ⟨bn, 0, none⟩) hbn).trans hBn) ((hW.cell (p := ⟨bx, 0, none⟩) hbx).trans hBx) h0
end Go.Proofs.Ytdmjiokeangmmaa.Bg
