/-
  A range over dag.Store.All whose variable is boxed.
-/
import Derived.Test.YtodnmhflafpefaaDagOpen
import Derived.WalkLawsBesides
import Derived.Laws.ResultCell
import Derived.Deep.LoopGhost
import Derived.RangeFuncNested
import Derived.RangeFuncBound
import Derived.RangeFuncCalls
import Derived.RangeFuncLeaves
import Derived.RangeFuncBox
import Derived.Shelf.Abstract
import Derived.Shelf.RegionOpen
import Derived.WalkKit
import Derived.OwnWalkIn
import Derived.TacticsInMore
import Derived.LoopNIn
import Derived.LoopIn
import Derived.Deep.RegionHeld
import Derived.Deep.Cut
import Derived.Outline
import Derived.Handy
set_option linter.unusedSimpArgs false
set_option linter.unusedVariables false
namespace Go.Proofs.Ytodnmhflafpefaa
open Go.RowKit

theorem zip_oneR (p : Nat) (T : Array Value) (e : Value) : (#[p].zip #[e]).foldl (fun t (x : Nat × Value) => match x with | (p, v) => t.setIfInBounds p v) T = T.setIfInBounds p e := by simp
set_option maxHeartbeats 4000000 in
theorem wpIn_rangeAll {Kp : World → World → Prop} {Safe : World → Nat → Prop} {body : Code} {Q : Exit → Act → World → Prop} {a : Act} {w : World} {g : Operand} {pS bS rid : Nat} {ty1 ty2 : TypeId} {pos1 pos2 : String} {aft1 aft2 : Array Edge}
    (sp mb bs : Nat) (keep : Int) (L : List Vx) (hg : a.eval g = .func (.func 15) #[] #[.pointer (some ⟨bs, 0, none⟩)]) (hK : KpOk Kp Safe w) (hbx : Blk w bs #[.pointer (some ⟨sp, 0, none⟩)] 24) (hs : StoreIs w sp mb keep L) (hn : L.length ≤ 1000)
    (hKt : ∀ {A B C : World}, Kp A B → Kp B C → Kp A C) (hKb : ∀ (W : World) (l : Nat) (o o' : Obj), w.heap.size ≤ l → W.heap[l]? = some o → o.isCells = false → o.isWalk = false → Kp W (W.putObj l o')) (hKr : ∀ A B : World, Below A.heap.size A B → Kp A B)
    (hp : pS < a.tmps.size) (hb : bS < a.tmps.size) (hne : bS ≠ pS)
    (I : List {x : Vx // x ∈ L} → World → Prop) (hI : OwnFrom w.heap.size I) (h0 : I [] w)
    (hbody : ∀ (l : Nat) (pre : List {x : Vx // x ∈ L}) (x : {x : Vx // x ∈ L}) (Bx : Nat) (W : World), I pre W → Blk W Bx x.1.cells.toArray 35 →
      body.wpIn (Fence.wide.inRound l) 7 Try.prog (ownPostG w.heap.size Kp I (fun _ _ _ => False) (pre ++ [x]) W) { tmps := (a.tmps.setIfInBounds pS (.agg x.1.cells.toArray)).setIfInBounds bS (.pointer (some ⟨Bx, 0, none⟩)), defers := [] } W)
    (hdone : ∀ (D : Nat) (xs : List {x : Vx // x ∈ L}) (W : World), w.heap.size ≤ D → AllS L xs → I xs W → W.heap[D]? = some (.deferred (some [])) → Q .normal { a with defers := markOf D :: a.defers } W) :
    (Code.rangeFunc g #[pS] (Code.region rid #[⟨some bS, .alloc 35, ty1, pos1, aft1, none⟩, ⟨none, .store 35 (.tmp bS) (.tmp pS), ty2, pos2, aft2, none⟩] false) body).wp Try.prog Q a w := by
  refine (wpIn_wide (n := 9)).1 ?_
  refine wpIn_rangeFunc_ownH rfl (by omega) (gf := 15) (lb := #[.pointer (some ⟨bs, 0, none⟩)]) hg trivial (enters_of Try.func15 (by kernel_rfl) rfl)
    (All1_stopsS 8 bs sp mb keep L w hK hbx hs hn) hKt hKb (Below.refl _ _) (fun _ => rfl)
    I (fun _ _ _ => False) hI (fun _ _ _ _ _ hs _ _ => hs) h0
    (fun (x : {x : Vx // x ∈ L}) (a' : Act) (W : World) => ∃ Bx, Blk W Bx x.1.cells.toArray 35 ∧ a' = { tmps := (a.tmps.setIfInBounds pS (.agg x.1.cells.toArray)).setIfInBounds bS (.pointer (some ⟨Bx, 0, none⟩)), defers := [] })
    ?ax ?assign ?body ?done ?stop
  case ax =>
    rintro x a' _ X Y row ⟨Bx, h2, h3⟩ hg hr
    exact ⟨Bx, h2.grown hg (fun e => by
      obtain ⟨_, o, ho, hc⟩ := hr Bx e.symm
      unfold Blk at h2
      rw [h2] at ho
      cases ho
      cases hc), h3⟩
  case assign =>
    intro l pre x W K hi hK
    refine wpIn_region_plain (.round l) (fun _ _ h => h) (by rfl) ?_
    rw [zip_oneR]
    refine wpList_allocZ rfl 35 rfl _ Try.zeroVx ?_
    intro wa sa ba na
    refine wpList_storeBlk rfl 35 (.tmp bS) (.tmp pS) rfl W.heap.size x.1.cells.toArray ?_ ?_ _ _ na (vx_sizeA x.1) (vx_hold _ _) (vx_all x.1) ?_
    · simp [Act.eval, Act.put, hb]
    · simp [Act.eval, Act.put, hp, hne, Ne.symm hne]
    intro wb nb gb
    have bb := below_new ba gb (Nat.le_refl _) ba.size
    exact hK _ _ (KeepsFrom.of_grownBy (below_grown bb none) (fun j e => by cases e)) (hKr _ _ bb) (hI pre W wb none hi (below_grown bb none) (fun r e => by cases e)) ⟨W.heap.size, nb, rfl⟩
  case body =>
    rintro l pre x a' W hl _ hi ⟨Bx, bX, rfl⟩ hlt
    exact hbody l pre x Bx W hi bX
  case done =>
    intro D xs W hD hS hi hK
    exact hdone D xs W hD hS hi hK
  case stop =>
    rintro D c pre W _ _ h _
    exact h.elim
end Go.Proofs.Ytodnmhflafpefaa
