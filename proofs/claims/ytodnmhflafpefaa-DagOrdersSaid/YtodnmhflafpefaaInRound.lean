/-
  Plain laws inside a round of a range over a function (at the wide fence): an operation, a region.
-/
import Derived.RangeFuncNested
import Derived.RangeFuncCalls
import Derived.OrdersIn
import Derived.TacticsIn
import Derived.OrdersHeld
import Derived.Deep.RegionHeld
set_option linter.unusedSimpArgs false
set_option linter.unusedVariables false
namespace Go.Proofs.Ytodnmhflafpefaa
open Go.RowKit

/-- The wide fence, or a round within it. -/
def Wideish (F : Fence) : Prop := F = Fence.wide ∨ ∃ l, F = Fence.wide.inRound l
theorem Wideish.wide : Wideish Fence.wide := .inl rfl
theorem Wideish.round (l : Nat) : Wideish (Fence.wide.inRound l) := .inr ⟨l, rfl⟩
section
variable {F : Fence} {n : Nat} {P : Program} {Q : Exit → Act → World → Prop} {ops : Array Oper}
theorem Wideish.fn (hF : Wideish F) (f : FuncId) : F.fn f := by
  rcases hF with rfl | ⟨l, rfl⟩ <;> trivial
theorem Wideish.depth (hF : Wideish F) : F.depth = none := by
  rcases hF with rfl | ⟨l, rfl⟩ <;> rfl
theorem calls_in (hF : Wideish F) {f : FuncId} {args : Array Value} {w : World} {R : Ending → World → Prop} (h : Calls P f args w R) : CallsIn F n P f args w R := by
  rcases hF with rfl | ⟨l, rfl⟩
  · exact callsIn_wide.2 h
  · exact CallsIn.inRound l (callsIn_wide.2 h)
theorem rows_wide {row : String} {args : Array Value} {w : World} {R : Value → World → Prop} (h : Rows P row args w R) : RowsIn Fence.wide n P row args w R :=
  fun c cs _ => let ⟨v, w', r, s⟩ := h c cs; ⟨v, w', r, stepsIn_wide.2 s⟩
theorem rows_in (hF : Wideish F) {row : String} {args : Array Value} {w : World} {R : Value → World → Prop} (h : Rows P row args w R) : RowsIn F n P row args w R := by
  rcases hF with rfl | ⟨l, rfl⟩
  · exact rows_wide h
  · exact (rows_wide h : RowsIn Fence.wide n P row args w R)
theorem upon_in (hF : Wideish F) {o : Oper} {a : Act} {K K' : Act → World → Prop} (hK : ∀ a w, K a w → K' a w) (hQ : ∀ a w, ¬ Q .outgrown a w) {r : Result Next} (h : o.upon P a K Q r) : o.uponIn F n P a K' Q r := by
  have hd : F.depth.isSome = true → 1 ≤ n := fun e => by rw [hF.depth] at e; cases e
  unfold Oper.upon at h
  split at h
  · exact hK _ _ h
  · exact hK _ _ h
  · exact hK _ _ h
  · refine ⟨hd, (calls_in hF h).mono fun e w' h' => ?_⟩
    cases e with
    | returned v => exact hK _ _ h'
    | panicked chain => exact h'
    | outgrown => exact h'
  · exact ⟨hd, (rows_in hF h).mono fun v w' h' => hK _ _ h'⟩
  · exact h
  · exact h.elim
def notDefer (o : Oper) : Bool := match o.op with | .defer _ => false | _ => true
theorem notDefer.ne {o : Oper} (h : notDefer o = true) : ∀ c, o.op ≠ .defer c := fun c e => by rw [notDefer, e] at h; cases h
theorem oper_in (hF : Wideish F) {o : Oper} (hd : notDefer o = true) {a : Act} {w : World} {K K' : Act → World → Prop} (hK : ∀ a w, K a w → K' a w) (hQ : ∀ a w, ¬ Q .outgrown a w) (h : o.wp P a w K Q) : o.wpIn F n P a w K' Q := by
  refine ⟨fun f _ => hF.fn f, ?_⟩
  rw [Oper.semAt_eq _ _ _ (notDefer.ne hd)]
  exact upon_in hF hK hQ h
theorem wpListIn_of_wp (hF : Wideish F) {o : Oper} {rest : List Oper} {a : Act} {w : World} (hw : Region.wanted o (yielded ops a.tmps) = true) (hd : notDefer o = true) (hQ : ∀ a w, ¬ Q .outgrown a w) (h : o.wp P a w (wpListIn F n P ops Q rest) Q) : wpListIn F n P ops Q (o :: rest) a w := by
  rw [wpListIn, if_pos hw]
  exact oper_in hF hd (fun _ _ h => h) hQ h
theorem wpList_in (hF : Wideish F) (hQ : ∀ a w, ¬ Q .outgrown a w) : ∀ (l : List Oper), l.all notDefer = true → ∀ {a : Act} {w : World}, wpList P ops Q l a w → wpListIn F n P ops Q l a w
  | [], _, _, _, h => h
  | o :: rest, hd, a, w, h => by
    rw [List.all_cons, Bool.and_eq_true] at hd
    rw [wpList] at h
    rw [wpListIn]
    by_cases hw : Region.wanted o (yielded ops a.tmps) = true
    · rw [if_pos hw] at h ⊢
      rcases h with h | ⟨_, a', w', h⟩
      · exact oper_in hF hd.1 (fun _ _ h => wpList_in hF hQ rest hd.2 h) hQ h
      · exact absurd h (hQ a' w')
    · rw [if_neg hw] at h ⊢
      exact ⟨fun f _ => hF.fn f, wpList_in hF hQ rest hd.2 h⟩
/-- A plain region in a round. -/
theorem wpIn_region_plain (hF : Wideish F) {id : Nat} {l : List Oper} {a : Act} {w : World} (hQ : ∀ a w, ¬ Q .outgrown a w) (hd : l.all notDefer = true) (h : wpList P l.toArray Q l a w) : (Code.region id l.toArray false).wpIn F n P Q a w :=
  wpIn_region_lit (wpList_in hF hQ l hd h)
theorem wpOp_in (hF : Wideish F) (hQ : ∀ a w, ¬ Q .outgrown a w) (hd : ops.toList.all notDefer = true) {i : Nat} {K K' : Act → World → Prop} (hK : ∀ a w, K a w → K' a w) {a : Act} {w : World} (h : wpOp P ops Q i K a w) : wpOpIn F n P ops Q i K' a w := by
  unfold wpOp at h
  unfold wpOpIn
  cases hi : ops[i]? with
  | none => rw [hi] at h; exact hK _ _ h
  | some o =>
    rw [hi] at h
    have ho : notDefer o = true := List.all_eq_true.1 hd o (by
      have := Array.mem_of_getElem? hi
      simpa using this)
    simp only at h ⊢
    by_cases hw : Region.wanted o (yielded ops a.tmps) = true
    · rw [if_pos hw] at h ⊢
      rcases h with h | ⟨_, a', w', h⟩
      · exact oper_in hF ho hK hQ h
      · exact absurd h (hQ a' w')
    · rw [if_neg hw] at h ⊢
      exact ⟨fun f _ => hF.fn f, hK _ _ h⟩
theorem wpAny_in (hF : Wideish F) (hQ : ∀ a w, ¬ Q .outgrown a w) (hd : ops.toList.all notDefer = true) {md : Region.Mode} : ∀ (fuel : Nat) (listed : Array Bool) (a : Act) (w : World), wpAny P md ops Q fuel listed a w → wpAnyIn F n P md ops Q fuel listed a w
  | 0, _, _, _, h => h
  | fuel + 1, listed, a, w, h => ⟨h.1, fun i hi => wpOp_in hF hQ hd (fun a w h => wpAny_in hF hQ hd fuel _ a w h) (h.2 i hi)⟩
/-- A drawn region in a round. -/
theorem wpIn_region_held_drew (hF : Wideish F) {S : World → Prop} {id : Nat} {a : Act} {w : World} (hQ : ∀ a w, ¬ Q .outgrown a w) (hd : ops.toList.all notDefer = true) (hm : P.follows .mixedOrders = true) (hS : S w.drew)
    (h : S w.drew → wpAnyH P .any ops Q S ops.size (Array.replicate ops.size false) a w.drew) : (Code.region id ops true).wpIn F n P Q a w :=
  wpIn_region_any hm (wpAny_in hF hQ hd _ _ _ _ (wpAny_of_held _ _ _ _ (h hS)))
end
end Go.Proofs.Ytodnmhflafpefaa
