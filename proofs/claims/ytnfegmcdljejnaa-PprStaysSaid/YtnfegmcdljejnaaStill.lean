/-
  A region that reads, calls quietly, and ends with one operation that writes: walked once, in the order of the text. No program here.
-/
import Derived.Test.YtnfegmcdljejnaaBase
import Derived.StillTail
import Derived.BigQuiet
set_option linter.unusedSimpArgs false
set_option linter.unusedVariables false
namespace Go.Proofs.Ytnfegmcdljejnaa
open Go.RowKit

theorem still_of_quiet {P : Program} {o : Oper} {a : Act} {W : World} {K : Act → Prop} (h : o.quiet P a (fun w' => w' = W) K) : o.still P a W K := by
  obtain ⟨v, hq, hk⟩ := h
  have h1 := hq W rfl
  unfold Oper.quietAt at h1
  unfold Oper.still
  generalize (execOp a.eval o).run P W = r at h1 ⊢
  unfold Oper.quietUpon at h1
  unfold Oper.stillUpon
  split at h1
  · obtain ⟨rfl, rfl⟩ := h1
    exact ⟨rfl, hk⟩
  · obtain ⟨rfl, rfl⟩ := h1
    exact ⟨rfl, hk⟩
  · obtain ⟨rfl, hc⟩ := h1
    exact ⟨rfl, v, hc, hk⟩
  · exact h1.elim
theorem wpStill_of_quiet {P : Program} {ops : Array Oper} {W : World} {Q : Act → Prop} : ∀ {l : List Oper} {a : Act}, wpQuiet P ops (fun w' => w' = W) Q l a → wpStill P ops W Q l a
  | [], _, h => h
  | o :: l, a, h => by
    unfold wpQuiet at h
    unfold wpStill
    split at h
    · rename_i hw
      rw [if_pos hw]
      obtain ⟨v, hq, hk⟩ := h
      exact still_of_quiet ⟨v, hq, wpStill_of_quiet hk⟩
    · rename_i hw
      rw [if_neg hw]
      exact wpStill_of_quiet h
theorem wp_still_store {P : Program} {id : Nat} {Q : Exit → Act → World → Prop} {a : Act} {w : World} {l : List Oper} (n : Nat) (hm : P.follows .mixedOrders = true) (hB : Region.lexTailB .any l.toArray n = true)
    (h : wpQuiet P l.toArray (fun w' => w' = w.drew) (fun a' => wpList P l.toArray Q (l.drop n) a' w.drew) (l.take n) a) : (Code.region id l.toArray true).wp P Q a w :=
  wp_region_still_tail n hm hB (wpStill_of_quiet h)
theorem still_calls {P : Program} {f : FuncId} {args : Array Value} {w : World} {v : Value}
    (h : Calls P f args w fun e w' => e = .returned v ∧ w = w') : Calls P f args w fun e w'' => e = .returned v ∧ w'' = w :=
  h.mono fun _ _ ⟨he, hm⟩ => ⟨he, hm.symm⟩
end Go.Proofs.Ytnfegmcdljejnaa
