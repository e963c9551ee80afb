/-
  Arrays of bytes that are filled from the front; slices of strings. No program here.
-/
import Derived.Test.YtnfegmcdljejnaaLaws
set_option linter.unusedSimpArgs false
set_option linter.unusedVariables false
namespace Go.Proofs.Ytnfegmcdljejnaa
open Go.RowKit

abbrev Z32 : Array Value := #[.int .u8 0, .int .u8 0, .int .u8 0, .int .u8 0, .int .u8 0, .int .u8 0, .int .u8 0, .int .u8 0, .int .u8 0, .int .u8 0, .int .u8 0, .int .u8 0, .int .u8 0, .int .u8 0, .int .u8 0, .int .u8 0, .int .u8 0, .int .u8 0, .int .u8 0, .int .u8 0, .int .u8 0, .int .u8 0, .int .u8 0, .int .u8 0, .int .u8 0, .int .u8 0, .int .u8 0, .int .u8 0, .int .u8 0, .int .u8 0, .int .u8 0, .int .u8 0]
theorem Z32_eq : Z32 = ((List.replicate 32 (0 : UInt8)).map bv).toArray := rfl
theorem Z32_size : Z32.size = 32 := rfl
theorem Z32_all : Z32.all (·.oneCell') = true := by rw [Z32_eq]; exact bv_all _

/-- An array of n bytes of which the first k are those of x. -/
def fillB (n k : Nat) (x : List UInt8) : Array Value := ((x.take k ++ List.replicate (n - k) 0).map bv).toArray
theorem fillB_size (n k : Nat) (x : List UInt8) (hk : k ≤ x.length) (hn : k ≤ n) : (fillB n k x).size = n := by
  simp [fillB]; omega
theorem fillB_set (n k : Nat) (x : List UInt8) (hk : k < x.length) (hn : k < n) : (fillB n k x).setIfInBounds k (bv x[k]) = fillB n (k + 1) x := by
  unfold fillB
  rw [List.setIfInBounds_toArray]
  congr 1
  rw [show n - k = (n - (k + 1)) + 1 by omega, List.replicate_succ, List.take_succ_eq_append_getElem hk, List.append_assoc, List.map_append, List.map_append (l₁ := x.take k), List.map_cons, List.set_append_right _ _ (by simp; omega), List.length_map, List.length_take, Nat.min_eq_left (by omega), Nat.sub_self, List.set_cons_zero]
  rfl
theorem fillB_get (n k : Nat) (x : List UInt8) (hk : k ≤ x.length) (hn : k < n) : (fillB n k x)[k]? = some (bv 0) := by
  unfold fillB
  rw [show n - k = (n - (k + 1)) + 1 by omega, List.replicate_succ, List.map_append, List.map_cons, List.getElem?_toArray, List.getElem?_append_right (by simp; omega)]
  rw [List.length_map, List.length_take, Nat.min_eq_left hk, Nat.sub_self]
  rfl
theorem fillB_all (n : Nat) (x : List UInt8) (h : x.length = n) : fillB n n x = (x.map bv).toArray := by
  unfold fillB; rw [List.take_of_length_le (by omega), Nat.sub_self]; simp
theorem fillB_bv (n k : Nat) (x : List UInt8) : (fillB n k x).all (·.oneCell') = true := bv_all _

/-- The strings of a slice, at their places. -/
def StrsAt (w : World) (ao : Option Addr) (len : Nat) (ps : List (List UInt8)) : Prop :=
  ps.length = len ∧ (len = 0 ∨ ∃ b off, ao = some ⟨b, off, none⟩ ∧ b < w.heap.size ∧ ∀ i (hi : i < ps.length), w.cell? ⟨b, off + i, none⟩ = some (.string (str ps[i])))
theorem StrsAt.below {w w' : World} {ao : Option Addr} {len : Nat} {ps : List (List UInt8)} (h : StrsAt w ao len ps) (hb : Below w.heap.size w w') : StrsAt w' ao len ps := by
  refine ⟨h.1, ?_⟩
  rcases h.2 with h0 | ⟨b, off, rfl, hlt, hc⟩
  · exact .inl h0
  · right
    exact ⟨b, off, rfl, Nat.lt_of_lt_of_le hlt hb.size, fun i hi => (hb.cell (p := ⟨b, off + i, none⟩) hlt).trans (hc i hi)⟩
/-- A slice over the whole of a block of strings. -/
theorem StrsAt.blk {w : World} {b : Nat} {t : TypeId} (ps : List (List UInt8)) (h : Blk w b (ps.map fun s => Value.string (str s)).toArray t) : StrsAt w (some ⟨b, 0, none⟩) ps.length ps := by
  refine ⟨rfl, .inr ⟨b, 0, rfl, h.lt, fun i hi => ?_⟩⟩
  rw [Nat.zero_add]
  exact h.cell i _ (by rw [List.getElem?_toArray, List.getElem?_map, List.getElem?_eq_getElem hi]; rfl)
end Go.Proofs.Ytnfegmcdljejnaa
