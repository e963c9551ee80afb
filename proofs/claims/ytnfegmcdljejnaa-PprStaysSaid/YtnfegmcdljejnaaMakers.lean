/-
  Makers of memory in a region that draws its order: the new block and the new world get names. No program here.
-/
import Derived.Test.YtnfegmcdljejnaaMid
import Derived.Test.YtnfegmcdljejnaaFill
import Derived.Great.BuildSlice
set_option linter.unusedSimpArgs false
set_option linter.unusedVariables false
namespace Go.Proofs.Ytnfegmcdljejnaa
open Go.RowKit

theorem below_alloc1 (w : World) (o : Obj) : Below w.heap.size w (w.alloc o) := (Below.refl _ _).alloc (Nat.le_refl _) _

/-- A row of its own stays behind calls that only make memory. -/
theorem own_below {w w' : World} {base : Nat} {e : TypeId} {size n : Nat} {v : Value} {xs : List Value} (h : w.ownsRow base e size v n xs) (b : Below w.heap.size w w') : w'.ownsRow base e size v n xs :=
  h.kept (below_grown b none) (by
    cases hv : v.ownBlock with
    | none => exact .inl rfl
    | some g => exact .inr (by simp))

/-- A slice literal of one array of 32 bytes. -/
theorem wp_bs32 {P : Program} {o : Oper} {a : Act} {w : World} {K : Act → World → Prop} {Q : Exit → Act → World → Prop} (t e : TypeId) (x : Operand) (ho : o.op = .buildSlice t 1 #[(0, x)])
    (l : List UInt8) (hl : l.length = 32) (hx : a.eval x = .agg (l.map bv).toArray) (hu : P.underlying t = some (.slice e)) (hz : (P.info? e).map (fun i => (i.zero, i.size)) = some (some (.agg Z32), 32))
    (h : ∀ g w', g = w.heap.size → w'.heap.size = g + 1 → Below w.heap.size w w' → Blk w' g (l.map bv).toArray e → K (a.put o.dst (.slice (some ⟨g, 0, none⟩) 1 1)) w') : o.wp P a w K Q := by
  cases hi : P.info? e with
  | none => simp [hi] at hz
  | some ie =>
    simp [hi] at hz
    obtain ⟨hz1, hz2⟩ := hz
    refine Go.wp_buildSlice t e 1 #[(0, x)] ho (l.map bv).toArray ie (.agg Z32) hu hi hz1 (by rw [hz2]; decide) (by rw [hz2]; decide) ?_ (h _ _ rfl (by simp) (below_alloc1 _ _) (Blk.new _ _ _))
    have e1 : (Array.range (1 * ie.size)).map ((Value.agg Z32).cells[· % (Value.agg Z32).cells.size]!) = ((List.replicate 32 (0 : UInt8)).map bv).toArray := by rw [hz2]; kernel_rfl
    rw [e1, show (#[(0, x)].map fun (i, x) => (i, a.eval x)).toList = [(0, .agg (l.map bv).toArray)] by simp [hx]]
    rw [fill_mid (A := []) (B := List.replicate 32 0) (C := []) (v := l) (by simp) (by simp [hz2, hl]) (by simp [hl])]
    simp [Instr.fill]

/-- A slice literal of two arrays of 32 bytes. -/
theorem wp_bs64 {P : Program} {o : Oper} {a : Act} {w : World} {K : Act → World → Prop} {Q : Exit → Act → World → Prop} (t e : TypeId) (x y : Operand) (ho : o.op = .buildSlice t 2 #[(0, x), (1, y)])
    (l r : List UInt8) (hl : l.length = 32) (hr : r.length = 32) (hx : a.eval x = .agg (l.map bv).toArray) (hy : a.eval y = .agg (r.map bv).toArray) (hu : P.underlying t = some (.slice e)) (hz : (P.info? e).map (fun i => (i.zero, i.size)) = some (some (.agg Z32), 32))
    (h : K (a.put o.dst (.slice (some ⟨w.heap.size, 0, none⟩) 2 2)) (w.alloc (.cells ((l ++ r).map bv).toArray e))) : o.wp P a w K Q := by
  cases hi : P.info? e with
  | none => simp [hi] at hz
  | some ie =>
    simp [hi] at hz
    obtain ⟨hz1, hz2⟩ := hz
    refine Go.wp_buildSlice t e 2 #[(0, x), (1, y)] ho ((l ++ r).map bv).toArray ie (.agg Z32) hu hi hz1 (by rw [hz2]; decide) (by rw [hz2]; decide) ?_ h
    have e1 : (Array.range (2 * ie.size)).map ((Value.agg Z32).cells[· % (Value.agg Z32).cells.size]!) = ((List.replicate 32 (0 : UInt8) ++ List.replicate 32 0).map bv).toArray := by rw [hz2]; kernel_rfl
    rw [e1, show (#[(0, x), (1, y)].map fun (i, x) => (i, a.eval x)).toList = [(0, .agg (l.map bv).toArray), (1, .agg (r.map bv).toArray)] by simp [hx, hy]]
    rw [fill_mid (A := []) (B := List.replicate 32 0) (C := List.replicate 32 0) (v := l) (by simp) (by simp [hz2, hl]) (by simp [hl])]
    rw [fill_mid (A := l) (B := List.replicate 32 0) (C := []) (v := r) (by simp) (by simp [hz2, hl, hr]) (by simp [hr])]
    simp [Instr.fill]
theorem wpList_bs64 {P : Program} {ops : Array Oper} {rest : List Oper} {o : Oper} {a : Act} {w : World} {Q : Exit → Act → World → Prop} (hg : o.guard = none) (t e : TypeId) (x y : Operand) (ho : o.op = .buildSlice t 2 #[(0, x), (1, y)])
    (l r : List UInt8) (hl : l.length = 32) (hr : r.length = 32) (hx : a.eval x = .agg (l.map bv).toArray) (hy : a.eval y = .agg (r.map bv).toArray) (hu : P.underlying t = some (.slice e)) (hz : (P.info? e).map (fun i => (i.zero, i.size)) = some (some (.agg Z32), 32))
    (h : wpList P ops Q rest (a.put o.dst (.slice (some ⟨w.heap.size, 0, none⟩) 2 2)) (w.alloc (.cells ((l ++ r).map bv).toArray e))) : wpList P ops Q (o :: rest) a w :=
  wpList_plain hg fun _ hK => wp_bs64 t e x y ho l r hl hr hx hy hu hz (hK _ _ h)

/-- A slice literal of strings. -/
theorem wp_bsStr {P : Program} {o : Oper} {a : Act} {w : World} {K : Act → World → Prop} {Q : Exit → Act → World → Prop} (t e : TypeId) (x : Operand) (ho : o.op = .buildSlice t 1 #[(0, x)])
    (s : ByteArray) (hx : a.eval x = .string s) (hu : P.underlying t = some (.slice e)) (z : ByteArray) (hz : (P.info? e).map (fun i => (i.zero, i.size)) = some (some (.string z), 1))
    (h : ∀ g w', g = w.heap.size → w'.heap.size = g + 1 → Below w.heap.size w w' → Blk w' g #[.string s] e → K (a.put o.dst (.slice (some ⟨g, 0, none⟩) 1 1)) w') : o.wp P a w K Q := by
  cases hi : P.info? e with
  | none => simp [hi] at hz
  | some ie =>
    simp [hi] at hz
    obtain ⟨hz1, hz2⟩ := hz
    refine Go.wp_buildSlice t e 1 #[(0, x)] ho #[.string s] ie (.string z) hu hi hz1 (by rw [hz2]; decide) (by rw [hz2]; decide) ?_ (h _ _ rfl (by simp) (below_alloc1 _ _) (Blk.new _ _ _))
    rw [hz2, show (#[(0, x)].map fun (i, x) => (i, a.eval x)).toList = [(0, .string s)] by simp [hx]]
    rw [show (Array.range (1 * 1)).map ((Value.string z).cells[· % (Value.string z).cells.size]!) = #[.string z] by kernel_rfl]
    simp [Instr.fill, Value.cells]

/-- A new variable. -/
theorem wp_allocZ {P : Program} {o : Oper} {a : Act} {w : World} {K : Act → World → Prop} {Q : Exit → Act → World → Prop} (t : TypeId) (ho : o.op = .alloc t) (Z : Array Value) (hz : (P.info? t).bind (·.zero) = some (.agg Z))
    (h : ∀ g w', g = w.heap.size → w'.heap.size = g + 1 → Below w.heap.size w w' → Blk w' g Z t → K (a.put o.dst (.pointer (some ⟨g, 0, none⟩))) w') : o.wp P a w K Q := by
  cases hi : P.info? t with
  | none => simp [hi] at hz
  | some it =>
    have hz1 : it.zero = some (.agg Z) := by simpa [hi] using hz
    unfold Oper.wp execOp
    simp [ho, Instr.alloc, zeroValue, typeInfo, hi, hz1, newVar, newRow, Value.cells, Result.andThen]
    exact h _ _ rfl (by simp) (below_alloc1 _ _) (Blk.new _ _ _)
end Go.Proofs.Ytnfegmcdljejnaa
