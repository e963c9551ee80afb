/-
  A row of bytes in the midst of a block of bytes: loaded, stored. No program here.
-/
import Derived.Test.YtnfegmcdljejnaaLaws
import Derived.Test.YtnfegmcdljejnaaQuiet
import Derived.Great.FillDense
import Derived.Laws.Tables
import Derived.OrdersHeld
set_option linter.unusedSimpArgs false
set_option linter.unusedVariables false
namespace Go.Proofs.Ytnfegmcdljejnaa
open Go.RowKit

theorem blk_mid {w : World} {g : Nat} {l A v C : List UInt8} {t : TypeId} {off : Nat} (h : Blk w g (l.map bv).toArray t) (hl : l = A ++ (v ++ C)) (ho : A.length = off) : w.rangeAt g off (v.map bv) := by
  intro j u hj
  refine h.cell _ _ ?_
  have hlt : j < v.length := by simpa using (List.getElem?_eq_some_iff.1 hj).1
  rw [List.getElem?_toArray, hl, List.map_append, List.getElem?_append_right (by simp [ho]), List.length_map, ho, Nat.add_sub_cancel_left, List.map_append, List.getElem?_append_left (by simpa using hlt)]
  exact hj

/-- An operation under a guard that holds. -/
theorem wpList_if {P : Program} {ops : Array Oper} {rest : List Oper} {o : Oper} {a : Act} {w : World} {Q : Exit → Act → World → Prop} (hw : Region.wanted o (yielded ops a.tmps) = true) (h : o.wp P a w (wpList P ops Q rest) Q) : wpList P ops Q (o :: rest) a w := by
  rw [wpList, if_pos hw]
  exact .inl h

theorem wpList_loadMid {P : Program} {ops : Array Oper} {rest : List Oper} {o : Oper} {a : Act} {w : World} {Q : Exit → Act → World → Prop} (hgd : o.guard = none) (ty : TypeId) (x : Operand) (ho : o.op = .load ty x)
    (g off : Nat) (hx : a.eval x = .pointer (some ⟨g, off, none⟩)) (t : TypeId) (l A v C : List UInt8) (d : TypeDesc) (hg : Blk w g (l.map bv).toArray t) (hl : l = A ++ (v ++ C)) (hoff : A.length = off)
    (hu : P.underlying ty = some d) (hd : d.isRow = true) (hi : (P.info? ty).map (·.size) = some v.length)
    (h : wpList P ops Q rest (a.put o.dst (.agg (v.map bv).toArray)) w) : wpList P ops Q (o :: rest) a w :=
  wpList_load_mid hgd ty x ho g off hx (v.map bv) d (blk_mid hg hl hoff) hu hd (by rw [List.length_map]; exact hi) h

theorem run_store_mid {P : Program} {w : World} {g off : Nat} {ty t : TypeId} {l A v B C : List UInt8} (hg : Blk w g (l.map bv).toArray t) (hl : l = A ++ (B ++ C)) (hoff : A.length = off) (hB : B.length = v.length) (hi : (P.info? ty).map (·.size) = some v.length) :
    (storeVar ty ⟨g, off, none⟩ (.agg (v.map bv).toArray)).run P w = .ok () (w.setRow g ((A ++ (v ++ C)).map bv).toArray) := by
  have hfit : off + 0 + (v.map bv).length ≤ (l.map bv).toArray.size := by rw [hl]; simp; omega
  have h1 := run_storeCells_at (P := P) g off t (v.map bv) 0 (l.map bv).toArray w hg hfit (bv_one v)
  have e : ((l.map bv).toArray.toList.take (off + 0) ++ v.map bv ++ (l.map bv).toArray.toList.drop (off + 0 + (v.map bv).length)) = (A ++ (v ++ C)).map bv := by
    rw [hl]
    subst hoff
    have e1 : ((A ++ (B ++ C)).map bv).take (A.length + 0) = A.map bv := by
      rw [Nat.add_zero, List.map_append, show A.length = (A.map bv).length by simp, List.take_left]
    have e2 : ((A ++ (B ++ C)).map bv).drop (A.length + 0 + (v.map bv).length) = C.map bv := by
      rw [← List.append_assoc, List.map_append, show A.length + 0 + (v.map bv).length = ((A ++ B).map bv).length by simp [hB], List.drop_left]
    show List.take _ ((A ++ (B ++ C)).map bv) ++ _ ++ List.drop _ ((A ++ (B ++ C)).map bv) = _
    rw [e1, e2]
    simp
  rw [e] at h1
  cases hq : P.info? ty with
  | none => simp [hq] at hi
  | some i =>
    have hs : v.length = i.size := by simp [hq] at hi; omega
    simp [storeVar, sizeOf, typeInfo, hq, Value.cells, hs, h1]

theorem wp_storeBlk {P : Program} {o : Oper} {a : Act} {w : World} {K : Act → World → Prop} {Q : Exit → Act → World → Prop} (ty : TypeId) (x y : Operand) (ho : o.op = .store ty x y)
    (g : Nat) (cells : Array Value) (hx : a.eval x = .pointer (some ⟨g, 0, none⟩)) (hy : a.eval y = .agg cells)
    (t : TypeId) (old : Array Value) (hg : Blk w g old t) (hi : (P.info? ty).map (·.size) = some cells.size)
    (hold : old.size = cells.size) (h1 : cells.all (·.oneCell') = true)
    (h : ∀ w', Blk w' g cells t → w.grownBy w' (some g) → K (a.put o.dst undef) w') : o.wp P a w K Q :=
  wp_store_row ty x y ho g cells hx hy t old hg hi hold h1 (h _ (hg.setRow _) (grown_row _ _ _))

theorem wp_storeMid {P : Program} {o : Oper} {a : Act} {w : World} {K : Act → World → Prop} {Q : Exit → Act → World → Prop} (ty : TypeId) (x y : Operand) (ho : o.op = .store ty x y)
    (g off : Nat) (v : List UInt8) (hx : a.eval x = .pointer (some ⟨g, off, none⟩)) (hy : a.eval y = .agg (v.map bv).toArray) (t : TypeId) (l A B C : List UInt8) (hg : Blk w g (l.map bv).toArray t)
    (hl : l = A ++ (B ++ C)) (hoff : A.length = off) (hB : B.length = v.length) (hi : (P.info? ty).map (·.size) = some v.length)
    (h : ∀ w', Blk w' g ((A ++ (v ++ C)).map bv).toArray t → w.grownBy w' (some g) → K (a.put o.dst undef) w') : o.wp P a w K Q := by
  have hr := run_store_mid (P := P) hg hl hoff hB hi
  unfold Oper.wp execOp
  simp only [ho, hx, hy, Instr.storeAt, Instr.sureAddr, Sem.run_bind, Sem.run_pure, Result.andThen_ok, hr]
  exact h _ (hg.setRow _) (grown_row _ _ _)

theorem wpList_storeMid {P : Program} {ops : Array Oper} {rest : List Oper} {o : Oper} {a : Act} {w : World} {Q : Exit → Act → World → Prop} (hgd : o.guard = none) (ty : TypeId) (x y : Operand) (ho : o.op = .store ty x y)
    (g off : Nat) (v : List UInt8) (hx : a.eval x = .pointer (some ⟨g, off, none⟩)) (hy : a.eval y = .agg (v.map bv).toArray) (t : TypeId) (l A B C : List UInt8) (hg : Blk w g (l.map bv).toArray t)
    (hl : l = A ++ (B ++ C)) (hoff : A.length = off) (hB : B.length = v.length) (hi : (P.info? ty).map (·.size) = some v.length)
    (h : ∀ w', Blk w' g ((A ++ (v ++ C)).map bv).toArray t → w.grownBy w' (some g) → wpList P ops Q rest (a.put o.dst undef) w') : wpList P ops Q (o :: rest) a w := by
  refine wpList_plain hgd fun K hK => ?_
  have hr := run_store_mid (P := P) hg hl hoff hB hi
  unfold Oper.wp execOp
  simp only [ho, hx, hy, Instr.storeAt, Instr.sureAddr, Sem.run_bind, Sem.run_pure, Result.andThen_ok, hr]
  exact hK _ _ (h _ (hg.setRow _) (grown_row _ _ _))

/-- A row goes into the midst of a row: what 'fill' does with one part. -/
theorem fill_mid {place : Nat → Option (Nat × Nat)} {rest : List (Nat × Value)} {i : Nat} {l A B C v : List UInt8} (hl : l = A ++ (B ++ C)) (hp : place i = some (A.length, v.length)) (hB : B.length = v.length) :
    Instr.fill place (l.map bv).toArray ((i, .agg (v.map bv).toArray) :: rest) = Instr.fill place ((A ++ (v ++ C)).map bv).toArray rest := by
  subst hl
  have hF : Instr.fill place ((A ++ (B ++ C)).map bv).toArray ((i, .agg (v.map bv).toArray) :: rest) = Instr.fill place (Array.foldl (fun cs (x : Value × Nat) => cs.setIfInBounds (A.length + x.2) x.1) ((A ++ (B ++ C)).map bv).toArray ((v.map bv).toArray.zipIdx)) rest := by
    conv => lhs; rw [Instr.fill]
    rw [hp]
    dsimp only
    split
    · rename_i h
      simp [Value.cells] at h
      omega
    · rfl
  rw [hF]
  congr 1
  obtain ⟨h1, h2⟩ := Go.Great.foldl_set A.length (v.map bv) 0 ((A ++ (B ++ C)).map bv).toArray
  have e : (Array.foldl (fun cs (x : Value × Nat) => cs.setIfInBounds (A.length + x.2) x.1) ((A ++ (B ++ C)).map bv).toArray ((v.map bv).toArray.zipIdx)) = ((v.map bv).zipIdx 0).foldl (fun cs (x : Value × Nat) => cs.setIfInBounds (A.length + x.2) x.1) ((A ++ (B ++ C)).map bv).toArray := by
    rw [← Array.foldl_toList]
    simp
  refine e.trans ?_
  apply Array.ext_getElem?
  intro k
  rw [h2 k]
  simp only [List.getElem?_toArray, List.size_toArray, Nat.add_zero, List.length_map, List.map_append]
  by_cases hk1 : k < A.length
  · rw [if_neg (by omega), List.getElem?_append_left (by simpa using hk1), List.getElem?_append_left (by simpa using hk1)]
  · have hA : (A.map bv).length ≤ k := by simp; omega
    by_cases hk2 : k < A.length + v.length
    · rw [if_pos ⟨by omega, by omega, by simp; omega⟩, List.getElem?_append_right hA, List.length_map, List.getElem?_append_left (by simp; omega)]
    · rw [if_neg (by omega), List.getElem?_append_right (l₂ := B.map bv ++ C.map bv) hA, List.getElem?_append_right (l₂ := v.map bv ++ C.map bv) hA, List.length_map, List.getElem?_append_right (l₁ := B.map bv) (by simp; omega), List.getElem?_append_right (l₁ := v.map bv) (by simp; omega)]
      simp [hB]

theorem built_struct {P : Program} {t : TypeId} {parts : List (Nat × Value)} {fields : Array Field} {z : Value} {places : List (Nat × Nat)} (hz : (P.info? t).bind (·.zero) = some z) (hu : P.underlying t = some (.struct fields))
    (hp : fields.toList.mapM (fun f => (P.info? f.type).map fun i => (f.offset, i.size)) = some places) : P.built t parts = Instr.fill (places.toArray[·]?) z.cells parts := by
  unfold Program.built
  cases hi : P.info? t with
  | none => simp [hi] at hz
  | some it =>
    have hz' : it.zero = some z := by simpa [hi] using hz
    simp only [hu, hz', hp]

theorem wp_buildCells {P : Program} {o : Oper} {a : Act} {w : World} {K : Act → World → Prop} {Q : Exit → Act → World → Prop} (t : TypeId) (parts : Array (Nat × Operand)) (ho : o.op = .build t parts) (cells : Array Value)
    (hf : P.built t (parts.toList.map fun (p : Nat × Operand) => (p.1, a.eval p.2)) = some cells) (h : K (a.put o.dst (.agg cells)) w) : o.wp P a w K Q :=
  have hf' : P.built t (parts.map fun (i, x) => (i, a.eval x)).toList = some cells := by rw [Array.toList_map]; exact hf
  wp_build t parts ho (by rw [hf']; rfl) (by rw [hf']; exact h)
theorem wpList_buildCells {P : Program} {ops : Array Oper} {rest : List Oper} {o : Oper} {a : Act} {w : World} {Q : Exit → Act → World → Prop} (hg : o.guard = none) (t : TypeId) (parts : Array (Nat × Operand)) (ho : o.op = .build t parts) (cells : Array Value)
    (hf : P.built t (parts.toList.map fun (p : Nat × Operand) => (p.1, a.eval p.2)) = some cells) (h : wpList P ops Q rest (a.put o.dst (.agg cells)) w) : wpList P ops Q (o :: rest) a w :=
  wpList_plain hg fun _ hK => wp_buildCells t parts ho cells hf (hK _ _ h)
theorem yieldsIf_build {P : Program} {ops : Array Oper} {S : World → Prop} {op : Oper} {a : Act} (hw : Region.wanted op (yielded ops a.tmps) = true) (t : TypeId) (parts : Array (Nat × Operand)) (ho : op.op = .build t parts) (cells : Array Value)
    (hf : P.built t (parts.toList.map fun (p : Nat × Operand) => (p.1, a.eval p.2)) = some cells) : YieldsIf P ops S op (.agg cells) a :=
  .inl ⟨hw, fun w _ => by
    have hf' : P.built t (parts.map fun (i, x) => (i, a.eval x)).toList = some cells := by rw [Array.toList_map]; exact hf
    unfold execOp
    simp only [ho, Sem.run_bind, run_build w t _ cells hf', Result.andThen_ok, Sem.run_pure]⟩
end Go.Proofs.Ytnfegmcdljejnaa
