/-
  Small laws for walks that box and store.
-/
import Derived.Test.YtjlpdbaknhbgdaaKit0
set_option linter.unusedSimpArgs false
set_option linter.unusedVariables false
namespace Go.Proofs.Ytjlpdbaknhbgdaa
open Go.RowKit
theorem wpList_allocZ {P : Program} {ops : Array Oper} {rest : List Oper} {o : Oper} {a : Act} {w : World} {Q : Exit → Act → World → Prop} (hg : o.guard = none) (ty : TypeId) (ho : o.op = .alloc ty)
    (cs : Array Value) (hz : (P.info? ty).bind (·.zero) = some (.agg cs)) (h : ∀ w', w'.heap.size = w.heap.size + 1 → Below w.heap.size w w' → Blk w' w.heap.size cs ty → wpList P ops Q rest (a.put o.dst (.pointer (some ⟨w.heap.size, 0, none⟩))) w') : wpList P ops Q (o :: rest) a w := by
  refine wpList_plain hg fun _ hK => wp_allocZ ty ho cs hz ?_
  intro g w' hg2 hs hb hk
  subst hg2
  exact hK _ _ (h w' hs hb hk)
theorem blk_rangeP {w : World} {b : Nat} {cs : List Value} {t : TypeId} (h : Blk w b cs.toArray t) : w.rangeAt b 0 cs := fun j v hj => by
  rw [Nat.zero_add]
  exact h.cell j v (by rw [List.getElem?_toArray]; exact hj)
theorem run_storeV {P : Program} {w : World} {g off : Nat} {ty t : TypeId} {cs A B C vs : List Value} {u : Value} (hg : Blk w g cs.toArray t) (hl : cs = A ++ (B ++ C)) (hoff : A.length = off) (hB : B.length = vs.length) (hu : u.cells = vs.toArray) (h1 : ∀ x ∈ vs, x.oneCell' = true) (hi : (P.info? ty).map (·.size) = some vs.length) :
    (storeVar ty ⟨g, off, none⟩ u).run P w = .ok () (w.setRow g (A ++ (vs ++ C)).toArray) := by
  have hfit : off + 0 + vs.length ≤ cs.toArray.size := by rw [hl]; simp; omega
  have hr := run_storeCells_at (P := P) g off t vs 0 cs.toArray w hg hfit h1
  have e : (cs.toArray.toList.take (off + 0) ++ vs ++ cs.toArray.toList.drop (off + 0 + vs.length)) = A ++ (vs ++ C) := by
    rw [hl]
    subst hoff
    have e1 : (A ++ (B ++ C)).take (A.length + 0) = A := by rw [Nat.add_zero, List.take_left]
    have e2 : (A ++ (B ++ C)).drop (A.length + 0 + vs.length) = C := by
      rw [← List.append_assoc, show A.length + 0 + vs.length = (A ++ B).length by simp [hB], List.drop_left]
    show List.take _ (A ++ (B ++ C)) ++ _ ++ List.drop _ (A ++ (B ++ C)) = _
    rw [e1, e2]
    simp
  rw [e] at hr
  cases hq : P.info? ty with
  | none => simp [hq] at hi
  | some it =>
    have hs1 : it.size = vs.length := by simpa [hq] using hi
    simp [storeVar, sizeOf, typeInfo, hq, hu, hs1, hr]
theorem wpList_storeV {P : Program} {ops : Array Oper} {rest : List Oper} {o : Oper} {a : Act} {w : World} {Q : Exit → Act → World → Prop} (hgd : o.guard = none) (ty : TypeId) (x y : Operand) (ho : o.op = .store ty x y)
    (g off : Nat) (u : Value) (hx : a.eval x = .pointer (some ⟨g, off, none⟩)) (hy : a.eval y = u) (t : TypeId) (cs A B C vs : List Value) (hg : Blk w g cs.toArray t) (hl : cs = A ++ (B ++ C)) (hoff : A.length = off) (hB : B.length = vs.length) (hu : u.cells = vs.toArray) (h1 : ∀ x ∈ vs, x.oneCell' = true) (hi : (P.info? ty).map (·.size) = some vs.length)
    (h : ∀ w', Blk w' g (A ++ (vs ++ C)).toArray t → w.grownBy w' (some g) → wpList P ops Q rest (a.put o.dst undef) w') : wpList P ops Q (o :: rest) a w := by
  refine wpList_plain hgd fun K hK => ?_
  have hr := run_storeV (P := P) hg hl hoff hB hu h1 hi
  unfold Oper.wp execOp
  simp only [ho, hx, hy, Instr.storeAt, Instr.sureAddr, Sem.run_bind, Sem.run_pure, Result.andThen_ok, hr]
  exact hK _ _ (h _ (hg.setRow _) (grown_row _ _ _))
theorem wp_storeV {P : Program} {o : Oper} {a : Act} {w : World} {K : Act → World → Prop} {Q : Exit → Act → World → Prop} (ty : TypeId) (x y : Operand) (ho : o.op = .store ty x y)
    (g off : Nat) (u : Value) (hx : a.eval x = .pointer (some ⟨g, off, none⟩)) (hy : a.eval y = u) (t : TypeId) (cs A B C vs : List Value) (hg : Blk w g cs.toArray t) (hl : cs = A ++ (B ++ C)) (hoff : A.length = off) (hB : B.length = vs.length) (hu : u.cells = vs.toArray) (h1 : ∀ x ∈ vs, x.oneCell' = true) (hi : (P.info? ty).map (·.size) = some vs.length)
    (h : ∀ w', Blk w' g (A ++ (vs ++ C)).toArray t → w.grownBy w' (some g) → K (a.put o.dst undef) w') : o.wp P a w K Q := by
  have hr := run_storeV (P := P) hg hl hoff hB hu h1 hi
  unfold Oper.wp execOp
  simp only [ho, hx, hy, Instr.storeAt, Instr.sureAddr, Sem.run_bind, Sem.run_pure, Result.andThen_ok, hr]
  exact h _ (hg.setRow _) (grown_row _ _ _)
theorem run_load1 {P : Program} {w : World} {b o : Nat} {ty : TypeId} {v : Value} {d : TypeDesc} (hc : w.cell? ⟨b, o, none⟩ = some v) (hu : P.underlying ty = some d) (hd : d.isRow = false) : (loadVar ty ⟨b, o, none⟩).run P w = .ok v w := by
  have hagg : (isAgg ty).run P w = .ok false w := by
    unfold isAgg
    rw [Sem.run_bind, run_underlying hu w]
    cases d <;> simp_all
  simp [loadVar, Sem.run_bind, hagg, hc]
theorem wp_load1 {P : Program} {o : Oper} {a : Act} {w : World} {K : Act → World → Prop} {Q : Exit → Act → World → Prop} (ty : TypeId) (x : Operand) (ho : o.op = .load ty x) (b off : Nat) (hx : a.eval x = .pointer (some ⟨b, off, none⟩)) (v : Value) (d : TypeDesc)
    (hc : w.cell? ⟨b, off, none⟩ = some v) (hu : P.underlying ty = some d) (hd : d.isRow = false) (h : K (a.put o.dst v) w) : o.wp P a w K Q := by
  unfold Oper.wp execOp
  simp only [ho, hx, Instr.loadAt, Instr.sureAddr, Sem.run_bind, Sem.run_pure, Result.andThen_ok, run_load1 (P := P) hc hu hd]
  exact h
/-- A variable of one cell is read. -/
theorem wpList_load1 {P : Program} {ops : Array Oper} {rest : List Oper} {o : Oper} {a : Act} {w : World} {Q : Exit → Act → World → Prop} (hgd : o.guard = none) (ty : TypeId) (x : Operand) (ho : o.op = .load ty x) (b off : Nat) (hx : a.eval x = .pointer (some ⟨b, off, none⟩)) (v : Value) (d : TypeDesc)
    (hc : w.cell? ⟨b, off, none⟩ = some v) (hu : P.underlying ty = some d) (hd : d.isRow = false) (h : wpList P ops Q rest (a.put o.dst v) w) : wpList P ops Q (o :: rest) a w :=
  wpList_plain hgd fun _ hK => wp_load1 ty x ho b off hx v d hc hu hd (hK _ _ h)
theorem blk_cell0 {w : World} {b : Nat} {v : Value} {l : List Value} {t : TypeId} (h : Blk w b (v :: l).toArray t) : w.cell? ⟨b, 0, none⟩ = some v := h.cell 0 v rfl
end Go.Proofs.Ytjlpdbaknhbgdaa
