/-
  A row of one's own, written in place: one element set, the tail cleared. Elements of any size, told by their cells.
-/
import Derived.Test.YtodnmhflafpefaaKit0
import Derived.Laws.AppendOwn
import Derived.Laws.CopyRow
set_option linter.unusedSimpArgs false
set_option linter.unusedVariables false
namespace Go.Proofs.Ytodnmhflafpefaa
open Go.RowKit

theorem flat_len {α : Type} {cells : α → List Value} {size : Nat} : ∀ (l : List α), (∀ x ∈ l, (cells x).length = size) → (l.flatMap cells).length = l.length * size
  | [], _ => by simp
  | x :: l, h => by rw [List.flatMap_cons, List.length_append, h x List.mem_cons_self, flat_len l (fun y hy => h y (List.mem_cons_of_mem _ hy)), List.length_cons, Nat.succ_mul]; omega
theorem flat_take {α : Type} {cells : α → List Value} {size : Nat} (l : List α) (hl : ∀ x ∈ l, (cells x).length = size) (k : Nat) (hk : k ≤ l.length) : (l.take k).flatMap cells = (l.flatMap cells).take (k * size) := by
  have e0 : l.flatMap cells = (l.take k).flatMap cells ++ (l.drop k).flatMap cells := by rw [← List.flatMap_append, List.take_append_drop]
  have e : ((l.take k).flatMap cells).length = k * size := by rw [flat_len _ (fun x hx => hl x (List.mem_of_mem_take hx)), List.length_take, Nat.min_eq_left hk]
  rw [e0, List.take_append_of_le_length (by omega)]
  exact (List.take_of_length_le (by omega)).symm
theorem flat_drop {α : Type} {cells : α → List Value} {size : Nat} (l : List α) (hl : ∀ x ∈ l, (cells x).length = size) (k : Nat) (hk : k ≤ l.length) : (l.drop k).flatMap cells = (l.flatMap cells).drop (k * size) := by
  have e0 : l.flatMap cells = (l.take k).flatMap cells ++ (l.drop k).flatMap cells := by rw [← List.flatMap_append, List.take_append_drop]
  have e : ((l.take k).flatMap cells).length = k * size := by rw [flat_len _ (fun x hx => hl x (List.mem_of_mem_take hx)), List.length_take, Nat.min_eq_left hk]
  rw [e0, List.drop_append, e]
  simp [e]
theorem flat_set {α : Type} {cells : α → List Value} {size : Nat} (l : List α) (hl : ∀ x ∈ l, (cells x).length = size) (k : Nat) (hk : k < l.length) (x : α) : (l.set k x).flatMap cells = (l.flatMap cells).take (k * size) ++ (cells x ++ (l.flatMap cells).drop ((k + 1) * size)) := by
  rw [List.set_eq_take_append_cons_drop, if_pos hk, List.flatMap_append, List.flatMap_cons, flat_take l hl k (by omega), flat_drop l hl (k + 1) (by omega)]
/-- One element set. -/
theorem own_set {α : Type} {cells : α → List Value} {size : Nat} {P : Program} {w : World} {base : Nat} {e : TypeId} {g n c : Nat} {l : List α} (h : w.ownsRow base e size (.slice (some ⟨g, 0, none⟩) n c) n (l.flatMap cells)) (hl : ∀ x ∈ l, (cells x).length = size) (hn : l.length = n)
    (k : Nat) (hk : k < n) (x : α) (hx : (cells x).length = size) (h1 : ∀ u ∈ cells x, u.oneCell' = true) (hsz : 0 < size) :
    ∃ w', (storeCells ⟨g, k * size, none⟩ (cells x)).run P w = .ok () w' ∧ w'.ownsRow base e size (.slice (some ⟨g, 0, none⟩) n c) n ((l.set k x).flatMap cells) ∧ w.grownBy w' (some g) := by
  rcases h.2 with ⟨h0, _⟩ | ⟨g', cap, cur, e1, hb, hg, hnc, hcm, hcs, htk⟩
  · injection h0 with h2; cases h2
  · injection e1 with e2 e3 e4
    simp only [Option.some.injEq, Addr.mk.injEq] at e2
    obtain ⟨rfl, -, -⟩ := e2
    subst e4
    have hks : k * size + size ≤ n * size := by rw [← Nat.succ_mul]; exact Nat.mul_le_mul_right _ hk
    have hns : n * size ≤ c * size := Nat.mul_le_mul_right _ hnc
    have hr := run_storeCells_at (P := P) g (k * size) e (cells x) 0 cur w hg (by rw [hx]; omega) h1
    simp only [Nat.add_zero] at hr
    refine ⟨_, hr, ⟨?_, .inr ⟨g, c, _, rfl, hb, setRow_heap w g cur _ e (0, 0) hg, hnc, hcm, ?_, ?_⟩⟩, grown_row _ _ _⟩
    · rw [flat_len _ (fun y hy => by rcases List.mem_or_eq_of_mem_set hy with hy | rfl; exact hl y hy; exact hx), List.length_set, hn]
    · simp [hx]; omega
    · have hfl : (l.flatMap cells).length = n * size := by rw [flat_len l hl, hn]
      rw [flat_set l hl k (by omega) x, ← htk, List.take_take, Nat.min_eq_left (by omega), List.drop_take, hx]
      simp only [List.append_assoc]
      rw [List.take_append, List.length_take, List.take_take, List.take_append, hx]
      have a1 : min (k * size) cur.toList.length = k * size := by simp; omega
      rw [a1, Nat.min_eq_right (by omega), List.take_of_length_le (l := cells x) (by rw [hx]; omega)]
      congr 2
      rw [show (k + 1) * size = k * size + size from Nat.succ_mul _ _, show n * size - k * size - size = n * size - (k * size + size) by omega]
theorem run_clear_own {α : Type} {cells : α → List Value} {size : Nat} {P : Program} {w : World} {base : Nat} {t ty e : TypeId} {z : Value} {g n c : Nat} {l : List α} (ht : P.underlying t = some (.slice e)) (hz : ∀ w, (zeroValue e).run P w = .ok z w) (hzs : z.cells.size = size) (hz1 : ∀ u ∈ z.cells.toList, u.oneCell' = true)
    (h : w.ownsRow base e size (.slice (some ⟨g, 0, none⟩) n c) n (l.flatMap cells)) (hl : ∀ x ∈ l, (cells x).length = size) (hn : l.length = n) (k m c' : Nat) (hk : k + m = n) (hsz : 0 < size) :
    ∃ w', (Builtin.clear_ #[t] ty #[.slice (some ⟨g, k * size, none⟩) m c']).run P w = .ok (.tuple #[]) w' ∧ w'.ownsRow base e size (.slice (some ⟨g, 0, none⟩) k c) k ((l.take k).flatMap cells) ∧ w.grownBy w' (some g) := by
  rcases h.2 with ⟨h0, _⟩ | ⟨g', cap, cur, e1, hb, hg, hnc, hcm, hcs, htk⟩
  · injection h0 with h2; cases h2
  · injection e1 with e2 e3 e4
    simp only [Option.some.injEq, Addr.mk.injEq] at e2
    obtain ⟨rfl, -, -⟩ := e2
    subst e4
    have hns : n * size ≤ c * size := Nat.mul_le_mul_right _ hnc
    have hkn : k * size + m * size = n * size := by rw [← Nat.add_mul, hk]
    have htake : cur.toList.take (k * size) = (l.take k).flatMap cells := by
      rw [flat_take l hl k (by omega), ← htk, List.take_take, Nat.min_eq_left (by omega)]
    cases m with
    | zero =>
      refine ⟨w, by simp [Builtin.clear_, run_underlying ht], ⟨by rw [flat_len _ (fun y hy => hl y (List.mem_of_mem_take hy)), List.length_take]; rw [Nat.min_eq_left (by omega)], .inr ⟨g, c, cur, rfl, hb, hg, by omega, hcm, hcs, htake⟩⟩, World.grownBy.refl _ _⟩
    | succ m =>
      obtain ⟨zs, hzz⟩ : ∃ zs, zs = (Builtin.zeroCells z.cells (m + 1)).toList := ⟨_, rfl⟩
      have hzl : zs.length = (m + 1) * size := by rw [hzz]; simp [Builtin.zeroCells, hzs]
      have hzo : ∀ u ∈ zs, u.oneCell' = true := fun u hu => by
        rw [hzz] at hu
        simp only [Builtin.zeroCells, Array.toList_map, List.mem_map] at hu
        obtain ⟨i, -, rfl⟩ := hu
        have hlt : i % z.cells.size < z.cells.size := Nat.mod_lt _ (by omega)
        rw [getElem!_pos z.cells _ hlt]
        exact hz1 _ (by simp)
      have hr := run_storeCells_at (P := P) g (k * size) e zs 0 cur w hg (by rw [hzl]; omega) hzo
      simp only [Nat.add_zero, List.append_assoc] at hr
      refine ⟨w.setRow g (List.take (k * size) cur.toList ++ (zs ++ List.drop (k * size + zs.length) cur.toList)).toArray, by simp [Builtin.clear_, run_underlying ht, hz, ← hzz, hr], ⟨by rw [flat_len _ (fun y hy => hl y (List.mem_of_mem_take hy)), List.length_take]; rw [Nat.min_eq_left (by omega)], .inr ⟨g, c, _, rfl, hb, setRow_heap w g cur _ e (0, 0) hg, by omega, hcm, ?_, ?_⟩⟩, grown_row _ _ _⟩
      · simp [hzl]; omega
      · rw [← htake]
        show List.take (k * size) (List.take (k * size) cur.toList ++ _) = _
        rw [List.take_append_of_le_length (by simp; omega), List.take_take, Nat.min_self]
theorem wpList_storeOwn {α : Type} {cells : α → List Value} {size : Nat} {P : Program} {ops : Array Oper} {rest : List Oper} {o : Oper} {a : Act} {w : World} {Q : Exit → Act → World → Prop} (hgd : o.guard = none) (ty : TypeId) (x y : Operand) (ho : o.op = .store ty x y)
    (base : Nat) (e : TypeId) (g n c k : Nat) (l : List α) (hx : a.eval x = .pointer (some ⟨g, k * size, none⟩)) (u : α) (hy : a.eval y = .agg (cells u).toArray) (hown : w.ownsRow base e size (.slice (some ⟨g, 0, none⟩) n c) n (l.flatMap cells)) (hl : ∀ x ∈ l, (cells x).length = size) (hn : l.length = n) (hk : k < n) (hu : (cells u).length = size) (h1 : ∀ v ∈ cells u, v.oneCell' = true) (hsz : 0 < size) (hi : (P.info? ty).map (·.size) = some size)
    (h : ∀ w', w'.ownsRow base e size (.slice (some ⟨g, 0, none⟩) n c) n ((l.set k u).flatMap cells) → w.grownBy w' (some g) → wpList P ops Q rest (a.put o.dst undef) w') : wpList P ops Q (o :: rest) a w := by
  refine wpList_plain hgd fun K hK => ?_
  obtain ⟨w', hr, h2, h3⟩ := own_set (P := P) hown hl hn k hk u hu h1 hsz
  have hr2 : (storeVar ty ⟨g, k * size, none⟩ (.agg (cells u).toArray)).run P w = .ok () w' := by
    have hv : (Value.agg (cells u).toArray).cells = (cells u).toArray := rfl
    cases hi2 : P.info? ty with
    | none => simp [hi2] at hi
    | some ie =>
      simp [hi2] at hi
      simp [storeVar, sizeOf, typeInfo, hi2, Value.cells, hu, hi, hr]
  unfold Oper.wp execOp
  simp only [ho, hx, hy, Instr.storeAt, Instr.sureAddr, Sem.run_bind, Sem.run_pure, Result.andThen_ok, hr2]
  exact hK _ _ (h _ h2 h3)
theorem wpList_clearOwn {α : Type} {cells : α → List Value} {size : Nat} {P : Program} {ops : Array Oper} {rest : List Oper} {o : Oper} {a : Act} {w : World} {Q : Exit → Act → World → Prop} (hgd : o.guard = none) (t : TypeId) (x : Operand) (ho : o.op = .call { callee := .builtin .clear, args := #[x], argTypes := #[t] })
    (base : Nat) (e : TypeId) (z : Value) (g n c k m c' : Nat) (l : List α) (ht : P.underlying t = some (.slice e)) (hz : ∀ w, (zeroValue e).run P w = .ok z w) (hzs : z.cells.size = size) (hz1 : ∀ u ∈ z.cells.toList, u.oneCell' = true) (hx : a.eval x = .slice (some ⟨g, k * size, none⟩) m c') (hown : w.ownsRow base e size (.slice (some ⟨g, 0, none⟩) n c) n (l.flatMap cells)) (hl : ∀ x ∈ l, (cells x).length = size) (hn : l.length = n) (hk : k + m = n) (hsz : 0 < size)
    (h : ∀ w', w'.ownsRow base e size (.slice (some ⟨g, 0, none⟩) k c) k ((l.take k).flatMap cells) → w.grownBy w' (some g) → wpList P ops Q rest (a.put o.dst (.tuple #[])) w') : wpList P ops Q (o :: rest) a w := by
  refine wpList_plain hgd fun K hK => ?_
  obtain ⟨w', hr, h2, h3⟩ := run_clear_own (P := P) (ty := o.type) ht hz hzs hz1 hown hl hn k m c' hk hsz
  unfold Oper.wp
  simp [execOp, ho, resolve, invoke, builtin, hx, hr, Result.andThen]
  exact hK _ _ (h w' h2 h3)
end Go.Proofs.Ytodnmhflafpefaa
