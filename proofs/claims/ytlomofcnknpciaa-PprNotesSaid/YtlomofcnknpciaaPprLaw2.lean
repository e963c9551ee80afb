/-
  A store of one cell into a block known whole; what a row keeps while another block is written.
  Rows of seeds, plain: what a taking of any place does; what a row keeps while another row is written.
-/
import Derived.Test.YtlomofcnknpciaaPprDoc
import Derived.Test.YtlomofcnknpciaaPprSeeds
import Derived.Test.YtlomofcnknpciaaPprTake
import Derived.Test.YtlomofcnknpciaaRd
set_option linter.unusedSimpArgs false
set_option linter.unusedVariables false
namespace Go.Proofs.Ytlomofcnknpciaa
open Go.RowKit

theorem run_store1 {P : Program} {w : World} {g i : Nat} {ty t : TypeId} {cs : Array Value} {u : Value} (hg : Blk w g cs t) (hi : i < cs.size) (hs : (P.info? ty).map (·.size) = some 1) (hu : u.cells = #[u]) (h1 : u.oneCell' = true) :
    (storeVar ty ⟨g, i, none⟩ u).run P w = .ok () (w.setRow g (cs.setIfInBounds i u)) := by
  have hr := run_storeCells_at (P := P) g i t [u] 0 cs w hg (by simp; omega) (by simpa using h1)
  have e : (cs.toList.take (i + 0) ++ [u] ++ cs.toList.drop (i + 0 + [u].length)).toArray = cs.setIfInBounds i u := by
    apply Array.ext'
    rw [Array.toList_setIfInBounds, List.set_eq_take_append_cons_drop, if_pos (by simpa using hi)]
    simp
  rw [e] at hr
  cases hq : P.info? ty with
  | none => simp [hq] at hs
  | some it =>
    have hs1 : it.size = 1 := by simpa [hq] using hs
    simp [storeVar, sizeOf, typeInfo, hq, hu, hs1, hr]
theorem wp_store1 {P : Program} {o : Oper} {a : Act} {w : World} {K : Act → World → Prop} {Q : Exit → Act → World → Prop} (ty : TypeId) (x y : Operand) (ho : o.op = .store ty x y)
    (g i : Nat) (u : Value) (hx : a.eval x = .pointer (some ⟨g, i, none⟩)) (hy : a.eval y = u) (t : TypeId) (cs : Array Value) (hg : Blk w g cs t) (hi : i < cs.size) (hs : (P.info? ty).map (·.size) = some 1) (hu : u.cells = #[u]) (h1 : u.oneCell' = true)
    (h : ∀ w', Blk w' g (cs.setIfInBounds i u) t → w.grownBy w' (some g) → K (a.put o.dst undef) w') : o.wp P a w K Q := by
  have hr := run_store1 (P := P) (ty := ty) hg hi hs hu h1
  unfold Oper.wp execOp
  simp only [ho, hx, hy, Instr.storeAt, Instr.sureAddr, Sem.run_bind, Sem.run_pure, Result.andThen_ok, hr]
  exact h _ (hg.setRow _) (grown_row _ _ _)
theorem wpList_store1 {P : Program} {ops : Array Oper} {rest : List Oper} {o : Oper} {a : Act} {w : World} {Q : Exit → Act → World → Prop} (hgd : o.guard = none) (ty : TypeId) (x y : Operand) (ho : o.op = .store ty x y)
    (g i : Nat) (u : Value) (hx : a.eval x = .pointer (some ⟨g, i, none⟩)) (hy : a.eval y = u) (t : TypeId) (cs : Array Value) (hg : Blk w g cs t) (hi : i < cs.size) (hs : (P.info? ty).map (·.size) = some 1) (hu : u.cells = #[u]) (h1 : u.oneCell' = true)
    (h : ∀ w', Blk w' g (cs.setIfInBounds i u) t → w.grownBy w' (some g) → wpList P ops Q rest (a.put o.dst undef) w') : wpList P ops Q (o :: rest) a w :=
  wpList_plain hgd fun _ hK => wp_store1 ty x y ho g i u hx hy t cs hg hi hs hu h1 fun w' h2 h3 => hK _ _ (h w' h2 h3)
theorem rcells_set (root : List UInt8) (B : Nat) (v u : Value) (h : root.length = 32) : (rcells root B v).toArray.setIfInBounds 33 u = (rcells root B u).toArray := by
  apply Array.ext'
  simp only [Array.toList_setIfInBounds, List.toList_toArray, rcells]
  rw [List.set_append_right _ _ (by simp [h])]
  simp [h]
/-- A row stays what it is while a block is written whose first cell is no number of type int. -/
theorem RowAt.other {w w' : World} {r B M : Nat} {l : List Sd} {cs : Array Value} {t : TypeId} (h : RowAt w r B l) (gr : w.grownBy w' (some M)) (hM : Blk w M cs t) (h0 : ∃ u, cs[0]? = some u ∧ ∀ n, u ≠ .int .i64 n) : RowAt w' r B l := by
  obtain ⟨v, h1, h2, h3⟩ := h
  obtain ⟨u0, hu, hu2⟩ := h0
  have hne : r ≠ M := fun e => by
    subst e
    unfold Blk at h1 hM
    rw [h1] at hM
    simp at hM
    rw [← hM.1] at hu
    simp at hu
    exact hu2 _ hu.symm
  refine ⟨v, h1.grown gr (by simpa using hne), h2, ?_⟩
  rcases h3 with h0 | ⟨g, c, rfl, hc, hlt, hcell⟩
  · exact .inl h0
  · refine .inr ⟨g, c, rfl, hc, Nat.lt_of_lt_of_le hlt gr.size, fun j u hj => ?_⟩
    have hg : g ≠ M := fun e => by
      subst e
      cases l with
      | nil => simp at hj
      | cons s l =>
        have h5 := hcell 0 (.int .i64 s.lv) (by simp [Sd.cells])
        have h6 := hM.cell 0 u0 hu
        rw [h5] at h6
        cases h6
        exact hu2 _ rfl
    have h7 := hcell j u hj
    have h8 := gr.block g hlt (by simpa using hg)
    simp only [World.cell?, h8] at h7 ⊢
    exact h7
theorem rcells_first (root : List UInt8) (B : Nat) (v : Value) (h : root.length = 32) : ∃ u, (rcells root B v).toArray[0]? = some u ∧ ∀ n, u ≠ .int .i64 n := by
  match root, h with
  | c :: t, h => exact ⟨bv c, by simp [rcells], fun n e => by simp [bv] at e⟩
theorem stK_sum (B p : Nat) (s : Sd) : ∀ k, (stK B p s k).2.1.length + (stK B p s k).2.2.length = k
  | 0 => rfl
  | k + 1 => by
    have ih := stK_sum B p s k
    rw [stK_step]
    split
    · simp; omega
    · simp; omega
theorem row_one (root : List UInt8) (B q : Nat) (hq : q < 2 ^ B) : (rowT root B [q]).length = B := by
  have h := below_way root B q [] B 0 0 (by omega) (by rw [Nat.sub_zero, Nat.div_eq_of_lt hq]) (by simp [wholeT])
  rw [List.nil_append] at h
  rw [rowT, h, List.length_append, List.length_reverse]
  exact stK_sum B q _ B
theorem IntsA.one (w : World) (q : Nat) (t : TypeId) : IntsA (w.alloc (.cells #[.int .i64 (q : Int)] t)) (.slice (some ⟨w.heap.size, 0, none⟩) 1 1) [q] :=
  .inr ⟨w.heap.size, 0, 1, rfl, by simp, fun j x hj => by
    have hlt := (List.getElem?_eq_some_iff.1 hj).1
    obtain rfl : j = 0 := by simp at hlt; omega
    obtain rfl : q = x := by simpa using hj
    exact (Blk.new w _ t).cell 0 _ rfl⟩
theorem IntsA.grown {w w' : World} {v : Value} {tk : List Nat} {M : Nat} {cs : Array Value} {t : TypeId} (h : IntsA w v tk) (gr : w.grownBy w' (some M)) (hM : Blk w M cs t) (h0 : ∀ g o c, v = .slice (some ⟨g, o, none⟩) tk.length c → g ≠ M) : IntsA w' v tk := by
  rcases h with h0 | ⟨g, o, c, rfl, hlt, hcell⟩
  · exact .inl h0
  · refine .inr ⟨g, o, c, rfl, Nat.lt_of_lt_of_le hlt gr.size, fun j x hj => ?_⟩
    have h7 := hcell j x hj
    have h8 := gr.block g hlt (by simpa using h0 g o c rfl)
    simp only [World.cell?, h8] at h7 ⊢
    exact h7
theorem Try.sizeInts : (Try.prog.info? 24).map (·.size) = some 1 := by kernel_rfl
end Go.Proofs.Ytlomofcnknpciaa
set_option linter.unusedSimpArgs false
set_option linter.unusedVariables false
namespace Go.Proofs.Ytlomofcnknpciaa
open Go.RowKit

theorem row_step (root : List UInt8) (B : Nat) (tk : List Nat) (htk : ∀ y ∈ tk, y < 2 ^ B) (x : Int) :
    ∃ tk' : List Nat, takeT B x (rowT root B tk) = rowT root B tk' ∧ (∀ y : Nat, y < 2 ^ B → (y ∈ tk' ↔ y ∈ tk ∨ (y : Int) = x)) ∧ (rowT root B tk').length ≤ (rowT root B tk).length + 2 * B ∧ (∀ y ∈ tk', y < 2 ^ B) ∧ tk'.length ≤ tk.length + 1 := by
  by_cases hw : withinT B x = true
  · have hw2 : 0 ≤ x ∧ x < ((2 ^ B : Nat) : Int) := by simpa [withinT] using hw
    obtain ⟨q, rfl⟩ : ∃ q : Nat, x = q := ⟨x.toNat, by omega⟩
    have hq : q < 2 ^ B := by omega
    by_cases ht : q ∈ tk
    · refine ⟨tk, (row_gone root B q tk hw ht).1, fun y _ => ⟨.inl, fun h => h.elim id (fun e => ?_)⟩, by omega, htk, by omega⟩
      have : y = q := by omega
      subst this; exact ht
    · refine ⟨tk ++ [q], (row_take root B q tk hw ht).1, fun y _ => ?_, row_len root B q tk hq, fun y hy => ?_, by simp⟩
      · rw [List.mem_append, List.mem_singleton]
        exact ⟨fun h => h.imp id (fun e => by rw [e]), fun h => h.imp id (fun e => by omega)⟩
      · rcases List.mem_append.1 hy with hy | hy
        · exact htk y hy
        · rw [List.mem_singleton] at hy; omega
  · have hw' : withinT B x = false := by simpa using hw
    refine ⟨tk, (row_out root B x tk hw').1, fun y hy => ⟨.inl, fun h => h.elim id (fun e => ?_)⟩, by omega, htk, by omega⟩
    exfalso
    refine hw ?_
    rw [withinT]
    exact decide_eq_true ⟨by omega, by omega⟩
theorem RowAt.otherRow {w w' : World} {r r2 B B' : Nat} {l l' : List Sd} (h : RowAt w r2 B l) (gr : w.grownBy w' (some r)) (hR : RowAt w r B' l') (hne : r2 ≠ r) : RowAt w' r2 B l := by
  obtain ⟨v, h1, h2, h3⟩ := h
  obtain ⟨v', g1, g2⟩ := hR
  refine ⟨v, h1.grown gr (by simpa using hne), h2, ?_⟩
  rcases h3 with h0 | ⟨g, c, rfl, hc, hlt, hcell⟩
  · exact .inl h0
  · refine .inr ⟨g, c, rfl, hc, Nat.lt_of_lt_of_le hlt gr.size, fun j u hj => ?_⟩
    have hg : g ≠ r := fun e => by
      subst e
      cases l with
      | nil => simp at hj
      | cons s l =>
        have h5 := hcell 1 (.int .i64 s.pl) (by simp [Sd.cells])
        have h6 := g1.cell 1 v' rfl
        rw [h5] at h6
        obtain ⟨ao, c', e, _⟩ := g2.slice
        rw [e] at h6
        cases h6
    have h7 := hcell j u hj
    have h8 := gr.block g hlt (by simpa using hg)
    simp only [World.cell?, h8] at h7 ⊢
    exact h7
theorem RowAt.slot {w : World} {r B : Nat} {l : List Sd} (h : RowAt w r B l) : ∃ v, Blk w r #[.int .i64 B, v] 138 := ⟨_, h.choose_spec.1⟩
/-- What else lies in memory stays while a row is written: a slice of an argument, whose block was there before the row. -/
theorem Elems.grownR {α : Type} {cells : α → List Value} {size : Nat} {w0 w w' : World} {ao : Option Addr} {len : Nat} {xs : List α} {r : Nat} (h0 : Elems cells size w0 ao len xs) (h : Elems cells size w ao len xs) (gr : w.grownBy w' (some r)) (hr : w0.heap.size ≤ r) : Elems cells size w' ao len xs := by
  refine ⟨h.1, ?_⟩
  rcases h0.2 with h1 | ⟨b, off, rfl, hb0, _⟩
  · exact .inl h1
  · rcases h.2 with h1 | ⟨b', off', he, hb, hc⟩
    · exact .inl h1
    · simp only [Option.some.injEq, Addr.mk.injEq] at he
      obtain ⟨rfl, rfl, _⟩ := he
      refine .inr ⟨b, off, rfl, Nat.lt_of_lt_of_le hb gr.size, fun i hi j v hj => ?_⟩
      have h7 := hc i hi j v hj
      have h8 := gr.block b hb (by simp; omega)
      simp only [World.cell?, h8] at h7 ⊢
      exact h7
end Go.Proofs.Ytlomofcnknpciaa
