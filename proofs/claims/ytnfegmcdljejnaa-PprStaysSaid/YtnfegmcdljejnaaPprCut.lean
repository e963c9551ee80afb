/-
  append to a slice of seeds that was cut ('l[:i:i]'), twice, as taking a place does.
-/
import Derived.Test.YtnfegmcdljejnaaPprLook
set_option linter.unusedSimpArgs false
set_option linter.unusedVariables false
namespace Go.Proofs.Ytnfegmcdljejnaa
open Go.RowKit

theorem below_grown0 {w w' : World} (h : w.grownBy w' none) : Below w.heap.size w w' := ⟨h.os, h.tape, h.output, h.size, fun k hk => h.block k hk (by simp)⟩
/-- What the first append leaves: the cut itself, or a new row. -/
def CutSt (base : Nat) (w' : World) (g i : Nat) (X : List Sd) (v : Value) (Y : List Sd) : Prop :=
  (v = .slice (some ⟨g, 0, none⟩) i i ∧ Y = X) ∨ w'.ownsRow base 138 34 v Y.length (Y.flatMap Sd.cells)
theorem CutSt.below {base : Nat} {w w' : World} {g i : Nat} {X Y : List Sd} {v : Value} (h : CutSt base w g i X v Y) (b : Below w.heap.size w w') : CutSt base w' g i X v Y := by
  rcases h with h | h
  · exact .inl h
  · exact .inr (own_below h b)

theorem run_append_cut (w : World) (ty : TypeId) (g i : Nat) (X : List Sd) (hX : X.length = i) (h32 : ∀ s ∈ X, s.h.length = 32) (hcell : ∀ j u, (X.flatMap Sd.cells)[j]? = some u → w.cell? ⟨g, j, none⟩ = some u)
    (ad : Addr) (c : Nat) (D : List Sd) (hD32 : ∀ s ∈ D, s.h.length = 32) (hnews : ∀ j u, (D.flatMap Sd.cells)[j]? = some u → w.cell? (ad.add j) = some u) (hb : i + D.length ≤ 4000000) :
    ∃ v' w', (Builtin.append_ #[139, 139] ty #[.slice (some ⟨g, 0, none⟩) i i, .slice (some ad) D.length c]).run Try.prog w = .ok v' w' ∧ Below w.heap.size w w' ∧ CutSt w.heap.size w' g i X v' (X ++ D) := by
  obtain ⟨i0, hi0, hz, hsz, hby⟩ := info_parts Try.infoSeed
  by_cases hm : D.length = 0
  · obtain rfl : D = [] := List.eq_nil_of_length_eq_zero hm
    have h := run_append_room_cells (P := Try.prog) w 139 ty 138 i0 Try.underlying139 hi0 g 0 i i ad 0 c [] (by simp) (by simp) (by simp) (by omega) (by simp) (by simp)
    refine ⟨_, _, h, ?_, ?_⟩
    · exact Below.refl _ _
    · rw [List.append_nil]; exact .inl ⟨rfl, rfl⟩
  · obtain ⟨v', w', h1, h2, h3⟩ := run_append_arg_grows (P := Try.prog) w 139 ty 138 i0 (.agg z34.toArray) 34 48 Try.underlying139 hi0 hz hsz hby rfl (by decide) ⟨g, 0, none⟩ i i (X.flatMap Sd.cells) (by rw [seeds_cells_len X h32, hX]) (fun j u hj => by rw [Addr.add_lit, Nat.zero_add]; exact hcell j u hj)
      ad D.length c (D.flatMap Sd.cells) (seeds_cells_len D hD32) hnews (by omega) (by unfold maxLen; omega) (by omega)
    rw [← List.flatMap_append] at h2
    exact ⟨v', w', h1, below_grown0 h3, .inr (by rw [List.length_append, hX]; exact h2)⟩

/-- The first append: seeds that lie anywhere. -/
theorem wp_append_cut1 {o : Oper} {a : Act} {w : World} {K : Act → World → Prop} {Q : Exit → Act → World → Prop} (s x : Operand)
    (ho : o.op = .call { callee := .builtin .append, args := #[s, x], argTypes := #[139, 139] }) (g i : Nat) (X R : List Sd) (vb : Value) (hs : a.eval s = .slice (some ⟨g, 0, none⟩) i i) (hx : a.eval x = vb)
    (hX : X.length = i) (h32 : ∀ s ∈ X, s.h.length = 32) (hcell : ∀ j u, (X.flatMap Sd.cells)[j]? = some u → w.cell? ⟨g, j, none⟩ = some u) (hR : SeedsAt w vb R) (hb : i + R.length ≤ 4000000)
    (h : ∀ v' w', Below w.heap.size w w' → CutSt w.heap.size w' g i X v' (X ++ R) → K (a.put o.dst v') w') : o.wp Try.prog a w K Q := by
  rcases hR.2 with ⟨rfl, rfl⟩ | ⟨gr, c, rfl, hc, hlt, hcr⟩
  · obtain ⟨i0, hi0, hz, hsz, hby⟩ := info_parts Try.infoSeed
    have hrun : (Builtin.append_ #[139, 139] o.type #[.slice (some ⟨g, 0, none⟩) i i, .slice none 0 0]).run Try.prog w = .ok (.slice (some ⟨g, 0, none⟩) i i) w := by
      simp [Builtin.append_, run_underlying Try.underlying139, sizeOf, typeInfo, hi0, Builtin.lenOf, Builtin.firstCells, storeCells]
    unfold Oper.wp
    simp [execOp, ho, resolve, invoke, builtin, hs, hx, hrun, Result.andThen]
    exact h _ _ (Below.refl _ _) (.inl ⟨rfl, by simp⟩)
  · obtain ⟨v', w', h1, h2, h3⟩ := run_append_cut w o.type g i X hX h32 hcell ⟨gr, 0, none⟩ c R hR.1 (fun j u hj => by rw [Addr.add_lit, Nat.zero_add]; exact hcr j u hj) hb
    unfold Oper.wp
    simp [execOp, ho, resolve, invoke, builtin, hs, hx, h1, Result.andThen]
    exact h _ _ h2 h3

/-- The second append. -/
theorem wp_append_cut2 {o : Oper} {a : Act} {w0 w : World} {K : Act → World → Prop} {Q : Exit → Act → World → Prop} (s x : Operand)
    (ho : o.op = .call { callee := .builtin .append, args := #[s, x], argTypes := #[139, 139] }) (g i : Nat) (X Y D : List Sd) (v : Value) (ad : Addr) (c : Nat) (hs : a.eval s = v) (hx : a.eval x = .slice (some ad) D.length c)
    (hX : X.length = i) (h32 : ∀ s ∈ X, s.h.length = 32) (hcell : ∀ j u, (X.flatMap Sd.cells)[j]? = some u → w.cell? ⟨g, j, none⟩ = some u) (hg : g < w.heap.size)
    (hst : CutSt w0.heap.size w g i X v Y) (hY32 : ∀ s ∈ Y, s.h.length = 32) (hD32 : ∀ s ∈ D, s.h.length = 32) (hnews : ∀ j u, (D.flatMap Sd.cells)[j]? = some u → w.cell? (ad.add j) = some u)
    (hb1 : i + D.length ≤ 4000000) (hb2 : Y.length + D.length ≤ 4000000) (hb0 : Below w0.heap.size w0 w)
    (h : ∀ v' w', Below w0.heap.size w0 w' → SeedsAt w' v' (Y ++ D) → (∀ q, v'.ownBlock = some q → q = g ∨ w0.heap.size ≤ q) → K (a.put o.dst v') w') : o.wp Try.prog a w K Q := by
  have hall : ∀ s ∈ Y ++ D, s.h.length = 32 := fun s hs => by
    rcases List.mem_append.1 hs with h1 | h1
    · exact hY32 s h1
    · exact hD32 s h1
  rcases hst with ⟨rfl, rfl⟩ | hown
  · obtain ⟨v', w', h1, h2, h3⟩ := run_append_cut w o.type g i Y hX h32 hcell ad c D hD32 hnews hb1
    unfold Oper.wp
    simp [execOp, ho, resolve, invoke, builtin, hs, hx, h1, Result.andThen]
    refine h _ _ (hb0.trans (h2.mono hb0.size)) ?_ ?_
    · rcases h3 with ⟨rfl, he⟩ | h3
      · rw [he]
        refine ⟨hY32, .inr ⟨g, i, by rw [hX], by omega, Nat.lt_of_lt_of_le hg h2.size, fun j u hj => ?_⟩⟩
        rw [h2.cell (p := ⟨g, j, none⟩) hg]; exact hcell j u hj
      · exact SeedsAt.own h3 hall rfl
    · rcases h3 with ⟨rfl, he⟩ | h3
      · intro q hq; simp [Value.ownBlock] at hq; exact .inl hq.symm
      · intro q hq; exact .inr (Nat.le_trans hb0.size (h3.lt q hq).1)
  · obtain ⟨i0, hi0, hz, hsz, hby⟩ := info_parts Try.infoSeed
    refine wp_append_own w s x 139 ho w0.heap.size 138 i0 (.agg z34.toArray) 34 48 Try.underlying139 hi0 hz hsz hby rfl (by decide) v _ _ hs hown ad D.length c (D.flatMap Sd.cells) hx (seeds_cells_len D hD32) hnews (seeds_cells_one D) (by unfold maxLen; omega) (by omega) hb0.size fun v' w' h2 h3 _ => ?_
    rw [← List.flatMap_append] at h2
    exact h v' w' (hb0.grown h3 hb0.size (fun q e => (hown.lt q e).1)) (SeedsAt.own h2 hall (by simp)) (fun q hq => .inr (h2.lt q hq).1)
end Go.Proofs.Ytnfegmcdljejnaa
