/-
  'Common': the lowest node over two leaves.
-/
import Derived.Test.YtdmjiokeangmmaaBoughH
set_option linter.unusedSimpArgs false
set_option linter.unusedVariables false
namespace Go.Proofs.Ytdmjiokeangmmaa.Bg
open Go.RowKit Go.Shelf

attribute [local go_sem] Oper.semAt_some

theorem new_box (W : World) (v : Value) (t : TypeId) : (W.alloc (.cells #[v] t)).cell? ⟨W.heap.size, 0, none⟩ = some v ∧ (W.alloc (.cells #[v] t)).frozen? ⟨W.heap.size, 0, none⟩ = false := ⟨(Boxed.new W t v).cell, (Boxed.new W t v).frozen⟩
theorem cell_al {W : World} {a : Addr} {v : Value} (o : Obj) (h : W.cell? a = some v) : (W.alloc o).cell? a = some v := cell_kept h (World.grownBy_alloc W o none) (fun _ e => by cases e)
theorem frozen_al {W : World} {a : Addr} {v : Value} (o : Obj) (h : W.cell? a = some v) (hf : W.frozen? a = false) : (W.alloc o).frozen? a = false := (frozen_kept h (World.grownBy_alloc W o none) (fun _ e => by cases e)).trans hf

def comI (N A B : Int) : Int := ((ups N (2 * A)).find? (fun p => holdsI N p B)).getD (-1)
theorem find_some' {p : Int → Bool} {ini xs : List Int} {last : Int} (h : ∀ y ∈ ini, p y = false) (hl : p last = true) (hp : (ini ++ [last]) <+: xs) : xs.find? p = some last := by
  obtain ⟨t, rfl⟩ := hp
  rw [List.append_assoc, List.find?_append, List.find?_eq_none.2 (by simpa using h)]
  simp [hl]
theorem find_none' {p : Int → Bool} {xs : List Int} (h : ∀ y ∈ xs, p y = false) : xs.find? p = none := List.find?_eq_none.2 (by simpa using h)

set_option maxRecDepth 100000 in
set_option maxHeartbeats 2000000 in
theorem common_yes (N A B : Int) (ha0 : 0 ≤ A) (ha1 : A < N) (hb0 : 0 ≤ B) (hb1 : B < N) (hab : ¬ A = B) (h64 : N ≤ 64) (w : World) :
    Calls Try.prog 17 #[.int .i64 N, .int .i64 A, .int .i64 B] w fun e W' => e = .returned (.int .i64 (comI N A B)) ∧ Below w.heap.size w W' := by
  have hT : thereI N 0 = true := by unfold thereI; simp; omega
  unfold comI
  refine (callsIn_wide (n := 9)).1 ?_
  refine callsIn_of_wp_marks Try.func17 rfl trivial ?_ rfl
  simp only [Try.ntmps17, List.size_toArray, List.length_cons, List.length_nil, Nat.reduceAdd, Nat.reduceSub, Array.replicate_succ, Array.replicate_zero, List.push_toArray, List.append_toArray, List.nil_append, List.cons_append]
  gi_wp2_with fail
  refine ⟨trivial, ?_⟩
  refine (callsIn_wide.2 (there_calls N 0 _)).mono ?_
  rintro e w1 ⟨rfl, rfl⟩
  rw [hT]
  gi_wp2_with fail
  refine ⟨trivial, ?_⟩
  refine (up_in _ _ _ _).mono ?_
  rintro e w' ⟨rfl, rfl⟩
  gi_wp2_with fail
  have c0 := new_box w (.int .i64 N) 3
  have c1 := new_box (w.alloc (.cells #[.int .i64 N] 3)) (.int .i64 B) 3
  have c2 := new_box ((w.alloc (.cells #[.int .i64 N] 3)).alloc (.cells #[.int .i64 B] 3)) (.int .i64 0) 3
  have c3 := new_box (((w.alloc (.cells #[.int .i64 N] 3)).alloc (.cells #[.int .i64 B] 3)).alloc (.cells #[.int .i64 0] 3)) (.int .i64 N) 3
  have c4 := new_box ((((w.alloc (.cells #[.int .i64 N] 3)).alloc (.cells #[.int .i64 B] 3)).alloc (.cells #[.int .i64 0] 3)).alloc (.cells #[.int .i64 N] 3)) (.int .i64 (2 * A)) 3
  simp only [World.size_alloc] at c1 c2 c3 c4
  have hB0 : Below w.heap.size w (((((w.alloc (.cells #[.int .i64 N] 3)).alloc (.cells #[.int .i64 B] 3)).alloc (.cells #[.int .i64 0] 3)).alloc (.cells #[.int .i64 N] 3)).alloc (.cells #[.int .i64 (2 * A)] 3)) := (((((Below.refl _ w).alloc (Nat.le_refl _) _).alloc (by simp) _).alloc (by simp; omega) _).alloc (by simp; omega) _).alloc (by simp; omega) _
  refine wpIn_rangeFunc_ownG rfl (by omega) (gf := 40) (lb := #[.pointer (some ⟨w.heap.size + 1 + 1 + 1, 0, none⟩), .pointer (some ⟨w.heap.size + 1 + 1 + 1 + 1, 0, none⟩)]) rfl trivial (enters_of Try.func40 (by kernel_rfl) rfl)
    (up_stops 8 (by omega) (w.heap.size + 1 + 1 + 1) (w.heap.size + 1 + 1 + 1 + 1) N (2 * A) _ (by simp) (by simp) (cell_al _ c3.1) c4.1) KpB.t (KpB.b (by simp)) (Below.refl _ _) (fun _ => rfl)
    (fun (pre : List Int) (W : World) => ((∀ y ∈ pre, holdsI N y B = false) ∧ W.cell? ⟨w.heap.size, 0, none⟩ = some (.int .i64 N) ∧ W.cell? ⟨w.heap.size + 1, 0, none⟩ = some (.int .i64 B) ∧ W.cell? ⟨w.heap.size + 1 + 1, 0, none⟩ = some (.int .i64 0) ∧ W.frozen? ⟨w.heap.size + 1 + 1, 0, none⟩ = false) ∧ Below w.heap.size w W)
    (fun c (pre : List Int) (W : World) => (c = .ret ∧ ∃ ini last, pre = ini ++ [last] ∧ (∀ y ∈ ini, holdsI N y B = false) ∧ holdsI N last B = true ∧ W.cell? ⟨w.heap.size + 1 + 1, 0, none⟩ = some (.int .i64 last)) ∧ Below w.heap.size w W)
    (OwnFrom.and (Own.from (fun s A B row hs hg hr => ⟨hs.1, cell_kept hs.2.1 hg hr, cell_kept hs.2.2.1 hg hr, cell_kept hs.2.2.2.1 hg hr, (frozen_kept hs.2.2.2.1 hg hr).trans hs.2.2.2.2⟩) _) (ownFrom_below (Nat.le_refl _) (by simp; omega)))
    (fun c => OwnFrom.and (Own.from (fun s A B row hs hg hr => by obtain ⟨hc, ini, last, e1, e2, e3, e4⟩ := hs; exact ⟨hc, ini, last, e1, e2, e3, cell_kept e4 hg hr⟩) _) (ownFrom_below (Nat.le_refl _) (by simp; omega)))
    ⟨⟨by simp, cell_al _ (cell_al _ (cell_al _ (cell_al _ c0.1))), cell_al _ (cell_al _ (cell_al _ c1.1)), cell_al _ (cell_al _ c2.1), frozen_al _ (cell_al _ c2.1) (frozen_al _ c2.1 c2.2)⟩, hB0⟩
    (fun x => { tmps := #[.int .i64 N, .int .i64 A, .int .i64 B, .pointer (some ⟨w.heap.size, 0, none⟩), undef, .pointer (some ⟨w.heap.size + 1, 0, none⟩), .pointer (some ⟨w.heap.size + 1 + 1, 0, none⟩), .int .i64 x, .int .i64 A, .bool (decide (A < 0)), .bool (decide (A < 0)), .int .i64 B, .bool (decide (B < 0)), .bool (decide (A < 0) || decide (B < 0)), .bool (decide (A < 0) || decide (B < 0)), .int .i64 A, .int .i64 N, .bool (decide (N ≤ A)), .bool (decide (A < 0) || decide (B < 0) || decide (N ≤ A)), .bool (decide (A < 0) || decide (B < 0) || decide (N ≤ A)), .int .i64 B, .int .i64 N, .bool (decide (N ≤ B)), .bool (decide (A < 0) || decide (B < 0) || decide (N ≤ A) || decide (N ≤ B)), .bool (decide (A < 0) || decide (B < 0) || decide (N ≤ A) || decide (N ≤ B)), .int .i64 N, .bool true, .bool false, .bool (decide (A < 0) || decide (B < 0) || decide (N ≤ A) || decide (N ≤ B)), .int .i64 A, .int .i64 B, .bool false, undef, undef, .int .i64 N, .int .i64 A, .int .i64 (2 * A), .func (.func 40) #[] #[.pointer (some ⟨w.heap.size + 1 + 1 + 1, 0, none⟩), .pointer (some ⟨w.heap.size + 1 + 1 + 1 + 1, 0, none⟩)], .int .i64 x, undef, undef, undef, undef, undef], defers := [] }) ?assign ?body ?done ?stop
  case assign =>
    intro l x W K hK
    gi_wp2
    exact hK
  case body =>
    rintro l pre x W ⟨⟨hp, hcn, hcb, hcr, hfr⟩, hB⟩ _
    gi_wp2_with fail
    refine ⟨trivial, ?_⟩
    refine (CallsIn.inRound l (callsIn_wide.2 (Holds_calls N x B _))).mono ?_
    rintro e w' ⟨rfl, rfl⟩
    cases hh : holdsI N x B with
    | true =>
      gi_wp2
      exact ⟨(KeepsOthers.setCell _ _ _).from _, ⟨rfl, pre, x, rfl, hp, hh, World.cell?_setCell_same' _ _ _ (by rw [hcr]; rfl)⟩, hB.setCell (p := ⟨w.heap.size + 1 + 1, 0, none⟩) (by simp; omega) _⟩
    | false =>
      gi_wp2
      exact ⟨KeepsFrom.refl _ _, KpB.refl _ _, ⟨fun y hy => (List.mem_append.1 hy).elim (hp y) (fun e => by simp at e; subst e; exact hh), hcn, hcb, hcr, hfr⟩, hB⟩
  case done =>
    rintro D ys W hD rfl ⟨⟨hne, _, _, hcr, hfr⟩, hB⟩ hK
    gi_wp2
    have hK' := (KeepsOthers.setCell W ⟨w.heap.size + 1 + 1, 0, none⟩ (.int .i64 (-1))).same D _ hK rfl
    refine ⟨by simp, .inl ⟨_, _, rfl, run_takeDeferred hK', ?_⟩⟩
    have hc5 := cell_kept (World.cell?_setCell_same' W ⟨w.heap.size + 1 + 1, 0, none⟩ (.int .i64 (-1)) (by rw [hcr]; rfl)) (grownBy_putObj' _ D (.deferred none)) (fun r e => by cases e; exact ⟨_, hK', rfl⟩)
    refine ⟨.int .i64 (-1), ?_, by rw [find_none' hne]; rfl, (hB.setCell (p := ⟨w.heap.size + 1 + 1, 0, none⟩) (by simp; omega) _).trans (belowK_b (w := w) (Nat.le_refl _) _ D _ _ (by simp at hD; omega) hK' rfl rfl)⟩
    simp [results, Try.f17, go_sem, hc5]
  case stop =>
    rintro D c pre W hD hpre ⟨⟨rfl, ini, last, rfl, e2, e3, hcr⟩, hB⟩ hK
    gi_wp2
    refine ⟨by simp, .inl ⟨_, _, rfl, run_takeDeferred hK, ?_⟩⟩
    have hc5 := cell_kept hcr (grownBy_putObj' _ D (.deferred none)) (fun r e => by cases e; exact ⟨_, hK, rfl⟩)
    refine ⟨.int .i64 last, ?_, by rw [find_some' e2 e3 hpre]; rfl, hB.trans (belowK_b (w := w) (Nat.le_refl _) W D _ _ (by simp at hD; omega) hK rfl rfl)⟩
    simp [results, Try.f17, go_sem, hc5]
end Go.Proofs.Ytdmjiokeangmmaa.Bg
