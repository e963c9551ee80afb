/-
  'Direct', the whole of it; the document's; whether two lists are the same.
-/
import Derived.Test.YtdmjiokeangmmaaBoughF
import Derived.Deep.AppendLies
import Derived.Handy
set_option linter.unusedSimpArgs false
set_option linter.unusedVariables false
namespace Go.Proofs.Ytdmjiokeangmmaa.Bg
open Go.RowKit Go.Shelf

section
attribute [local go_sem] Oper.semAt_some
set_option maxRecDepth 100000 in
set_option maxHeartbeats 2000000 in
theorem direct_big (N L : Int) (h0 : 0 ≤ L) (h1 : L < N) (h64 : 64 < N) (w : World) :
    Calls Try.prog 15 #[.int .i64 N, .int .i64 L] w fun e W' => ∃ v, e = .returned v ∧ W'.ownsRow w.heap.size 3 1 v (ups N (wrap64 (2 * L))).length ((ups N (wrap64 (2 * L))).map (Value.int .i64)) ∧ Below w.heap.size w W' := by
  obtain ⟨i0, hi, hz0, hz1, hz2⟩ := info_parts Try.infoI
  refine (callsIn_wide (n := 9)).1 ?_
  refine callsIn_of_wp_marks Try.func15 rfl trivial ?_ rfl
  simp only [Try.ntmps15, List.size_toArray, List.length_cons, List.length_nil, Nat.reduceAdd, Nat.reduceSub, Array.replicate_succ, Array.replicate_zero, List.push_toArray, List.append_toArray, List.nil_append, List.cons_append]
  gi_wp2_with (refine ⟨trivial, ?_⟩; gi_at_call 33; refine (up_in _ _ _ _).mono ?_; rintro e w' ⟨rfl, rfl⟩)
  have bO := Boxed.new w 24 (.slice none 0 0)
  have bN := Boxed.new (w.alloc (.cells #[.slice none 0 0] 24)) 3 (.int .i64 N)
  have bX := Boxed.new ((w.alloc (.cells #[.slice none 0 0] 24)).alloc (.cells #[.int .i64 N] 3)) 3 (.int .i64 (wrap64 (2 * L)))
  rw [World.size_alloc] at bN
  rw [World.size_alloc, World.size_alloc] at bX
  have hB0 : Below w.heap.size w (((w.alloc (.cells #[.slice none 0 0] 24)).alloc (.cells #[.int .i64 N] 3)).alloc (.cells #[.int .i64 (wrap64 (2 * L))] 3)) := (((Below.refl _ w).alloc (Nat.le_refl _) _).alloc (by simp) _).alloc (by simp; omega) _
  have hul := ups_len N (wrap64 (2 * L))
  refine wpIn_rangeFunc_ownG rfl (by omega) (gf := 40) (lb := #[.pointer (some ⟨w.heap.size + 1, 0, none⟩), .pointer (some ⟨w.heap.size + 1 + 1, 0, none⟩)]) rfl trivial (enters_of Try.func40 (by kernel_rfl) rfl)
    (up_stops 8 (by omega) (w.heap.size + 1) (w.heap.size + 1 + 1) N (wrap64 (2 * L)) _ (by simp) (by simp) (bN.alloc _).cell bX.cell) KpB.t (KpB.b (by simp)) (Below.refl _ _) (fun _ => rfl)
    (fun (pre : List Int) (W : World) => (∃ v, Boxed W w.heap.size 24 v ∧ W.ownsRow (w.heap.size + 3) 3 1 v pre.length (pre.map (Value.int .i64)) ∧ True) ∧ (Below w.heap.size w W ∧ w.heap.size + 3 ≤ W.heap.size))
    (fun _ _ _ => False)
    (OwnFrom.and (Own.from (holdsRow_own (w.heap.size + 3) w.heap.size 24 3 1 (fun pre : List Int => pre.length) (fun pre : List Int => pre.map (Value.int .i64)) (fun _ _ => True)) _) (OwnFrom.and (ownFrom_below (Nat.le_refl _) (by simp; omega)) (fun _ _ _ _ hs hg _ => Nat.le_trans hs hg.size)))
    (fun _ _ _ _ _ hs _ _ => hs)
    ⟨⟨_, (bO.alloc _).alloc _, World.ownsRow_nil _ _ _ _, trivial⟩, hB0, by simp⟩
    (fun x => { tmps := #[.int .i64 N, .int .i64 L, undef, undef, .slice none 0 0, .pointer (some ⟨w.heap.size, 0, none⟩), .int .i64 x, .int .i64 L, .bool (decide (L < 0)), .bool (decide (L < 0)), .int .i64 L, .int .i64 N, .bool (decide (N ≤ L)), .bool (decide (L < 0) || decide (N ≤ L)), .int .i64 N, .int .i64 L, .int .i64 (wrap64 (2 * L)), .func (.func 40) #[] #[.pointer (some ⟨w.heap.size + 1, 0, none⟩), .pointer (some ⟨w.heap.size + 1 + 1, 0, none⟩)], .int .i64 x, undef, undef, undef, undef, undef], defers := [] }) ?assign ?body ?done ?stop
  case assign =>
    intro l x W K hK
    gi_wp2
    exact hK
  case body =>
    rintro l pre x W ⟨⟨v, hv, hrow, -⟩, hB, hs3⟩ hlt
    have hc := hv.cell
    gi_wp2_with (gi_at_builtin; refine wpListIn_append_own _ rfl _ _ 24 rfl (w.heap.size + 3) 3 i0 (.int .i64 0) 1 8 Try.underlying24 hi hz0 hz1 hz2 rfl (by decide) _ _ _ rfl (hrow.alloc _) ⟨W.heap.size, 0, none⟩ 1 1 [.int .i64 x] rfl rfl (cell_one_new _ _ _) (by simp [Value.oneCell']) (by unfold maxLen; omega) (by omega) (by simp; omega) ?_; intro v' w1 hown' hgrow _; obtain ⟨g', cap', rfl⟩ := ownsRow_succ hown'; obtain ⟨hv1, hv2, hr2, hk2, hb2, hkp⟩ := app2 hv (by decide) hrow hs3 w.heap.size (by omega) (Nat.le_refl _) (w.heap.size + 1) (by omega) (by omega) hown' hgrow; have hc1 := hv1.cell; have hf1 := hv1.frozen)
    exact ⟨hk2.from _, hkp, ⟨_, hv2, by simpa using hr2, trivial⟩, hB.trans hb2, Nat.le_trans hs3 hb2.size⟩
  case done =>
    rintro D ys W hD rfl ⟨⟨v, hv, hrow, -⟩, hB, -⟩ hK
    have hc := hv.cell
    gi_wp2
    refine ⟨by simp, .inl ⟨_, _, rfl, run_takeDeferred hK, ?_⟩⟩
    exact ⟨_, results_tmp rfl _ _ _, v, rfl, (ownsRow_putObj hrow _ hK rfl).mono (by omega), hB.trans (belowK_b (w := w) (Nat.le_refl _) W D _ _ (by simp at hD; omega) hK rfl rfl)⟩
  case stop =>
    rintro D c pre W _ _ h _
    exact h.elim

end

def dirI (N L : Int) : List Int := if 0 ≤ L ∧ L < N then ups N (2 * L) else []
theorem ups_big {N : Int} (h : 64 < N) (X : Int) : ups N X = [] := by
  apply ups_no
  have : thereI N X = false := by unfold thereI; simp; omega
  simp [aboveI, this]

set_option maxRecDepth 100000 in
theorem direct_no (N L : Int) (h : ¬ (0 ≤ L ∧ L < N)) (w : World) :
    Calls Try.prog 15 #[.int .i64 N, .int .i64 L] w fun e W' => e = .returned (.slice none 0 0) ∧ Below w.heap.size w W' := by
  by_cases h0 : L < 0
  · go_enter Try.func15, Try.ntmps15
    go_wp2
    go_returns
    exact ⟨rfl, Below.refl _ _⟩
  · have h1 : N ≤ L := by omega
    have h2 : 0 ≤ L := by omega
    clear h h0
    go_enter Try.func15, Try.ntmps15
    go_wp2
    go_returns
    exact ⟨rfl, Below.refl _ _⟩

theorem Direct_calls (N L : Int) (w : World) :
    Calls Try.prog 15 #[.int .i64 N, .int .i64 L] w fun e W' => ∃ v, e = .returned v ∧ W'.ownsRow w.heap.size 3 1 v (dirI N L).length ((dirI N L).map (Value.int .i64)) ∧ Below w.heap.size w W' := by
  unfold dirI
  by_cases h : 0 ≤ L ∧ L < N
  · rw [if_pos h]
    by_cases h64 : N ≤ 64
    · exact direct_yes N L h.1 h.2 h64 w
    · have := direct_big N L h.1 h.2 (by omega) w
      rw [ups_big (by omega) (wrap64 (2 * L))] at this
      rw [ups_big (by omega) (2 * L)]
      exact this
  · rw [if_neg h]
    exact (direct_no N L h w).mono fun e W' ⟨a, b⟩ => ⟨_, a, World.ownsRow_nil _ _ _ _, b⟩

theorem RAbove' (n x : Int) (w : World) : Calls Try.prog 30 #[.int .i64 n, .int .i64 x] w fun e w' => e = .returned (.int .i64 (aboveI n x)) ∧ w = w' := by
  rw [← aboveI_eq]; exact RAbove_calls n x w

set_option maxRecDepth 100000 in
set_option maxHeartbeats 1000000 in
theorem rdirect_yes (N L : Int) (h0 : 0 ≤ L) (h1 : L < N) (h64 : N ≤ 64) (w : World) :
    Calls Try.prog 16 #[.int .i64 N, .int .i64 L] w fun e W' => ∃ v, e = .returned v ∧ W'.ownsRow w.heap.size 3 1 v (ups N (2 * L)).length ((ups N (2 * L)).map (Value.int .i64)) ∧ Below w.heap.size w W' := by
  obtain ⟨i0, hi, hz0, hz1, hz2⟩ := info_parts Try.infoI
  have hT : thereI N 0 = true := by unfold thereI; simp; omega
  have hul := ups_len N (2 * L)
  go_enter Try.func16, Try.ntmps16
  go_wp2_with fail
  refine (rthere_calls N 0 _).mono ?_
  rintro e w1 ⟨rfl, rfl⟩
  rw [hT]
  go_wp2_with fail
  refine (RAbove' N (2 * L) _).mono ?_
  rintro e w1 ⟨rfl, rfl⟩
  go_wp2_with fail
  go_loopw [5, 6] (fun o p wr => ∃ (pre : List Int) (y : Int), p = .int .i64 (aboveI N y) ∧ Hid (ups N (2 * L) = pre ++ ups N y) ∧ wr.ownsRow w.heap.size 3 1 o pre.length (pre.map (Value.int .i64)) ∧ Hid (Below w.heap.size w wr)) (fun _ p _ => if intOf p < 0 then 0 else 1 + (ups N (intOf p)).length)
  case atStart => exact ⟨[], 2 * L, rfl, rfl, World.ownsRow_nil _ _ _ _, Below.refl _ _⟩
  case round =>
    obtain ⟨pre, y, rfl, hx, hown, hbel⟩ := hrel
    by_cases hp : aboveI N y < 0
    · rw [ups_no hp, List.append_nil] at hx
      generalize aboveI N y = p at *
      go_wp2
      go_returns
      exact ⟨_, rfl, by rw [hx.out]; exact hown, hbel.out⟩
    · have hy := ups_yes hp
      rw [hy] at hx
      obtain ⟨p, hpe⟩ : ∃ p, aboveI N y = p := ⟨_, rfl⟩
      rw [hpe] at hx hp ⊢
      have hl : pre.length < 7 := by
        have := congrArg List.length hx.out
        simp at this; omega
      clear hy hpe
      have hs := hbel.out.size
      go_wp2_with (at_builtin; refine wpList_append_own _ rfl _ _ 24 rfl w.heap.size 3 i0 (.int .i64 0) 1 8 Try.underlying24 hi hz0 hz1 hz2 rfl (by decide) _ _ _ rfl (hown.alloc _) ⟨wr.heap.size, 0, none⟩ 1 1 [_] rfl rfl (cell_one_new _ _ _) (by simp [Value.oneCell']) (by unfold maxLen; omega) (by omega) (by simp; omega) ?_; intro v' w2 hown' hgrow _; have HG : Hid (Below w.heap.size w w2) := hbel.out.trans (((Below.refl w.heap.size wr).alloc hs _).grown hgrow (by simp; omega) (fun j ej => (hown.lt j ej).1)); clear hgrow hown)
      refine (RAbove' N p _).mono ?_
      rintro e w3 ⟨rfl, rfl⟩
      go_wp2_with fail
      go_roundw
      case rel => exact ⟨pre ++ [p], p, rfl, by show _ = _; rw [hx.out]; simp, by simpa using hown', HG⟩
      case measure =>
        show (if aboveI N p < 0 then 0 else 1 + (ups N (aboveI N p)).length) < (if p < 0 then 0 else 1 + (ups N p).length)
        rw [if_neg (show ¬ p < 0 by omega)]
        by_cases hq : aboveI N p < 0
        · rw [if_pos hq]; omega
        · rw [if_neg hq, ups_yes hq, List.length_cons]; omega
end Go.Proofs.Ytdmjiokeangmmaa.Bg
