/-
  KeysRoots: the roots of rows are the document's: for every digest and place.
-/
import Derived.Test.YtnfegmcdljejnaaAwakeKeys
set_option linter.unusedSimpArgs false
set_option linter.unusedVariables false
namespace Go.Proofs.Ytnfegmcdljejnaa
open Go.RowKit

set_option maxHeartbeats 4000000 in
set_option maxRecDepth 100000 in
theorem walkKeysRoots (a : List UInt8) (ha : a.length = 32) (n : Int) (hn : (Lit.int .i64 n).wf = true) (w : World) :
    Calls Try.prog 6 #[.agg (a.map bv).toArray, .int .i64 n] w fun e w' => e = .returned (.bool true) ∧ Below w.heap.size w w' := by
  have HA := Lib.hid ha
  clear ha
  have hA0 : Blk (w.alloc (.cells (a.map bv).toArray 23)) w.heap.size (a.map bv).toArray 23 := Blk.new _ _ _
  have hb0 : Below w.heap.size w (w.alloc (.cells (a.map bv).toArray 23)) := (Below.refl _ _).alloc (Nat.le_refl _) _
  by_cases hbad : n < 0 ∨ 64 ≤ n
  · have hq : ∀ x, (Op.equalIn 10000 23 (.agg ((List.replicate 32 (0 : UInt8)).map bv).toArray) (.agg (z32.map bv).toArray)).run Try.prog x = .ok true x := fun x => by
      rw [run_eq_hash x _ _ rfl rfl]; rfl
    have HB := Lib.hid hbad
    rcases hbad with hbad | hbad
    all_goals
      go_enter Try.func6, Try.ntmps6
      go_wp2_with fail
      generalize w.alloc (.cells (a.map bv).toArray 23) = W0 at hA0 hb0 ⊢
      refine (awake_calls _).mono ?_
      rintro e w1 ⟨rfl, b1⟩
      have hA1 := hA0.below b1 hA0.lt
      have hb1 := hb0.trans (b1.mono hb0.size)
      go_wp2_with ((with_reducible show wpList _ _ _ (⟨some 13, _, _, _, _, _⟩ :: _) _ _); refine wpList_if (by rfl) (wp_load_mid 23 (.tmp 2) rfl w.heap.size 0 (by rfl) (a.map bv) _ (blk_range hA1) Try.underlying23 rfl (by rw [List.length_map, HA.out]; exact Try.sizeHash) ?_))
      refine (AppBad_calls a n _ HA.out HB.out).mono ?_
      rintro e w2 ⟨rfl, b2⟩
      generalize hz : (List.replicate 32 (0 : UInt8)).map bv = z at hq ⊢
      go_wp2_with ((with_reducible show wpList _ _ _ (⟨some 16, _, _, _, _, _⟩ :: _) _ _); refine wpList_if (by rfl) (wp_buildCells 23 #[] rfl _ Try.builtZ ?_))
      go_returns
      exact ⟨rfl, hb1.trans (b2.mono hb1.size)⟩
  · have h0 : 0 ≤ n := by omega
    have h1 : n < 64 := by omega
    clear hbad
    obtain ⟨t, ht⟩ : ∃ t, t = appT a n.toNat := ⟨_, rfl⟩
    have htl : t.length = 32 := by rw [ht]; exact appT_len _ _
    have c1 : ∀ x, Calls Try.prog 32 #[.pointer none, .agg (a.map bv).toArray, .int .i64 n] x fun e w' => e = .returned (.agg (t.map bv).toArray) ∧ Below x.heap.size x w' := by rw [ht]; exact fun x => App_calls a n x HA.out h0 h1
    have c2 : ∀ x, Calls Try.prog 33 #[.agg (a.map bv).toArray, .int .i64 n] x fun e w' => e = .returned (.agg (t.map bv).toArray) ∧ Below x.heap.size x w' := by rw [ht]; exact fun x => RefApp_calls a n x HA.out h0 (by omega)
    have hq : ∀ x, (Op.equalIn 10000 23 (.agg (t.map bv).toArray) (.agg (t.map bv).toArray)).run Try.prog x = .ok true x := fun x => by
      rw [run_eq_hash x _ _ htl htl, beq_self_eq_true]
    clear ht htl
    go_enter Try.func6, Try.ntmps6
    go_wp2_with fail
    generalize w.alloc (.cells (a.map bv).toArray 23) = W0 at hA0 hb0 ⊢
    refine wp_region_held_drew (S := fun x => Blk x (w.heap.size) (a.map bv).toArray 23 ∧ Below w.heap.size w x) (by kernel_rfl) ⟨hA0.drew, below_drewN hb0 1⟩ (fun hHeld2x0 => ?_)
    refine wpAnyH_ready (rs := [0]) (by kernel_rfl) (by simp) ?_
    refine AllReadyH.cons rfl (fun K hK => ?_) AllReadyH.nil
    go_simp
    go_wp2_with (go_at_call 25; refine (awake_calls _).mono ?_; rintro e y2x1 ⟨rfl, b2x1⟩)
    refine hK.out _ _ ⟨hHeld2x0.1.below b2x1 hHeld2x0.1.lt, hHeld2x0.2.trans (b2x1.mono hHeld2x0.2.size)⟩ (fun hHeld2x1 => ?_)
    clear hK K hHeld2x0 b2x1
    refine wpAnyH_take (i := 1) (v := .bool true) rfl (by kernel_rfl) (by kernel_rfl) (by kernel_rfl) (fun _ _ _ h => h) (Or.inl ⟨by rfl, fun x hx => by go_simp⟩) hHeld2x1 ?_
    simp only [Act.put, List.getElem_toArray, List.getElem_cons_zero, List.getElem_cons_succ, List.setIfInBounds_toArray, List.set_cons_zero, List.set_cons_succ]
    refine wpAnyH_take (i := 2) rfl (by kernel_rfl) (by kernel_rfl) (by kernel_rfl) (fun _ _ _ h => h) (yieldsIf_load_mid (by rfl) 23 (.tmp 2) rfl (w.heap.size) 0 (by rfl) (a.map bv) _ (fun x hx => blk_range hx.1) Try.underlying23 rfl (by rw [List.length_map, HA.out]; exact Try.sizeHash)) hHeld2x1 ?_
    simp only [Act.put, List.getElem_toArray, List.getElem_cons_zero, List.getElem_cons_succ, List.setIfInBounds_toArray, List.set_cons_zero, List.set_cons_succ]
    refine wpAnyH_take (i := 3) (v := .int .i64 n) rfl (by kernel_rfl) (by kernel_rfl) (by kernel_rfl) (fun _ _ _ h => h) (Or.inl ⟨by rfl, fun x hx => by go_simp⟩) hHeld2x1 ?_
    simp only [Act.put, List.getElem_toArray, List.getElem_cons_zero, List.getElem_cons_succ, List.setIfInBounds_toArray, List.set_cons_zero, List.set_cons_succ]
    refine wpAnyH_take (i := 5) rfl (by kernel_rfl) (by kernel_rfl) (by kernel_rfl) (fun _ _ _ h => h) (yieldsIf_load_mid (by rfl) 23 (.tmp 2) rfl (w.heap.size) 0 (by rfl) (a.map bv) _ (fun x hx => blk_range hx.1) Try.underlying23 rfl (by rw [List.length_map, HA.out]; exact Try.sizeHash)) hHeld2x1 ?_
    simp only [Act.put, List.getElem_toArray, List.getElem_cons_zero, List.getElem_cons_succ, List.setIfInBounds_toArray, List.set_cons_zero, List.set_cons_succ]
    refine wpAnyH_take (i := 6) (v := .int .i64 n) rfl (by kernel_rfl) (by kernel_rfl) (by kernel_rfl) (fun _ _ _ h => h) (Or.inl ⟨by rfl, fun x hx => by go_simp⟩) hHeld2x1 ?_
    simp only [Act.put, List.getElem_toArray, List.getElem_cons_zero, List.getElem_cons_succ, List.setIfInBounds_toArray, List.set_cons_zero, List.set_cons_succ]
    refine wpAnyH_ready (rs := [4]) (by kernel_rfl) (by simp) ?_
    refine AllReadyH.cons rfl (fun K hK => ?_) AllReadyH.nil
    go_simp
    go_wp2_with (go_at_call 32; refine (c1 _).mono ?_; rintro e y2x2 ⟨rfl, b2x2⟩)
    refine hK.out _ _ ⟨hHeld2x1.1.below b2x2 hHeld2x1.1.lt, hHeld2x1.2.trans (b2x2.mono hHeld2x1.2.size)⟩ (fun hHeld2x2 => ?_)
    clear hK K hHeld2x1 b2x2
    refine wpAnyH_ready (rs := [7]) (by kernel_rfl) (by simp) ?_
    refine AllReadyH.cons rfl (fun K hK => ?_) AllReadyH.nil
    go_simp
    go_wp2_with (go_at_call 33; refine (c2 _).mono ?_; rintro e y2x3 ⟨rfl, b2x3⟩)
    refine hK.out _ _ ⟨hHeld2x2.1.below b2x3 hHeld2x2.1.lt, hHeld2x2.2.trans (b2x3.mono hHeld2x2.2.size)⟩ (fun hHeld2x3 => ?_)
    clear hK K hHeld2x2 b2x3
    refine wpAnyH_take (i := 8) (v := .bool true) rfl (by kernel_rfl) (by kernel_rfl) (by kernel_rfl) (fun _ _ _ h => h) (Or.inl ⟨by rfl, fun x hx => by go_simp⟩) hHeld2x3 ?_
    simp only [Act.put, List.getElem_toArray, List.getElem_cons_zero, List.getElem_cons_succ, List.setIfInBounds_toArray, List.set_cons_zero, List.set_cons_succ]
    refine wpAnyH_take (i := 9) (v := .bool true) rfl (by kernel_rfl) (by kernel_rfl) (by kernel_rfl) (fun _ _ _ h => h) (Or.inl ⟨by rfl, fun x hx => by go_simp⟩) hHeld2x3 ?_
    simp only [Act.put, List.getElem_toArray, List.getElem_cons_zero, List.getElem_cons_succ, List.setIfInBounds_toArray, List.set_cons_zero, List.set_cons_succ]
    refine wpAnyH_ready (rs := [10]) (by kernel_rfl) (by simp) ?_
    refine AllReadyH.cons rfl (fun K hK => ?_) AllReadyH.nil
    go_simp
    refine hK.out _ _ hHeld2x3 (fun hHeld2x4 => ?_)
    clear hK K hHeld2x3
    refine wpAnyH_done (by kernel_rfl) ?_ _
    go_wp2_with fail
    go_returns
    exact ⟨rfl, hHeld2x4.2⟩
end Go.Proofs.Ytnfegmcdljejnaa
