/-
  KeysTags: tags are the document's: for every two digests.
-/
import Derived.Test.YtnfegmcdljejnaaAwakeKeys
set_option linter.unusedSimpArgs false
set_option linter.unusedVariables false
namespace Go.Proofs.Ytnfegmcdljejnaa
open Go.RowKit

set_option maxHeartbeats 4000000 in
set_option maxRecDepth 100000 in
theorem walkKeysTags (a : List UInt8) (ha : a.length = 32) (c : List UInt8) (hc : c.length = 32) (w : World) :
    Calls Try.prog 3 #[.agg (a.map bv).toArray, .agg (c.map bv).toArray] w fun e w' => e = .returned (.bool true) ∧ Below w.heap.size w w' := by
  have HA := Lib.hid ha
  have HC := Lib.hid hc
  clear ha hc
  have hA0 : Blk ((w.alloc (.cells (a.map bv).toArray 23)).alloc (.cells (c.map bv).toArray 23)) w.heap.size (a.map bv).toArray 23 := (Blk.new _ _ _).alloc _
  have hC0 : Blk ((w.alloc (.cells (a.map bv).toArray 23)).alloc (.cells (c.map bv).toArray 23)) (w.heap.size + 1) (c.map bv).toArray 23 := blk_new1 _ _ _ _
  have hb0 : Below w.heap.size w ((w.alloc (.cells (a.map bv).toArray 23)).alloc (.cells (c.map bv).toArray 23)) := ((Below.refl _ _).alloc (Nat.le_refl _) _).alloc (by simp) _
  obtain ⟨t, ht⟩ : ∃ t, t = tagT a c := ⟨_, rfl⟩
  have htl : t.length = 32 := by rw [ht]; exact hmac_len _ _
  have c1 : ∀ x, Calls Try.prog 26 #[.agg (a.map bv).toArray, .agg (c.map bv).toArray] x fun e w' => e = .returned (.agg (t.map bv).toArray) ∧ Below x.heap.size x w' := by rw [ht]; exact fun x => Tag_calls a c x HA.out HC.out
  have c2 : ∀ x, Calls Try.prog 27 #[.agg (a.map bv).toArray, .agg (c.map bv).toArray] x fun e w' => e = .returned (.agg (t.map bv).toArray) ∧ Below x.heap.size x w' := by rw [ht]; exact fun x => RefTag_calls a c x HA.out HC.out
  have hq : ∀ x, (Op.equalIn 10000 23 (.agg (t.map bv).toArray) (.agg (t.map bv).toArray)).run Try.prog x = .ok true x := fun x => by
    rw [run_eq_hash x _ _ htl htl, beq_self_eq_true]
  clear ht htl
  go_enter Try.func3, Try.ntmps3
  go_wp2_with fail
  generalize (w.alloc (.cells (a.map bv).toArray 23)).alloc (.cells (c.map bv).toArray 23) = W0 at hA0 hC0 hb0 ⊢
  refine wp_region_held_drew (S := fun x => Blk x (w.heap.size) (a.map bv).toArray 23 ∧ Blk x (w.heap.size + 1) (c.map bv).toArray 23 ∧ Below w.heap.size w x) (by kernel_rfl) ⟨hA0.drew, hC0.drew, below_drewN hb0 1⟩ (fun hHeld1x0 => ?_)
  refine wpAnyH_ready (rs := [0]) (by kernel_rfl) (by simp) ?_
  refine AllReadyH.cons rfl (fun K hK => ?_) AllReadyH.nil
  go_simp
  go_wp2_with (go_at_call 25; refine (awake_calls _).mono ?_; rintro e y1x1 ⟨rfl, b1x1⟩)
  refine hK.out _ _ ⟨hHeld1x0.1.below b1x1 hHeld1x0.1.lt, hHeld1x0.2.1.below b1x1 hHeld1x0.2.1.lt, hHeld1x0.2.2.trans (b1x1.mono hHeld1x0.2.2.size)⟩ (fun hHeld1x1 => ?_)
  clear hK K hHeld1x0 b1x1
  refine wpAnyH_take (i := 1) (v := .bool true) rfl (by kernel_rfl) (by kernel_rfl) (by kernel_rfl) (fun _ _ _ h => h) (Or.inl ⟨by rfl, fun x hx => by go_simp⟩) hHeld1x1 ?_
  simp only [Act.put, List.getElem_toArray, List.getElem_cons_zero, List.getElem_cons_succ, List.setIfInBounds_toArray, List.set_cons_zero, List.set_cons_succ]
  refine wpAnyH_take (i := 2) rfl (by kernel_rfl) (by kernel_rfl) (by kernel_rfl) (fun _ _ _ h => h) (yieldsIf_load_mid (by rfl) 23 (.tmp 2) rfl (w.heap.size) 0 (by rfl) (a.map bv) _ (fun x hx => blk_range hx.1) Try.underlying23 rfl (by rw [List.length_map, HA.out]; exact Try.sizeHash)) hHeld1x1 ?_
  simp only [Act.put, List.getElem_toArray, List.getElem_cons_zero, List.getElem_cons_succ, List.setIfInBounds_toArray, List.set_cons_zero, List.set_cons_succ]
  refine wpAnyH_take (i := 3) rfl (by kernel_rfl) (by kernel_rfl) (by kernel_rfl) (fun _ _ _ h => h) (yieldsIf_load_mid (by rfl) 23 (.tmp 3) rfl (w.heap.size + 1) 0 (by rfl) (c.map bv) _ (fun x hx => blk_range hx.2.1) Try.underlying23 rfl (by rw [List.length_map, HC.out]; exact Try.sizeHash)) hHeld1x1 ?_
  simp only [Act.put, List.getElem_toArray, List.getElem_cons_zero, List.getElem_cons_succ, List.setIfInBounds_toArray, List.set_cons_zero, List.set_cons_succ]
  refine wpAnyH_take (i := 5) rfl (by kernel_rfl) (by kernel_rfl) (by kernel_rfl) (fun _ _ _ h => h) (yieldsIf_load_mid (by rfl) 23 (.tmp 2) rfl (w.heap.size) 0 (by rfl) (a.map bv) _ (fun x hx => blk_range hx.1) Try.underlying23 rfl (by rw [List.length_map, HA.out]; exact Try.sizeHash)) hHeld1x1 ?_
  simp only [Act.put, List.getElem_toArray, List.getElem_cons_zero, List.getElem_cons_succ, List.setIfInBounds_toArray, List.set_cons_zero, List.set_cons_succ]
  refine wpAnyH_take (i := 6) rfl (by kernel_rfl) (by kernel_rfl) (by kernel_rfl) (fun _ _ _ h => h) (yieldsIf_load_mid (by rfl) 23 (.tmp 3) rfl (w.heap.size + 1) 0 (by rfl) (c.map bv) _ (fun x hx => blk_range hx.2.1) Try.underlying23 rfl (by rw [List.length_map, HC.out]; exact Try.sizeHash)) hHeld1x1 ?_
  simp only [Act.put, List.getElem_toArray, List.getElem_cons_zero, List.getElem_cons_succ, List.setIfInBounds_toArray, List.set_cons_zero, List.set_cons_succ]
  refine wpAnyH_ready (rs := [4]) (by kernel_rfl) (by simp) ?_
  refine AllReadyH.cons rfl (fun K hK => ?_) AllReadyH.nil
  go_simp
  go_wp2_with (go_at_call 26; refine (c1 _).mono ?_; rintro e y1x2 ⟨rfl, b1x2⟩)
  refine hK.out _ _ ⟨hHeld1x1.1.below b1x2 hHeld1x1.1.lt, hHeld1x1.2.1.below b1x2 hHeld1x1.2.1.lt, hHeld1x1.2.2.trans (b1x2.mono hHeld1x1.2.2.size)⟩ (fun hHeld1x2 => ?_)
  clear hK K hHeld1x1 b1x2
  refine wpAnyH_ready (rs := [7]) (by kernel_rfl) (by simp) ?_
  refine AllReadyH.cons rfl (fun K hK => ?_) AllReadyH.nil
  go_simp
  go_wp2_with (go_at_call 27; refine (c2 _).mono ?_; rintro e y1x3 ⟨rfl, b1x3⟩)
  refine hK.out _ _ ⟨hHeld1x2.1.below b1x3 hHeld1x2.1.lt, hHeld1x2.2.1.below b1x3 hHeld1x2.2.1.lt, hHeld1x2.2.2.trans (b1x3.mono hHeld1x2.2.2.size)⟩ (fun hHeld1x3 => ?_)
  clear hK K hHeld1x2 b1x3
  refine wpAnyH_take (i := 8) (v := .bool true) rfl (by kernel_rfl) (by kernel_rfl) (by kernel_rfl) (fun _ _ _ h => h) (Or.inl ⟨by rfl, fun x hx => by go_simp⟩) hHeld1x3 ?_
  simp only [Act.put, List.getElem_toArray, List.getElem_cons_zero, List.getElem_cons_succ, List.setIfInBounds_toArray, List.set_cons_zero, List.set_cons_succ]
  refine wpAnyH_take (i := 9) (v := .bool true) rfl (by kernel_rfl) (by kernel_rfl) (by kernel_rfl) (fun _ _ _ h => h) (Or.inl ⟨by rfl, fun x hx => by go_simp⟩) hHeld1x3 ?_
  simp only [Act.put, List.getElem_toArray, List.getElem_cons_zero, List.getElem_cons_succ, List.setIfInBounds_toArray, List.set_cons_zero, List.set_cons_succ]
  refine wpAnyH_ready (rs := [10]) (by kernel_rfl) (by simp) ?_
  refine AllReadyH.cons rfl (fun K hK => ?_) AllReadyH.nil
  go_simp
  refine hK.out _ _ hHeld1x3 (fun hHeld1x4 => ?_)
  clear hK K hHeld1x3
  refine wpAnyH_done (by kernel_rfl) ?_ _
  go_wp2_with fail
  go_returns
  exact ⟨rfl, hHeld1x4.2.2⟩
end Go.Proofs.Ytnfegmcdljejnaa
