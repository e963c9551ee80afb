/-
  PrimPubs: public keys, marks and check keys are the document's: for every digest.
-/
import Derived.Test.YtnfegmcdljejnaaAwakePrim
set_option linter.unusedSimpArgs false
set_option linter.unusedVariables false
namespace Go.Proofs.Ytnfegmcdljejnaa
open Go.RowKit

set_option maxHeartbeats 4000000 in
set_option maxRecDepth 100000 in
theorem walkPrimPubs (a : List UInt8) (ha : a.length = 32) (w : World) :
    Calls Try.prog 13 #[.agg (a.map bv).toArray] w fun e w' => e = .returned (.bool true) ∧ Below w.heap.size w w' := by
  have HA := Lib.hid ha
  clear ha
  have hA0 : Blk (w.alloc (.cells (a.map bv).toArray 23)) w.heap.size (a.map bv).toArray 23 := Blk.new _ _ _
  have hb0 : Below w.heap.size w (w.alloc (.cells (a.map bv).toArray 23)) := (Below.refl _ _).alloc (Nat.le_refl _) _
  obtain ⟨p, hp⟩ : ∃ p, p = pubT a := ⟨_, rfl⟩
  have HP : Hid (p.length = 32) := by show _ = _; rw [hp]; exact pubT_len _
  obtain ⟨m, hm⟩ : ∃ m, m = markT a := ⟨_, rfl⟩
  have HM : Hid (m.length = 32) := by show _ = _; rw [hm]; exact markT_len _
  obtain ⟨v, hv⟩ : ∃ v, v = verT a := ⟨_, rfl⟩
  have HV : Hid (v.length = 32) := by show _ = _; rw [hv]; exact verT_len _
  have c1 : ∀ y, Calls Try.prog 55 #[.pointer none, .agg (a.map bv).toArray] y fun e w' => e = .returned (.agg (p.map bv).toArray) ∧ Below y.heap.size y w' := by rw [hp]; exact fun y => Pub_calls a y HA.out
  have c2 : ∀ y, Calls Try.prog 58 #[.agg (a.map bv).toArray] y fun e w' => e = .returned (.agg (p.map bv).toArray) ∧ Below y.heap.size y w' := by rw [hp]; exact fun y => RefPub_calls a y HA.out
  have c3 : ∀ y, Calls Try.prog 59 #[.agg (a.map bv).toArray] y fun e w' => e = .returned (.agg (m.map bv).toArray) ∧ Below y.heap.size y w' := by rw [hm]; exact fun y => Mark_calls a y HA.out
  have c4 : ∀ y, Calls Try.prog 60 #[.agg (a.map bv).toArray] y fun e w' => e = .returned (.agg (m.map bv).toArray) ∧ Below y.heap.size y w' := by rw [hm]; exact fun y => RefMark_calls a y HA.out
  have c5 : ∀ y, Calls Try.prog 61 #[.agg (a.map bv).toArray] y fun e w' => e = .returned (.agg (v.map bv).toArray) ∧ Below y.heap.size y w' := by rw [hv]; exact fun y => Verify_calls a y HA.out
  have c6 : ∀ y, Calls Try.prog 62 #[.agg (a.map bv).toArray] y fun e w' => e = .returned (.agg (v.map bv).toArray) ∧ Below y.heap.size y w' := by rw [hv]; exact fun y => RefVerify_calls a y HA.out
  have hqp : ∀ x, (Op.equalIn 10000 23 (.agg (p.map bv).toArray) (.agg (p.map bv).toArray)).run Try.prog x = .ok true x := fun x => by rw [run_eq_hash x _ _ HP.out HP.out, beq_self_eq_true]
  have hqm : ∀ x, (Op.equalIn 10000 23 (.agg (m.map bv).toArray) (.agg (m.map bv).toArray)).run Try.prog x = .ok true x := fun x => by rw [run_eq_hash x _ _ HM.out HM.out, beq_self_eq_true]
  have hqv : ∀ x, (Op.equalIn 10000 23 (.agg (v.map bv).toArray) (.agg (v.map bv).toArray)).run Try.prog x = .ok true x := fun x => by rw [run_eq_hash x _ _ HV.out HV.out, beq_self_eq_true]
  clear hp hm hv
  go_enter Try.func13, Try.ntmps13
  go_wp2_with fail
  generalize w.alloc (.cells (a.map bv).toArray 23) = W0 at hA0 hb0 ⊢
  refine wp_region_held_drew (S := fun x => Blk x (w.heap.size) (a.map bv).toArray 23 ∧ Below w.heap.size w x) (by kernel_rfl) ⟨hA0.drew, below_drewN hb0 1⟩ (fun hSq1 => ?_)
  refine wpAnyH_ready (rs := [0]) (by kernel_rfl) (by simp) ?_
  refine AllReadyH.cons rfl (fun K hK => ?_) AllReadyH.nil
  go_simp
  go_wp2_with (go_at_call 48; refine (awake5_calls _).mono ?_; rintro e yq2 ⟨rfl, bq3⟩)
  refine hK.out _ _ ⟨hSq1.1.below bq3 hSq1.1.lt, hSq1.2.trans (bq3.mono hSq1.2.size)⟩ (fun hSq4 => ?_)
  clear hK K hSq1 bq3
  refine wpAnyH_take (i := 1) (v := .bool true) rfl (by kernel_rfl) (by kernel_rfl) (by kernel_rfl) (fun _ _ _ h => h) (Or.inl ⟨by rfl, fun x hx => by go_simp⟩) hSq4 ?_
  simp only [Act.put, List.getElem_toArray, List.getElem_cons_zero, List.getElem_cons_succ, List.setIfInBounds_toArray, List.set_cons_zero, List.set_cons_succ]
  refine wpAnyH_take (i := 2) rfl (by kernel_rfl) (by kernel_rfl) (by kernel_rfl) (fun _ _ _ h => h) (yieldsIf_load_mid (by rfl) 23 (.tmp 1) rfl (w.heap.size) 0 (by rfl) (a.map bv) _ (fun x hx => blk_range hx.1) Try.underlying23 rfl (by rw [List.length_map, HA.out]; exact Try.sizeHash)) hSq4 ?_
  simp only [Act.put, List.getElem_toArray, List.getElem_cons_zero, List.getElem_cons_succ, List.setIfInBounds_toArray, List.set_cons_zero, List.set_cons_succ]
  refine wpAnyH_take (i := 4) rfl (by kernel_rfl) (by kernel_rfl) (by kernel_rfl) (fun _ _ _ h => h) (yieldsIf_load_mid (by rfl) 23 (.tmp 1) rfl (w.heap.size) 0 (by rfl) (a.map bv) _ (fun x hx => blk_range hx.1) Try.underlying23 rfl (by rw [List.length_map, HA.out]; exact Try.sizeHash)) hSq4 ?_
  simp only [Act.put, List.getElem_toArray, List.getElem_cons_zero, List.getElem_cons_succ, List.setIfInBounds_toArray, List.set_cons_zero, List.set_cons_succ]
  refine wpAnyH_ready (rs := [3]) (by kernel_rfl) (by simp) ?_
  refine AllReadyH.cons rfl (fun K hK => ?_) AllReadyH.nil
  go_simp
  go_wp2_with (go_at_call 55; refine (c1 _).mono ?_; rintro e yq5 ⟨rfl, bq6⟩)
  refine hK.out _ _ ⟨hSq4.1.below bq6 hSq4.1.lt, hSq4.2.trans (bq6.mono hSq4.2.size)⟩ (fun hSq7 => ?_)
  clear hK K hSq4 bq6
  refine wpAnyH_ready (rs := [5]) (by kernel_rfl) (by simp) ?_
  refine AllReadyH.cons rfl (fun K hK => ?_) AllReadyH.nil
  go_simp
  go_wp2_with (go_at_call 58; refine (c2 _).mono ?_; rintro e yq8 ⟨rfl, bq9⟩)
  refine hK.out _ _ ⟨hSq7.1.below bq9 hSq7.1.lt, hSq7.2.trans (bq9.mono hSq7.2.size)⟩ (fun hSq10 => ?_)
  clear hK K hSq7 bq9
  refine wpAnyH_take (i := 6) (v := .bool true) rfl (by kernel_rfl) (by kernel_rfl) (by kernel_rfl) (fun _ _ _ h => h) (Or.inl ⟨by rfl, fun x hx => by go_simp⟩) hSq10 ?_
  simp only [Act.put, List.getElem_toArray, List.getElem_cons_zero, List.getElem_cons_succ, List.setIfInBounds_toArray, List.set_cons_zero, List.set_cons_succ]
  refine wpAnyH_take (i := 7) (v := .bool true) rfl (by kernel_rfl) (by kernel_rfl) (by kernel_rfl) (fun _ _ _ h => h) (Or.inl ⟨by rfl, fun x hx => by go_simp⟩) hSq10 ?_
  simp only [Act.put, List.getElem_toArray, List.getElem_cons_zero, List.getElem_cons_succ, List.setIfInBounds_toArray, List.set_cons_zero, List.set_cons_succ]
  refine wpAnyH_take (i := 8) (v := .bool true) rfl (by kernel_rfl) (by kernel_rfl) (by kernel_rfl) (fun _ _ _ h => h) (Or.inl ⟨by rfl, fun x hx => by go_simp⟩) hSq10 ?_
  simp only [Act.put, List.getElem_toArray, List.getElem_cons_zero, List.getElem_cons_succ, List.setIfInBounds_toArray, List.set_cons_zero, List.set_cons_succ]
  refine wpAnyH_take (i := 9) rfl (by kernel_rfl) (by kernel_rfl) (by kernel_rfl) (fun _ _ _ h => h) (yieldsIf_load_mid (by rfl) 23 (.tmp 1) rfl (w.heap.size) 0 (by rfl) (a.map bv) _ (fun x hx => blk_range hx.1) Try.underlying23 rfl (by rw [List.length_map, HA.out]; exact Try.sizeHash)) hSq10 ?_
  simp only [Act.put, List.getElem_toArray, List.getElem_cons_zero, List.getElem_cons_succ, List.setIfInBounds_toArray, List.set_cons_zero, List.set_cons_succ]
  refine wpAnyH_take (i := 11) rfl (by kernel_rfl) (by kernel_rfl) (by kernel_rfl) (fun _ _ _ h => h) (yieldsIf_load_mid (by rfl) 23 (.tmp 1) rfl (w.heap.size) 0 (by rfl) (a.map bv) _ (fun x hx => blk_range hx.1) Try.underlying23 rfl (by rw [List.length_map, HA.out]; exact Try.sizeHash)) hSq10 ?_
  simp only [Act.put, List.getElem_toArray, List.getElem_cons_zero, List.getElem_cons_succ, List.setIfInBounds_toArray, List.set_cons_zero, List.set_cons_succ]
  refine wpAnyH_ready (rs := [10]) (by kernel_rfl) (by simp) ?_
  refine AllReadyH.cons rfl (fun K hK => ?_) AllReadyH.nil
  go_simp
  go_wp2_with (go_at_call 59; refine (c3 _).mono ?_; rintro e yq11 ⟨rfl, bq12⟩)
  refine hK.out _ _ ⟨hSq10.1.below bq12 hSq10.1.lt, hSq10.2.trans (bq12.mono hSq10.2.size)⟩ (fun hSq13 => ?_)
  clear hK K hSq10 bq12
  refine wpAnyH_ready (rs := [12]) (by kernel_rfl) (by simp) ?_
  refine AllReadyH.cons rfl (fun K hK => ?_) AllReadyH.nil
  go_simp
  go_wp2_with (go_at_call 60; refine (c4 _).mono ?_; rintro e yq14 ⟨rfl, bq15⟩)
  refine hK.out _ _ ⟨hSq13.1.below bq15 hSq13.1.lt, hSq13.2.trans (bq15.mono hSq13.2.size)⟩ (fun hSq16 => ?_)
  clear hK K hSq13 bq15
  refine wpAnyH_take (i := 13) (v := .bool true) rfl (by kernel_rfl) (by kernel_rfl) (by kernel_rfl) (fun _ _ _ h => h) (Or.inl ⟨by rfl, fun x hx => by go_simp⟩) hSq16 ?_
  simp only [Act.put, List.getElem_toArray, List.getElem_cons_zero, List.getElem_cons_succ, List.setIfInBounds_toArray, List.set_cons_zero, List.set_cons_succ]
  refine wpAnyH_take (i := 14) (v := .bool true) rfl (by kernel_rfl) (by kernel_rfl) (by kernel_rfl) (fun _ _ _ h => h) (Or.inl ⟨by rfl, fun x hx => by go_simp⟩) hSq16 ?_
  simp only [Act.put, List.getElem_toArray, List.getElem_cons_zero, List.getElem_cons_succ, List.setIfInBounds_toArray, List.set_cons_zero, List.set_cons_succ]
  refine wpAnyH_take (i := 15) (v := .bool true) rfl (by kernel_rfl) (by kernel_rfl) (by kernel_rfl) (fun _ _ _ h => h) (Or.inl ⟨by rfl, fun x hx => by go_simp⟩) hSq16 ?_
  simp only [Act.put, List.getElem_toArray, List.getElem_cons_zero, List.getElem_cons_succ, List.setIfInBounds_toArray, List.set_cons_zero, List.set_cons_succ]
  refine wpAnyH_take (i := 16) rfl (by kernel_rfl) (by kernel_rfl) (by kernel_rfl) (fun _ _ _ h => h) (yieldsIf_load_mid (by rfl) 23 (.tmp 1) rfl (w.heap.size) 0 (by rfl) (a.map bv) _ (fun x hx => blk_range hx.1) Try.underlying23 rfl (by rw [List.length_map, HA.out]; exact Try.sizeHash)) hSq16 ?_
  simp only [Act.put, List.getElem_toArray, List.getElem_cons_zero, List.getElem_cons_succ, List.setIfInBounds_toArray, List.set_cons_zero, List.set_cons_succ]
  refine wpAnyH_take (i := 18) rfl (by kernel_rfl) (by kernel_rfl) (by kernel_rfl) (fun _ _ _ h => h) (yieldsIf_load_mid (by rfl) 23 (.tmp 1) rfl (w.heap.size) 0 (by rfl) (a.map bv) _ (fun x hx => blk_range hx.1) Try.underlying23 rfl (by rw [List.length_map, HA.out]; exact Try.sizeHash)) hSq16 ?_
  simp only [Act.put, List.getElem_toArray, List.getElem_cons_zero, List.getElem_cons_succ, List.setIfInBounds_toArray, List.set_cons_zero, List.set_cons_succ]
  refine wpAnyH_ready (rs := [17]) (by kernel_rfl) (by simp) ?_
  refine AllReadyH.cons rfl (fun K hK => ?_) AllReadyH.nil
  go_simp
  go_wp2_with (go_at_call 61; refine (c5 _).mono ?_; rintro e yq17 ⟨rfl, bq18⟩)
  refine hK.out _ _ ⟨hSq16.1.below bq18 hSq16.1.lt, hSq16.2.trans (bq18.mono hSq16.2.size)⟩ (fun hSq19 => ?_)
  clear hK K hSq16 bq18
  refine wpAnyH_ready (rs := [19]) (by kernel_rfl) (by simp) ?_
  refine AllReadyH.cons rfl (fun K hK => ?_) AllReadyH.nil
  go_simp
  go_wp2_with (go_at_call 62; refine (c6 _).mono ?_; rintro e yq20 ⟨rfl, bq21⟩)
  refine hK.out _ _ ⟨hSq19.1.below bq21 hSq19.1.lt, hSq19.2.trans (bq21.mono hSq19.2.size)⟩ (fun hSq22 => ?_)
  clear hK K hSq19 bq21
  refine wpAnyH_take (i := 20) (v := .bool true) rfl (by kernel_rfl) (by kernel_rfl) (by kernel_rfl) (fun _ _ _ h => h) (Or.inl ⟨by rfl, fun x hx => by go_simp⟩) hSq22 ?_
  simp only [Act.put, List.getElem_toArray, List.getElem_cons_zero, List.getElem_cons_succ, List.setIfInBounds_toArray, List.set_cons_zero, List.set_cons_succ]
  refine wpAnyH_take (i := 21) (v := .bool true) rfl (by kernel_rfl) (by kernel_rfl) (by kernel_rfl) (fun _ _ _ h => h) (Or.inl ⟨by rfl, fun x hx => by go_simp⟩) hSq22 ?_
  simp only [Act.put, List.getElem_toArray, List.getElem_cons_zero, List.getElem_cons_succ, List.setIfInBounds_toArray, List.set_cons_zero, List.set_cons_succ]
  refine wpAnyH_ready (rs := [22]) (by kernel_rfl) (by simp) ?_
  refine AllReadyH.cons rfl (fun K hK => ?_) AllReadyH.nil
  go_simp
  refine hK.out _ _ hSq22 (fun hSq23 => ?_)
  clear hK K hSq22
  refine wpAnyH_done (by kernel_rfl) ?_ _
  go_wp2_with fail
  go_returns
  exact ⟨rfl, hSq23.2⟩
end Go.Proofs.Ytnfegmcdljejnaa
