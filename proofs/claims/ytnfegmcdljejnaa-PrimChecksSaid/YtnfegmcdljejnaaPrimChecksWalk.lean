/-
  PrimChecks: a signature is right just if it is the document's: for every two digests and every text.
-/
import Derived.Test.YtnfegmcdljejnaaAwakePrim
set_option linter.unusedSimpArgs false
set_option linter.unusedVariables false
namespace Go.Proofs.Ytnfegmcdljejnaa
open Go.RowKit

set_option maxHeartbeats 4000000 in
set_option maxRecDepth 100000 in
theorem walkPrimChecks (v : List UInt8) (hv : v.length = 32) (s : List UInt8) (hm : s.length ≤ maxLen) (c : List UInt8) (hc : c.length = 32) (w : World) :
    Calls Try.prog 14 #[.agg (v.map bv).toArray, .string (str s), .agg (c.map bv).toArray] w fun e w' => e = .returned (.bool true) ∧ Below w.heap.size w w' := by
  have HV := Lib.hid hv
  have HC := Lib.hid hc
  clear hv hc
  unfold maxLen at hm
  have hV0 : Blk ((w.alloc (.cells (v.map bv).toArray 23)).alloc (.cells (c.map bv).toArray 23)) w.heap.size (v.map bv).toArray 23 := (Blk.new _ _ _).alloc _
  have hC0 : Blk ((w.alloc (.cells (v.map bv).toArray 23)).alloc (.cells (c.map bv).toArray 23)) (w.heap.size + 1) (c.map bv).toArray 23 := blk_new1 _ _ _ _
  have hb0 : Below w.heap.size w ((w.alloc (.cells (v.map bv).toArray 23)).alloc (.cells (c.map bv).toArray 23)) := ((Below.refl _ _).alloc (Nat.le_refl _) _).alloc (by simp) _
  by_cases hl : s.length ≤ 3000
  · skip
    obtain ⟨t, ht⟩ : ∃ t, t = signT v s := ⟨_, rfl⟩
    have HTT : Hid (t.length = 32) := by show _ = _; rw [ht]; exact signT_len _ _
    obtain ⟨b, hb⟩ : ∃ b, b = (t == c) := ⟨_, rfl⟩
    have c1 : ∀ y, Calls Try.prog 63 #[.agg (v.map bv).toArray, .string (str s)] y fun e w' => e = .returned (.agg (t.map bv).toArray) ∧ Below y.heap.size y w' := by rw [ht]; exact fun y => RefSign_calls v s y HV.out (by omega)
    have c2 : ∀ y, Calls Try.prog 64 #[.agg (v.map bv).toArray, .string (str s), .agg (c.map bv).toArray] y fun e w' => e = .returned (.bool b) ∧ Below y.heap.size y w' := by rw [hb, ht]; exact fun y => Check_calls v s c y HV.out (by omega) HC.out
    have c3 : ∀ y, Calls Try.prog 64 #[.agg (v.map bv).toArray, .string (str s), .agg (t.map bv).toArray] y fun e w' => e = .returned (.bool true) ∧ Below y.heap.size y w' := fun y => by
      have h := Check_calls v s t y HV.out (by omega) HTT.out
      rw [← ht, beq_self_eq_true] at h
      exact h
    have hq1 : ∀ x, (Op.equalIn 10000 23 (.agg (c.map bv).toArray) (.agg (t.map bv).toArray)).run Try.prog x = .ok b x := fun x => by rw [run_eq_hash x _ _ HC.out HTT.out, hb]; rw [BEq.comm (a := c)]
    clear ht hb
    go_enter Try.func14, Try.ntmps14
    go_wp2_with ((with_reducible show wpList _ _ _ (⟨some 12, _, _, _, _, _⟩ :: _) _ _); refine wpList_load_mid rfl 23 (.tmp 3) rfl (w.heap.size) 0 (by rfl) (v.map bv) _ (blk_range hV0) Try.underlying23 rfl (by rw [List.length_map, HV.out]; exact Try.sizeHash) ?_)
    generalize (w.alloc (.cells (v.map bv).toArray 23)).alloc (.cells (c.map bv).toArray 23) = W0 at hV0 hC0 hb0 ⊢
    refine (c1 _).mono ?_
    rintro e w1 ⟨rfl, b1⟩
    have hV1 := (hV0.below b1 hV0.lt).alloc (.cells Z32 23)
    have hC1 := (hC0.below b1 hC0.lt).alloc (.cells Z32 23)
    have hs1 : w.heap.size + 1 < w1.heap.size := (hC0.below b1 hC0.lt).lt
    have hb1 : Below w.heap.size w w1 := hb0.trans (b1.mono hb0.size)
    have hN := Blk.new w1 Z32 23
    have hb2 : Below w.heap.size w (w1.alloc (.cells Z32 23)) := hb1.alloc hb1.size _
    clear b1 hV0 hC0 hb0 hb1 c1
    go_wp2_with ((with_reducible show wpList _ _ _ (⟨none, Op.store _ (.tmp 7) _, _, _, _, _⟩ :: _) _ _); refine wpList_storeBlk rfl 23 (.tmp 7) (.tmp 14) rfl w1.heap.size (t.map bv).toArray (by rfl) (by rfl) _ _ hN (by rw [bv_size, HTT.out]; exact Try.sizeHash) (by rw [bv_size, HTT.out, Z32_size]) (bv_all _) ?_; intro w2 hT2 g2; have hV3 := Blk.grown hV1 g2 (by simp; omega); have hC3 := Blk.grown hC1 g2 (by simp; omega); have hb3 : Below w.heap.size w w2 := below_new hb2 g2 (by omega) (by simp; omega); clear hN hV1 hC1 hb2 g2)
    generalize w1.heap.size = G at hT2 hs1 ⊢
    refine wp_region_held_drew (S := fun x => Blk x (w.heap.size) (v.map bv).toArray 23 ∧ Blk x (w.heap.size + 1) (c.map bv).toArray 23 ∧ Blk x (G) (t.map bv).toArray 23 ∧ Below w.heap.size w x) (by kernel_rfl) ⟨hV3.drew, hC3.drew, hT2.drew, below_drewN hb3 1⟩ (fun hSq24 => ?_)
    refine wpAnyH_ready (rs := [0]) (by kernel_rfl) (by simp) ?_
    refine AllReadyH.cons rfl (fun K hK => ?_) AllReadyH.nil
    go_simp
    go_wp2_with (go_at_call 48; refine (awake5_calls _).mono ?_; rintro e yq25 ⟨rfl, bq26⟩)
    refine hK.out _ _ ⟨hSq24.1.below bq26 hSq24.1.lt, hSq24.2.1.below bq26 hSq24.2.1.lt, hSq24.2.2.1.below bq26 hSq24.2.2.1.lt, hSq24.2.2.2.trans (bq26.mono hSq24.2.2.2.size)⟩ (fun hSq27 => ?_)
    clear hK K hSq24 bq26
    refine wpAnyH_take (i := 1) (v := .bool true) rfl (by kernel_rfl) (by kernel_rfl) (by kernel_rfl) (fun _ _ _ h => h) (Or.inl ⟨by rfl, fun x hx => by go_simp⟩) hSq27 ?_
    simp only [Act.put, List.getElem_toArray, List.getElem_cons_zero, List.getElem_cons_succ, List.setIfInBounds_toArray, List.set_cons_zero, List.set_cons_succ]
    refine wpAnyH_take (i := 2) rfl (by kernel_rfl) (by kernel_rfl) (by kernel_rfl) (fun _ _ _ h => h) (yieldsIf_load_mid (by rfl) 23 (.tmp 3) rfl (w.heap.size) 0 (by rfl) (v.map bv) _ (fun x hx => blk_range hx.1) Try.underlying23 rfl (by rw [List.length_map, HV.out]; exact Try.sizeHash)) hSq27 ?_
    simp only [Act.put, List.getElem_toArray, List.getElem_cons_zero, List.getElem_cons_succ, List.setIfInBounds_toArray, List.set_cons_zero, List.set_cons_succ]
    refine wpAnyH_take (i := 3) (v := .string (str s)) rfl (by kernel_rfl) (by kernel_rfl) (by kernel_rfl) (fun _ _ _ h => h) (Or.inl ⟨by rfl, fun x hx => by go_simp⟩) hSq27 ?_
    simp only [Act.put, List.getElem_toArray, List.getElem_cons_zero, List.getElem_cons_succ, List.setIfInBounds_toArray, List.set_cons_zero, List.set_cons_succ]
    refine wpAnyH_take (i := 4) rfl (by kernel_rfl) (by kernel_rfl) (by kernel_rfl) (fun _ _ _ h => h) (yieldsIf_load_mid (by rfl) 23 (.tmp 5) rfl (w.heap.size + 1) 0 (by rfl) (c.map bv) _ (fun x hx => blk_range hx.2.1) Try.underlying23 rfl (by rw [List.length_map, HC.out]; exact Try.sizeHash)) hSq27 ?_
    simp only [Act.put, List.getElem_toArray, List.getElem_cons_zero, List.getElem_cons_succ, List.setIfInBounds_toArray, List.set_cons_zero, List.set_cons_succ]
    refine wpAnyH_take (i := 6) rfl (by kernel_rfl) (by kernel_rfl) (by kernel_rfl) (fun _ _ _ h => h) (yieldsIf_load_mid (by rfl) 23 (.tmp 5) rfl (w.heap.size + 1) 0 (by rfl) (c.map bv) _ (fun x hx => blk_range hx.2.1) Try.underlying23 rfl (by rw [List.length_map, HC.out]; exact Try.sizeHash)) hSq27 ?_
    simp only [Act.put, List.getElem_toArray, List.getElem_cons_zero, List.getElem_cons_succ, List.setIfInBounds_toArray, List.set_cons_zero, List.set_cons_succ]
    refine wpAnyH_take (i := 7) rfl (by kernel_rfl) (by kernel_rfl) (by kernel_rfl) (fun _ _ _ h => h) (yieldsIf_load_mid (by rfl) 23 (.tmp 7) rfl (G) 0 (by rfl) (t.map bv) _ (fun x hx => blk_range hx.2.2.1) Try.underlying23 rfl (by rw [List.length_map, HTT.out]; exact Try.sizeHash)) hSq27 ?_
    simp only [Act.put, List.getElem_toArray, List.getElem_cons_zero, List.getElem_cons_succ, List.setIfInBounds_toArray, List.set_cons_zero, List.set_cons_succ]
    refine wpAnyH_take (i := 8) (v := .bool b) rfl (by kernel_rfl) (by kernel_rfl) (by kernel_rfl) (fun _ _ _ h => h) (Or.inl ⟨by rfl, fun x hx => by go_simp⟩) hSq27 ?_
    simp only [Act.put, List.getElem_toArray, List.getElem_cons_zero, List.getElem_cons_succ, List.setIfInBounds_toArray, List.set_cons_zero, List.set_cons_succ]
    refine wpAnyH_ready (rs := [5]) (by kernel_rfl) (by simp) ?_
    refine AllReadyH.cons rfl (fun K hK => ?_) AllReadyH.nil
    go_simp
    go_wp2_with (go_at_call 64; refine (c2 _).mono ?_; rintro e yq28 ⟨rfl, bq29⟩)
    refine hK.out _ _ ⟨hSq27.1.below bq29 hSq27.1.lt, hSq27.2.1.below bq29 hSq27.2.1.lt, hSq27.2.2.1.below bq29 hSq27.2.2.1.lt, hSq27.2.2.2.trans (bq29.mono hSq27.2.2.2.size)⟩ (fun hSq30 => ?_)
    clear hK K hSq27 bq29
    refine wpAnyH_take (i := 9) (v := .bool true) rfl (by kernel_rfl) (by kernel_rfl) (by kernel_rfl) (fun _ _ _ h => h) (Or.inl ⟨by rfl, fun x hx => by go_simp⟩) hSq30 ?_
    simp only [Act.put, List.getElem_toArray, List.getElem_cons_zero, List.getElem_cons_succ, List.setIfInBounds_toArray, List.set_cons_zero, List.set_cons_succ]
    refine wpAnyH_take (i := 10) (v := .bool true) rfl (by kernel_rfl) (by kernel_rfl) (by kernel_rfl) (fun _ _ _ h => h) (Or.inl ⟨by rfl, fun x hx => by go_simp⟩) hSq30 ?_
    simp only [Act.put, List.getElem_toArray, List.getElem_cons_zero, List.getElem_cons_succ, List.setIfInBounds_toArray, List.set_cons_zero, List.set_cons_succ]
    refine wpAnyH_take (i := 11) (v := .bool true) rfl (by kernel_rfl) (by kernel_rfl) (by kernel_rfl) (fun _ _ _ h => h) (Or.inl ⟨by rfl, fun x hx => by go_simp⟩) hSq30 ?_
    simp only [Act.put, List.getElem_toArray, List.getElem_cons_zero, List.getElem_cons_succ, List.setIfInBounds_toArray, List.set_cons_zero, List.set_cons_succ]
    refine wpAnyH_take (i := 12) rfl (by kernel_rfl) (by kernel_rfl) (by kernel_rfl) (fun _ _ _ h => h) (yieldsIf_load_mid (by rfl) 23 (.tmp 3) rfl (w.heap.size) 0 (by rfl) (v.map bv) _ (fun x hx => blk_range hx.1) Try.underlying23 rfl (by rw [List.length_map, HV.out]; exact Try.sizeHash)) hSq30 ?_
    simp only [Act.put, List.getElem_toArray, List.getElem_cons_zero, List.getElem_cons_succ, List.setIfInBounds_toArray, List.set_cons_zero, List.set_cons_succ]
    refine wpAnyH_take (i := 13) (v := .string (str s)) rfl (by kernel_rfl) (by kernel_rfl) (by kernel_rfl) (fun _ _ _ h => h) (Or.inl ⟨by rfl, fun x hx => by go_simp⟩) hSq30 ?_
    simp only [Act.put, List.getElem_toArray, List.getElem_cons_zero, List.getElem_cons_succ, List.setIfInBounds_toArray, List.set_cons_zero, List.set_cons_succ]
    refine wpAnyH_take (i := 14) rfl (by kernel_rfl) (by kernel_rfl) (by kernel_rfl) (fun _ _ _ h => h) (yieldsIf_load_mid (by rfl) 23 (.tmp 7) rfl (G) 0 (by rfl) (t.map bv) _ (fun x hx => blk_range hx.2.2.1) Try.underlying23 rfl (by rw [List.length_map, HTT.out]; exact Try.sizeHash)) hSq30 ?_
    simp only [Act.put, List.getElem_toArray, List.getElem_cons_zero, List.getElem_cons_succ, List.setIfInBounds_toArray, List.set_cons_zero, List.set_cons_succ]
    refine wpAnyH_ready (rs := [15]) (by kernel_rfl) (by simp) ?_
    refine AllReadyH.cons rfl (fun K hK => ?_) AllReadyH.nil
    go_simp
    go_wp2_with (go_at_call 64; refine (c3 _).mono ?_; rintro e yq31 ⟨rfl, bq32⟩)
    refine hK.out _ _ ⟨hSq30.1.below bq32 hSq30.1.lt, hSq30.2.1.below bq32 hSq30.2.1.lt, hSq30.2.2.1.below bq32 hSq30.2.2.1.lt, hSq30.2.2.2.trans (bq32.mono hSq30.2.2.2.size)⟩ (fun hSq33 => ?_)
    clear hK K hSq30 bq32
    refine wpAnyH_take (i := 16) (v := .bool true) rfl (by kernel_rfl) (by kernel_rfl) (by kernel_rfl) (fun _ _ _ h => h) (Or.inl ⟨by rfl, fun x hx => by go_simp⟩) hSq33 ?_
    simp only [Act.put, List.getElem_toArray, List.getElem_cons_zero, List.getElem_cons_succ, List.setIfInBounds_toArray, List.set_cons_zero, List.set_cons_succ]
    refine wpAnyH_ready (rs := [17]) (by kernel_rfl) (by simp) ?_
    refine AllReadyH.cons rfl (fun K hK => ?_) AllReadyH.nil
    go_simp
    refine hK.out _ _ hSq33 (fun hSq34 => ?_)
    clear hK K hSq33
    refine wpAnyH_done (by kernel_rfl) ?_ _
    go_wp2_with fail
    go_returns
    exact ⟨rfl, hSq34.2.2.2⟩
  · have hl2 : 3000 < s.length := by omega
    go_enter Try.func14, Try.ntmps14
    go_wp2_with fail
    refine (awake5_calls _).mono ?_
    rintro e w1 ⟨rfl, b1⟩
    have hb1 := hb0.trans (b1.mono hb0.size)
    go_wp2_with fail
    go_returns
    exact ⟨rfl, hb1⟩

end Go.Proofs.Ytnfegmcdljejnaa
