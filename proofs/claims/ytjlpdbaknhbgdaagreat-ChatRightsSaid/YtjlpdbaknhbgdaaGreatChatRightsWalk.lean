/-
  The statement ChatRights.
-/
import Derived.Test.YtjlpdbaknhbgdaaGreatAwake14
import Derived.Test.YtjlpdbaknhbgdaaGreatNoteIn
import Derived.Test.YtjlpdbaknhbgdaaGreatQChat
import Derived.Test.YtjlpdbaknhbgdaaGreatRNRight
import Derived.WalkLawsBesides
import Derived.Deep.RegionHeld
import Derived.Outline
import Derived.Handy
set_option linter.unusedSimpArgs false
set_option linter.unusedVariables false
namespace Go.Proofs.YtjlpdbaknhbgdaaGreat
open Go.RowKit

set_option maxHeartbeats 4000000 in
set_option maxRecDepth 100000 in
theorem walkChatRights_long (n : NoteA) (hm : n.s.length ≤ maxLen) (hl : 5000 < n.s.length) (w : World) :
    Calls Tryz.prog 9 #[.agg n.cells.toArray] w fun e w' => e = .returned (.bool true) ∧ Below w.heap.size w w' := by
  have hr : rightN n = false := by
    rw [Bool.eq_false_iff]
    intro e
    have := (rightN_true e).2.2.2.2.2.2
    omega
  unfold maxLen at hm
  obtain ⟨N, hN⟩ : ∃ N, N = w.heap.size := ⟨_, rfl⟩
  have HN : Hid (N = w.heap.size) := hN
  have hA0 : Blk (w.alloc (.cells n.cells.toArray 86)) N n.cells.toArray 86 := by rw [hN]; exact Blk.new _ _ _
  have hb0 : Below N w (w.alloc (.cells n.cells.toArray 86)) := by rw [hN]; exact below_alloc1 _ _
  have hls := (hA0.cell 35 _ (note_s n))
  have cR : ∀ y, Calls Tryz.prog 37 #[.agg n.cells.toArray] y fun e w' => e = .returned (.bool false) ∧ Below y.heap.size y w' := fun y => by rw [← hr]; exact NRight_calls n y
  clear hr
  rw [← hN]
  go_enter Tryz.func9, Tryz.ntmps9
  go_upto_region 1 with (fail)
  rw [← hN]
  obtain ⟨w0, hw0⟩ : ∃ z, z = w.alloc (.cells n.cells.toArray 86) := ⟨_, rfl⟩
  rw [← hw0] at hA0 hb0 hls ⊢
  clear hw0 hN
  have hrr := blk_rangeP hA0
  go_wp2_with (first | ((with_reducible show wpList _ _ _ (⟨some 5, _, _, _, _, _⟩ :: _) _ _); refine wpList_load1 rfl 9 (.tmp 4) rfl N 35 (by rfl) _ _ hls Tryz.underlying9 rfl ?_) | ((with_reducible show wpList _ _ _ (⟨some 14, _, _, _, _, _⟩ :: _) _ _); refine wpList_load_mid rfl 86 (.tmp 1) rfl N 0 (by rfl) n.cells _ hrr Tryz.underlying86 rfl (by rw [n.cells_len]; exact Tryz.sizeNote) ?_))
  clear hrr
  refine (awake14_calls _).mono ?_
  rintro e w1 ⟨rfl, b1⟩
  have hA1 := hA0.below b1 hA0.lt
  have hB1 := hb0.trans (b1.mono (Nat.le_trans (Nat.le_of_eq HN.out) hb0.size))
  have hrr := blk_rangeP hA1
  clear hA0 hb0 b1 hls
  go_wp2_with ((with_reducible show wpList _ _ _ (⟨some 10, _, _, _, _, _⟩ :: _) _ _); refine wpList_if (by rfl) (wp_load_mid 86 (.tmp 1) rfl N 0 (by rfl) n.cells _ hrr Tryz.underlying86 rfl (by rw [n.cells_len]; exact Tryz.sizeNote) ?_))
  refine (cR _).mono ?_
  rintro e w2 ⟨rfl, b2⟩
  have hB2 := hB1.trans (b2.mono (Nat.le_trans (Nat.le_of_eq HN.out) hB1.size))
  clear hB1 hA1 b2 hrr
  go_wp2_with fail
  go_returns
  exact ⟨rfl, hB2⟩
set_option maxHeartbeats 4000000 in
set_option maxRecDepth 100000 in
theorem walkChatRights_ok (n : NoteA) (hl : n.s.length ≤ 5000) (hr : rightN n = true) (w : World) :
    Calls Tryz.prog 9 #[.agg n.cells.toArray] w fun e w' => e = .returned (.bool true) ∧ Below w.heap.size w w' := by
  obtain ⟨N, hN⟩ : ∃ N, N = w.heap.size := ⟨_, rfl⟩
  have HN : Hid (N = w.heap.size) := hN
  have hA0 : Blk (w.alloc (.cells n.cells.toArray 86)) N n.cells.toArray 86 := by rw [hN]; exact Blk.new _ _ _
  have hb0 : Below N w (w.alloc (.cells n.cells.toArray 86)) := by rw [hN]; exact below_alloc1 _ _
  have hls := (hA0.cell 35 _ (note_s n))
  have cR : ∀ y, Calls Tryz.prog 37 #[.agg n.cells.toArray] y fun e w' => e = .returned (.bool true) ∧ Below y.heap.size y w' := fun y => by rw [← hr]; exact NRight_calls n y
  have cR2 : ∀ y, Calls Tryz.prog 38 #[.agg n.cells.toArray] y fun e w' => e = .returned (.bool true) ∧ Below y.heap.size y w' := fun y => by rw [← hr]; exact RNRight_calls n y
  have cP : ∀ y, Calls Tryz.prog 39 #[.agg n.cells.toArray] y fun e w' => e = .returned (.string (str (packN n))) ∧ Below y.heap.size y w' := fun y => NPack_calls n y hr
  have cP2 : ∀ y, Calls Tryz.prog 40 #[.agg n.cells.toArray] y fun e w' => e = .returned (.string (str (packN n))) ∧ Below y.heap.size y w' := fun y => RNPack_calls n y hr
  generalize packN n = X at cP cP2
  clear hr
  rw [← hN]
  go_enter Tryz.func9, Tryz.ntmps9
  go_upto_region 1 with (fail)
  rw [← hN]
  obtain ⟨w0, hw0⟩ : ∃ z, z = w.alloc (.cells n.cells.toArray 86) := ⟨_, rfl⟩
  rw [← hw0] at hA0 hb0 hls ⊢
  clear hw0 hN
  have hrr := blk_rangeP hA0
  go_wp2_with (first | ((with_reducible show wpList _ _ _ (⟨some 5, _, _, _, _, _⟩ :: _) _ _); refine wpList_load1 rfl 9 (.tmp 4) rfl N 35 (by rfl) _ _ hls Tryz.underlying9 rfl ?_) | ((with_reducible show wpList _ _ _ (⟨some 14, _, _, _, _, _⟩ :: _) _ _); refine wpList_load_mid rfl 86 (.tmp 1) rfl N 0 (by rfl) n.cells _ hrr Tryz.underlying86 rfl (by rw [n.cells_len]; exact Tryz.sizeNote) ?_))
  clear hrr
  clear hls
  refine (cR2 _).mono ?_
  rintro e w1 ⟨rfl, b1⟩
  have hA1 := hA0.below b1 hA0.lt
  have hB1 := hb0.trans (b1.mono (Nat.le_trans (Nat.le_of_eq HN.out) hb0.size))
  clear hA0 hb0 b1
  go_wp2_with fail
  refine wp_region_held_drew (S := fun x => Blk x (N) n.cells.toArray 86 ∧ Below N w x) (by kernel_rfl) ⟨hA1.drew, below_drewN hB1 1⟩ (fun hSq1 => ?_)
  refine wpAnyH_ready (rs := [0]) (by kernel_rfl) (by simp) ?_
  refine AllReadyH.cons rfl (fun K hK => ?_) AllReadyH.nil
  go_simp
  go_wp2_with (go_at_call 31; refine (awake14_calls _).mono ?_; rintro e yq2 ⟨rfl, bq3⟩)
  refine hK.out _ _ ⟨hSq1.1.below bq3 hSq1.1.lt, hSq1.2.trans (bq3.mono (Nat.le_trans (Nat.le_of_eq HN.out) hSq1.2.size))⟩ (fun hSq4 => ?_)
  clear hK K hSq1 bq3
  refine wpAnyH_take (i := 1) (v := .bool true) rfl (by kernel_rfl) (by kernel_rfl) (by kernel_rfl) (fun _ _ _ h => h) (Or.inl ⟨by rfl, fun x hx => by go_simp⟩) hSq4 ?_
  simp only [Act.put, List.getElem_toArray, List.getElem_cons_zero, List.getElem_cons_succ, List.setIfInBounds_toArray, List.set_cons_zero, List.set_cons_succ]
  refine wpAnyH_take (i := 2) rfl (by kernel_rfl) (by kernel_rfl) (by kernel_rfl) (fun _ _ _ h => h) (yieldsIf_load_mid (by rfl) 86 (.tmp 1) rfl (N) (0) (by rfl) (n.cells) _ (fun x hx => blk_rangeP hx.1) Tryz.underlying86 rfl (by rw [n.cells_len]; exact Tryz.sizeNote)) hSq4 ?_
  simp only [Act.put, List.getElem_toArray, List.getElem_cons_zero, List.getElem_cons_succ, List.setIfInBounds_toArray, List.set_cons_zero, List.set_cons_succ]
  refine wpAnyH_take (i := 4) (v := .bool true) rfl (by kernel_rfl) (by kernel_rfl) (by kernel_rfl) (fun _ _ _ h => h) (Or.inl ⟨by rfl, fun x hx => by go_simp⟩) hSq4 ?_
  simp only [Act.put, List.getElem_toArray, List.getElem_cons_zero, List.getElem_cons_succ, List.setIfInBounds_toArray, List.set_cons_zero, List.set_cons_succ]
  refine wpAnyH_ready (rs := [3]) (by kernel_rfl) (by simp) ?_
  refine AllReadyH.cons rfl (fun K hK => ?_) AllReadyH.nil
  go_simp
  go_wp2_with (go_at_call 37; refine (cR _).mono ?_; rintro e yq5 ⟨rfl, bq6⟩)
  refine hK.out _ _ ⟨hSq4.1.below bq6 hSq4.1.lt, hSq4.2.trans (bq6.mono (Nat.le_trans (Nat.le_of_eq HN.out) hSq4.2.size))⟩ (fun hSq7 => ?_)
  clear hK K hSq4 bq6
  refine wpAnyH_take (i := 5) (v := .bool true) rfl (by kernel_rfl) (by kernel_rfl) (by kernel_rfl) (fun _ _ _ h => h) (Or.inl ⟨by rfl, fun x hx => by go_simp⟩) hSq7 ?_
  simp only [Act.put, List.getElem_toArray, List.getElem_cons_zero, List.getElem_cons_succ, List.setIfInBounds_toArray, List.set_cons_zero, List.set_cons_succ]
  refine wpAnyH_take (i := 6) (v := .bool true) rfl (by kernel_rfl) (by kernel_rfl) (by kernel_rfl) (fun _ _ _ h => h) (Or.inl ⟨by rfl, fun x hx => by go_simp⟩) hSq7 ?_
  simp only [Act.put, List.getElem_toArray, List.getElem_cons_zero, List.getElem_cons_succ, List.setIfInBounds_toArray, List.set_cons_zero, List.set_cons_succ]
  refine wpAnyH_take (i := 7) (v := .bool true) rfl (by kernel_rfl) (by kernel_rfl) (by kernel_rfl) (fun _ _ _ h => h) (Or.inl ⟨by rfl, fun x hx => by go_simp⟩) hSq7 ?_
  simp only [Act.put, List.getElem_toArray, List.getElem_cons_zero, List.getElem_cons_succ, List.setIfInBounds_toArray, List.set_cons_zero, List.set_cons_succ]
  refine wpAnyH_take (i := 8) (v := .bool true) rfl (by kernel_rfl) (by kernel_rfl) (by kernel_rfl) (fun _ _ _ h => h) (Or.inl ⟨by rfl, fun x hx => by go_simp⟩) hSq7 ?_
  simp only [Act.put, List.getElem_toArray, List.getElem_cons_zero, List.getElem_cons_succ, List.setIfInBounds_toArray, List.set_cons_zero, List.set_cons_succ]
  refine wpAnyH_take (i := 9) (v := .bool true) rfl (by kernel_rfl) (by kernel_rfl) (by kernel_rfl) (fun _ _ _ h => h) (Or.inl ⟨by rfl, fun x hx => by go_simp⟩) hSq7 ?_
  simp only [Act.put, List.getElem_toArray, List.getElem_cons_zero, List.getElem_cons_succ, List.setIfInBounds_toArray, List.set_cons_zero, List.set_cons_succ]
  refine wpAnyH_take (i := 10) rfl (by kernel_rfl) (by kernel_rfl) (by kernel_rfl) (fun _ _ _ h => h) (yieldsIf_load_mid (by rfl) 86 (.tmp 1) rfl (N) (0) (by rfl) (n.cells) _ (fun x hx => blk_rangeP hx.1) Tryz.underlying86 rfl (by rw [n.cells_len]; exact Tryz.sizeNote)) hSq7 ?_
  simp only [Act.put, List.getElem_toArray, List.getElem_cons_zero, List.getElem_cons_succ, List.setIfInBounds_toArray, List.set_cons_zero, List.set_cons_succ]
  refine wpAnyH_take (i := 12) rfl (by kernel_rfl) (by kernel_rfl) (by kernel_rfl) (fun _ _ _ h => h) (yieldsIf_load_mid (by rfl) 86 (.tmp 1) rfl (N) (0) (by rfl) (n.cells) _ (fun x hx => blk_rangeP hx.1) Tryz.underlying86 rfl (by rw [n.cells_len]; exact Tryz.sizeNote)) hSq7 ?_
  simp only [Act.put, List.getElem_toArray, List.getElem_cons_zero, List.getElem_cons_succ, List.setIfInBounds_toArray, List.set_cons_zero, List.set_cons_succ]
  refine wpAnyH_ready (rs := [11]) (by kernel_rfl) (by simp) ?_
  refine AllReadyH.cons rfl (fun K hK => ?_) AllReadyH.nil
  go_simp
  go_wp2_with (go_at_call 39; refine (cP _).mono ?_; rintro e yq8 ⟨rfl, bq9⟩)
  refine hK.out _ _ ⟨hSq7.1.below bq9 hSq7.1.lt, hSq7.2.trans (bq9.mono (Nat.le_trans (Nat.le_of_eq HN.out) hSq7.2.size))⟩ (fun hSq10 => ?_)
  clear hK K hSq7 bq9
  refine wpAnyH_ready (rs := [13]) (by kernel_rfl) (by simp) ?_
  refine AllReadyH.cons rfl (fun K hK => ?_) AllReadyH.nil
  go_simp
  go_wp2_with (go_at_call 40; refine (cP2 _).mono ?_; rintro e yq11 ⟨rfl, bq12⟩)
  refine hK.out _ _ ⟨hSq10.1.below bq12 hSq10.1.lt, hSq10.2.trans (bq12.mono (Nat.le_trans (Nat.le_of_eq HN.out) hSq10.2.size))⟩ (fun hSq13 => ?_)
  clear hK K hSq10 bq12
  refine wpAnyH_take (i := 14) (v := .bool true) rfl (by kernel_rfl) (by kernel_rfl) (by kernel_rfl) (fun _ _ _ h => h) (Or.inl ⟨by rfl, fun x hx => by go_simp⟩) hSq13 ?_
  simp only [Act.put, List.getElem_toArray, List.getElem_cons_zero, List.getElem_cons_succ, List.setIfInBounds_toArray, List.set_cons_zero, List.set_cons_succ]
  refine wpAnyH_take (i := 15) (v := .bool true) rfl (by kernel_rfl) (by kernel_rfl) (by kernel_rfl) (fun _ _ _ h => h) (Or.inl ⟨by rfl, fun x hx => by go_simp⟩) hSq13 ?_
  simp only [Act.put, List.getElem_toArray, List.getElem_cons_zero, List.getElem_cons_succ, List.setIfInBounds_toArray, List.set_cons_zero, List.set_cons_succ]
  refine wpAnyH_take (i := 16) (v := .bool true) rfl (by kernel_rfl) (by kernel_rfl) (by kernel_rfl) (fun _ _ _ h => h) (Or.inl ⟨by rfl, fun x hx => by go_simp⟩) hSq13 ?_
  simp only [Act.put, List.getElem_toArray, List.getElem_cons_zero, List.getElem_cons_succ, List.setIfInBounds_toArray, List.set_cons_zero, List.set_cons_succ]
  refine wpAnyH_take (i := 17) (v := undef) rfl (by kernel_rfl) (by kernel_rfl) (by kernel_rfl) (fun _ _ _ h => h) (Or.inr ⟨by rfl, rfl⟩) hSq13 ?_
  simp only [Act.put, List.getElem_toArray, List.getElem_cons_zero, List.getElem_cons_succ, List.setIfInBounds_toArray, List.set_cons_zero, List.set_cons_succ]
  refine wpAnyH_take (i := 18) (v := undef) rfl (by kernel_rfl) (by kernel_rfl) (by kernel_rfl) (fun _ _ _ h => h) (Or.inr ⟨by rfl, rfl⟩) hSq13 ?_
  simp only [Act.put, List.getElem_toArray, List.getElem_cons_zero, List.getElem_cons_succ, List.setIfInBounds_toArray, List.set_cons_zero, List.set_cons_succ]
  refine wpAnyH_take (i := 19) (v := undef) rfl (by kernel_rfl) (by kernel_rfl) (by kernel_rfl) (fun _ _ _ h => h) (Or.inr ⟨by rfl, rfl⟩) hSq13 ?_
  simp only [Act.put, List.getElem_toArray, List.getElem_cons_zero, List.getElem_cons_succ, List.setIfInBounds_toArray, List.set_cons_zero, List.set_cons_succ]
  refine wpAnyH_take (i := 20) (v := undef) rfl (by kernel_rfl) (by kernel_rfl) (by kernel_rfl) (fun _ _ _ h => h) (Or.inr ⟨by rfl, rfl⟩) hSq13 ?_
  simp only [Act.put, List.getElem_toArray, List.getElem_cons_zero, List.getElem_cons_succ, List.setIfInBounds_toArray, List.set_cons_zero, List.set_cons_succ]
  refine wpAnyH_take (i := 21) (v := undef) rfl (by kernel_rfl) (by kernel_rfl) (by kernel_rfl) (fun _ _ _ h => h) (Or.inr ⟨by rfl, rfl⟩) hSq13 ?_
  simp only [Act.put, List.getElem_toArray, List.getElem_cons_zero, List.getElem_cons_succ, List.setIfInBounds_toArray, List.set_cons_zero, List.set_cons_succ]
  refine wpAnyH_take (i := 22) (v := undef) rfl (by kernel_rfl) (by kernel_rfl) (by kernel_rfl) (fun _ _ _ h => h) (Or.inr ⟨by rfl, rfl⟩) hSq13 ?_
  simp only [Act.put, List.getElem_toArray, List.getElem_cons_zero, List.getElem_cons_succ, List.setIfInBounds_toArray, List.set_cons_zero, List.set_cons_succ]
  refine wpAnyH_take (i := 23) (v := undef) rfl (by kernel_rfl) (by kernel_rfl) (by kernel_rfl) (fun _ _ _ h => h) (Or.inr ⟨by rfl, rfl⟩) hSq13 ?_
  simp only [Act.put, List.getElem_toArray, List.getElem_cons_zero, List.getElem_cons_succ, List.setIfInBounds_toArray, List.set_cons_zero, List.set_cons_succ]
  refine wpAnyH_take (i := 24) (v := .bool true) rfl (by kernel_rfl) (by kernel_rfl) (by kernel_rfl) (fun _ _ _ h => h) (Or.inl ⟨by rfl, fun x hx => by go_simp⟩) hSq13 ?_
  simp only [Act.put, List.getElem_toArray, List.getElem_cons_zero, List.getElem_cons_succ, List.setIfInBounds_toArray, List.set_cons_zero, List.set_cons_succ]
  refine wpAnyH_take (i := 25) (v := .bool true) rfl (by kernel_rfl) (by kernel_rfl) (by kernel_rfl) (fun _ _ _ h => h) (Or.inl ⟨by rfl, fun x hx => by go_simp⟩) hSq13 ?_
  simp only [Act.put, List.getElem_toArray, List.getElem_cons_zero, List.getElem_cons_succ, List.setIfInBounds_toArray, List.set_cons_zero, List.set_cons_succ]
  refine wpAnyH_ready (rs := [26]) (by kernel_rfl) (by simp) ?_
  refine AllReadyH.cons rfl (fun K hK => ?_) AllReadyH.nil
  go_simp
  refine hK.out _ _ hSq13 (fun hSq14 => ?_)
  clear hK K hSq13
  refine wpAnyH_done (by kernel_rfl) ?_ _
  have hB9 := hSq14.2
  clear hSq14
  go_wp2_with fail
  go_returns
  exact ⟨rfl, hB9⟩
set_option maxHeartbeats 4000000 in
set_option maxRecDepth 100000 in
theorem walkChatRights_no (n : NoteA) (hl : n.s.length ≤ 5000) (hr : rightN n = false) (w : World) :
    Calls Tryz.prog 9 #[.agg n.cells.toArray] w fun e w' => e = .returned (.bool true) ∧ Below w.heap.size w w' := by
  obtain ⟨N, hN⟩ : ∃ N, N = w.heap.size := ⟨_, rfl⟩
  have HN : Hid (N = w.heap.size) := hN
  have hA0 : Blk (w.alloc (.cells n.cells.toArray 86)) N n.cells.toArray 86 := by rw [hN]; exact Blk.new _ _ _
  have hb0 : Below N w (w.alloc (.cells n.cells.toArray 86)) := by rw [hN]; exact below_alloc1 _ _
  have hls := (hA0.cell 35 _ (note_s n))
  have cR : ∀ y, Calls Tryz.prog 37 #[.agg n.cells.toArray] y fun e w' => e = .returned (.bool false) ∧ Below y.heap.size y w' := fun y => by rw [← hr]; exact NRight_calls n y
  have cR2 : ∀ y, Calls Tryz.prog 38 #[.agg n.cells.toArray] y fun e w' => e = .returned (.bool false) ∧ Below y.heap.size y w' := fun y => by rw [← hr]; exact RNRight_calls n y
  have cP : ∀ y, Calls Tryz.prog 39 #[.agg n.cells.toArray] y fun e w' => e = .returned (.string { data := #[] }) ∧ Below y.heap.size y w' := fun y => NPackNo_calls n y hr
  clear hr
  rw [← hN]
  go_enter Tryz.func9, Tryz.ntmps9
  go_upto_region 1 with (fail)
  rw [← hN]
  obtain ⟨w0, hw0⟩ : ∃ z, z = w.alloc (.cells n.cells.toArray 86) := ⟨_, rfl⟩
  rw [← hw0] at hA0 hb0 hls ⊢
  clear hw0 hN
  have hrr := blk_rangeP hA0
  go_wp2_with (first | ((with_reducible show wpList _ _ _ (⟨some 5, _, _, _, _, _⟩ :: _) _ _); refine wpList_load1 rfl 9 (.tmp 4) rfl N 35 (by rfl) _ _ hls Tryz.underlying9 rfl ?_) | ((with_reducible show wpList _ _ _ (⟨some 14, _, _, _, _, _⟩ :: _) _ _); refine wpList_load_mid rfl 86 (.tmp 1) rfl N 0 (by rfl) n.cells _ hrr Tryz.underlying86 rfl (by rw [n.cells_len]; exact Tryz.sizeNote) ?_))
  clear hrr
  clear hls
  refine (cR2 _).mono ?_
  rintro e w1 ⟨rfl, b1⟩
  have hA1 := hA0.below b1 hA0.lt
  have hB1 := hb0.trans (b1.mono (Nat.le_trans (Nat.le_of_eq HN.out) hb0.size))
  clear hA0 hb0 b1
  go_wp2_with fail
  refine wp_region_held_drew (S := fun x => Blk x (N) n.cells.toArray 86 ∧ Below N w x) (by kernel_rfl) ⟨hA1.drew, below_drewN hB1 1⟩ (fun hSq15 => ?_)
  refine wpAnyH_ready (rs := [0]) (by kernel_rfl) (by simp) ?_
  refine AllReadyH.cons rfl (fun K hK => ?_) AllReadyH.nil
  go_simp
  go_wp2_with (go_at_call 31; refine (awake14_calls _).mono ?_; rintro e yq16 ⟨rfl, bq17⟩)
  refine hK.out _ _ ⟨hSq15.1.below bq17 hSq15.1.lt, hSq15.2.trans (bq17.mono (Nat.le_trans (Nat.le_of_eq HN.out) hSq15.2.size))⟩ (fun hSq18 => ?_)
  clear hK K hSq15 bq17
  refine wpAnyH_take (i := 1) (v := .bool true) rfl (by kernel_rfl) (by kernel_rfl) (by kernel_rfl) (fun _ _ _ h => h) (Or.inl ⟨by rfl, fun x hx => by go_simp⟩) hSq18 ?_
  simp only [Act.put, List.getElem_toArray, List.getElem_cons_zero, List.getElem_cons_succ, List.setIfInBounds_toArray, List.set_cons_zero, List.set_cons_succ]
  refine wpAnyH_take (i := 2) rfl (by kernel_rfl) (by kernel_rfl) (by kernel_rfl) (fun _ _ _ h => h) (yieldsIf_load_mid (by rfl) 86 (.tmp 1) rfl (N) (0) (by rfl) (n.cells) _ (fun x hx => blk_rangeP hx.1) Tryz.underlying86 rfl (by rw [n.cells_len]; exact Tryz.sizeNote)) hSq18 ?_
  simp only [Act.put, List.getElem_toArray, List.getElem_cons_zero, List.getElem_cons_succ, List.setIfInBounds_toArray, List.set_cons_zero, List.set_cons_succ]
  refine wpAnyH_take (i := 4) (v := .bool false) rfl (by kernel_rfl) (by kernel_rfl) (by kernel_rfl) (fun _ _ _ h => h) (Or.inl ⟨by rfl, fun x hx => by go_simp⟩) hSq18 ?_
  simp only [Act.put, List.getElem_toArray, List.getElem_cons_zero, List.getElem_cons_succ, List.setIfInBounds_toArray, List.set_cons_zero, List.set_cons_succ]
  refine wpAnyH_ready (rs := [3]) (by kernel_rfl) (by simp) ?_
  refine AllReadyH.cons rfl (fun K hK => ?_) AllReadyH.nil
  go_simp
  go_wp2_with (go_at_call 37; refine (cR _).mono ?_; rintro e yq19 ⟨rfl, bq20⟩)
  refine hK.out _ _ ⟨hSq18.1.below bq20 hSq18.1.lt, hSq18.2.trans (bq20.mono (Nat.le_trans (Nat.le_of_eq HN.out) hSq18.2.size))⟩ (fun hSq21 => ?_)
  clear hK K hSq18 bq20
  refine wpAnyH_take (i := 5) (v := .bool true) rfl (by kernel_rfl) (by kernel_rfl) (by kernel_rfl) (fun _ _ _ h => h) (Or.inl ⟨by rfl, fun x hx => by go_simp⟩) hSq21 ?_
  simp only [Act.put, List.getElem_toArray, List.getElem_cons_zero, List.getElem_cons_succ, List.setIfInBounds_toArray, List.set_cons_zero, List.set_cons_succ]
  refine wpAnyH_take (i := 6) (v := .bool true) rfl (by kernel_rfl) (by kernel_rfl) (by kernel_rfl) (fun _ _ _ h => h) (Or.inl ⟨by rfl, fun x hx => by go_simp⟩) hSq21 ?_
  simp only [Act.put, List.getElem_toArray, List.getElem_cons_zero, List.getElem_cons_succ, List.setIfInBounds_toArray, List.set_cons_zero, List.set_cons_succ]
  refine wpAnyH_take (i := 7) (v := .bool true) rfl (by kernel_rfl) (by kernel_rfl) (by kernel_rfl) (fun _ _ _ h => h) (Or.inl ⟨by rfl, fun x hx => by go_simp⟩) hSq21 ?_
  simp only [Act.put, List.getElem_toArray, List.getElem_cons_zero, List.getElem_cons_succ, List.setIfInBounds_toArray, List.set_cons_zero, List.set_cons_succ]
  refine wpAnyH_take (i := 8) (v := .bool false) rfl (by kernel_rfl) (by kernel_rfl) (by kernel_rfl) (fun _ _ _ h => h) (Or.inl ⟨by rfl, fun x hx => by go_simp⟩) hSq21 ?_
  simp only [Act.put, List.getElem_toArray, List.getElem_cons_zero, List.getElem_cons_succ, List.setIfInBounds_toArray, List.set_cons_zero, List.set_cons_succ]
  refine wpAnyH_take (i := 9) (v := .bool false) rfl (by kernel_rfl) (by kernel_rfl) (by kernel_rfl) (fun _ _ _ h => h) (Or.inl ⟨by rfl, fun x hx => by go_simp⟩) hSq21 ?_
  simp only [Act.put, List.getElem_toArray, List.getElem_cons_zero, List.getElem_cons_succ, List.setIfInBounds_toArray, List.set_cons_zero, List.set_cons_succ]
  refine wpAnyH_take (i := 10) (v := undef) rfl (by kernel_rfl) (by kernel_rfl) (by kernel_rfl) (fun _ _ _ h => h) (Or.inr ⟨by rfl, rfl⟩) hSq21 ?_
  simp only [Act.put, List.getElem_toArray, List.getElem_cons_zero, List.getElem_cons_succ, List.setIfInBounds_toArray, List.set_cons_zero, List.set_cons_succ]
  refine wpAnyH_take (i := 11) (v := undef) rfl (by kernel_rfl) (by kernel_rfl) (by kernel_rfl) (fun _ _ _ h => h) (Or.inr ⟨by rfl, rfl⟩) hSq21 ?_
  simp only [Act.put, List.getElem_toArray, List.getElem_cons_zero, List.getElem_cons_succ, List.setIfInBounds_toArray, List.set_cons_zero, List.set_cons_succ]
  refine wpAnyH_take (i := 12) (v := undef) rfl (by kernel_rfl) (by kernel_rfl) (by kernel_rfl) (fun _ _ _ h => h) (Or.inr ⟨by rfl, rfl⟩) hSq21 ?_
  simp only [Act.put, List.getElem_toArray, List.getElem_cons_zero, List.getElem_cons_succ, List.setIfInBounds_toArray, List.set_cons_zero, List.set_cons_succ]
  refine wpAnyH_take (i := 13) (v := undef) rfl (by kernel_rfl) (by kernel_rfl) (by kernel_rfl) (fun _ _ _ h => h) (Or.inr ⟨by rfl, rfl⟩) hSq21 ?_
  simp only [Act.put, List.getElem_toArray, List.getElem_cons_zero, List.getElem_cons_succ, List.setIfInBounds_toArray, List.set_cons_zero, List.set_cons_succ]
  refine wpAnyH_take (i := 14) (v := undef) rfl (by kernel_rfl) (by kernel_rfl) (by kernel_rfl) (fun _ _ _ h => h) (Or.inr ⟨by rfl, rfl⟩) hSq21 ?_
  simp only [Act.put, List.getElem_toArray, List.getElem_cons_zero, List.getElem_cons_succ, List.setIfInBounds_toArray, List.set_cons_zero, List.set_cons_succ]
  refine wpAnyH_take (i := 15) (v := .bool false) rfl (by kernel_rfl) (by kernel_rfl) (by kernel_rfl) (fun _ _ _ h => h) (Or.inl ⟨by rfl, fun x hx => by go_simp⟩) hSq21 ?_
  simp only [Act.put, List.getElem_toArray, List.getElem_cons_zero, List.getElem_cons_succ, List.setIfInBounds_toArray, List.set_cons_zero, List.set_cons_succ]
  refine wpAnyH_take (i := 16) (v := .bool false) rfl (by kernel_rfl) (by kernel_rfl) (by kernel_rfl) (fun _ _ _ h => h) (Or.inl ⟨by rfl, fun x hx => by go_simp⟩) hSq21 ?_
  simp only [Act.put, List.getElem_toArray, List.getElem_cons_zero, List.getElem_cons_succ, List.setIfInBounds_toArray, List.set_cons_zero, List.set_cons_succ]
  refine wpAnyH_take (i := 17) (v := .bool false) rfl (by kernel_rfl) (by kernel_rfl) (by kernel_rfl) (fun _ _ _ h => h) (Or.inl ⟨by rfl, fun x hx => by go_simp⟩) hSq21 ?_
  simp only [Act.put, List.getElem_toArray, List.getElem_cons_zero, List.getElem_cons_succ, List.setIfInBounds_toArray, List.set_cons_zero, List.set_cons_succ]
  refine wpAnyH_take (i := 18) (v := .bool true) rfl (by kernel_rfl) (by kernel_rfl) (by kernel_rfl) (fun _ _ _ h => h) (Or.inl ⟨by rfl, fun x hx => by go_simp⟩) hSq21 ?_
  simp only [Act.put, List.getElem_toArray, List.getElem_cons_zero, List.getElem_cons_succ, List.setIfInBounds_toArray, List.set_cons_zero, List.set_cons_succ]
  refine wpAnyH_take (i := 19) (v := .bool true) rfl (by kernel_rfl) (by kernel_rfl) (by kernel_rfl) (fun _ _ _ h => h) (Or.inl ⟨by rfl, fun x hx => by go_simp⟩) hSq21 ?_
  simp only [Act.put, List.getElem_toArray, List.getElem_cons_zero, List.getElem_cons_succ, List.setIfInBounds_toArray, List.set_cons_zero, List.set_cons_succ]
  refine wpAnyH_take (i := 20) rfl (by kernel_rfl) (by kernel_rfl) (by kernel_rfl) (fun _ _ _ h => h) (yieldsIf_load_mid (by rfl) 86 (.tmp 1) rfl (N) (0) (by rfl) (n.cells) _ (fun x hx => blk_rangeP hx.1) Tryz.underlying86 rfl (by rw [n.cells_len]; exact Tryz.sizeNote)) hSq21 ?_
  simp only [Act.put, List.getElem_toArray, List.getElem_cons_zero, List.getElem_cons_succ, List.setIfInBounds_toArray, List.set_cons_zero, List.set_cons_succ]
  refine wpAnyH_ready (rs := [21]) (by kernel_rfl) (by simp) ?_
  refine AllReadyH.cons rfl (fun K hK => ?_) AllReadyH.nil
  go_simp
  go_wp2_with (go_at_call 39; refine (cP _).mono ?_; rintro e yq22 ⟨rfl, bq23⟩)
  refine hK.out _ _ ⟨hSq21.1.below bq23 hSq21.1.lt, hSq21.2.trans (bq23.mono (Nat.le_trans (Nat.le_of_eq HN.out) hSq21.2.size))⟩ (fun hSq24 => ?_)
  clear hK K hSq21 bq23
  refine wpAnyH_take (i := 22) (v := .bool true) rfl (by kernel_rfl) (by kernel_rfl) (by kernel_rfl) (fun _ _ _ h => h) (Or.inl ⟨by rfl, fun x hx => by go_simp⟩) hSq24 ?_
  simp only [Act.put, List.getElem_toArray, List.getElem_cons_zero, List.getElem_cons_succ, List.setIfInBounds_toArray, List.set_cons_zero, List.set_cons_succ]
  refine wpAnyH_take (i := 23) (v := .bool true) rfl (by kernel_rfl) (by kernel_rfl) (by kernel_rfl) (fun _ _ _ h => h) (Or.inl ⟨by rfl, fun x hx => by go_simp⟩) hSq24 ?_
  simp only [Act.put, List.getElem_toArray, List.getElem_cons_zero, List.getElem_cons_succ, List.setIfInBounds_toArray, List.set_cons_zero, List.set_cons_succ]
  refine wpAnyH_take (i := 24) (v := .bool true) rfl (by kernel_rfl) (by kernel_rfl) (by kernel_rfl) (fun _ _ _ h => h) (Or.inl ⟨by rfl, fun x hx => by go_simp⟩) hSq24 ?_
  simp only [Act.put, List.getElem_toArray, List.getElem_cons_zero, List.getElem_cons_succ, List.setIfInBounds_toArray, List.set_cons_zero, List.set_cons_succ]
  refine wpAnyH_take (i := 25) (v := .bool true) rfl (by kernel_rfl) (by kernel_rfl) (by kernel_rfl) (fun _ _ _ h => h) (Or.inl ⟨by rfl, fun x hx => by go_simp⟩) hSq24 ?_
  simp only [Act.put, List.getElem_toArray, List.getElem_cons_zero, List.getElem_cons_succ, List.setIfInBounds_toArray, List.set_cons_zero, List.set_cons_succ]
  refine wpAnyH_ready (rs := [26]) (by kernel_rfl) (by simp) ?_
  refine AllReadyH.cons rfl (fun K hK => ?_) AllReadyH.nil
  go_simp
  refine hK.out _ _ hSq24 (fun hSq25 => ?_)
  clear hK K hSq24
  refine wpAnyH_done (by kernel_rfl) ?_ _
  have hB9 := hSq25.2
  clear hSq25
  go_wp2_with fail
  go_returns
  exact ⟨rfl, hB9⟩
theorem walkChatRights (n : NoteA) (hm : n.s.length ≤ maxLen) (w : World) :
    Calls Tryz.prog 9 #[.agg n.cells.toArray] w fun e w' => e = .returned (.bool true) ∧ Below w.heap.size w w' := by
  by_cases hl : n.s.length ≤ 5000
  · by_cases hr : rightN n = true
    · exact walkChatRights_ok n hl hr w
    · exact walkChatRights_no n hl (Bool.eq_false_iff.2 hr) w
  · exact walkChatRights_long n hm (by omega) w
end Go.Proofs.YtjlpdbaknhbgdaaGreat
