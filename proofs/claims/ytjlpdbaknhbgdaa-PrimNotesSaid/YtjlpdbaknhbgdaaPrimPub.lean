/-
  prim.Pub with a nil book.
-/
import Derived.Test.YtjlpdbaknhbgdaaPrimCode
import Derived.Test.YtjlpdbaknhbgdaaKit0
set_option linter.unusedSimpArgs false
set_option linter.unusedVariables false
namespace Go.Proofs.Ytjlpdbaknhbgdaa
open Go.RowKit

set_option maxHeartbeats 4000000 in
set_option maxRecDepth 100000 in
theorem Pub_calls (a : List UInt8) (w : World) (ha : a.length = 32) :
    Calls Try.prog 10 #[.pointer none, .agg (a.map bv).toArray] w fun e w' => e = .returned (.agg ((pubT a).map bv).toArray) ∧ Below w.heap.size w w' := by
  have HA := Lib.hid ha
  clear ha
  have hA0 : Blk ((w.alloc (.cells (a.map bv).toArray 26)).alloc (.cells Z32 26)) w.heap.size (a.map bv).toArray 26 := (Blk.new _ _ _).alloc _
  have hR0 : Blk ((w.alloc (.cells (a.map bv).toArray 26)).alloc (.cells Z32 26)) (w.heap.size + 1) Z32 26 := blk_new1 _ _ _ _
  have hb0 : Below w.heap.size w ((w.alloc (.cells (a.map bv).toArray 26)).alloc (.cells Z32 26)) := ((Below.refl _ _).alloc (Nat.le_refl _) _).alloc (by simp) _
  obtain ⟨t, ht⟩ : ∃ t, t = pubT a := ⟨_, rfl⟩
  have HT : Hid (t.length = 32) := by show _ = _; rw [ht]; exact pubT_len _
  obtain ⟨m, hm⟩ : ∃ m, m = markT t := ⟨_, rfl⟩
  have HM : Hid (m.length = 32) := by show _ = _; rw [hm]; exact markT_len _
  have c1 : ∀ x, Calls Try.prog 30 #[.agg (a.map bv).toArray] x fun e w' => e = .returned (.agg (t.map bv).toArray) ∧ Below x.heap.size x w' := by rw [ht]; exact fun x => public_calls a x HA.out
  have c2 : ∀ x, Calls Try.prog 31 #[.agg (t.map bv).toArray] x fun e w' => e = .returned (.agg (m.map bv).toArray) ∧ Below x.heap.size x w' := by rw [hm]; exact fun x => Mark_calls t x HT.out
  rw [← ht]
  clear ht hm
  go_enter Try.func10, Try.ntmps10
  go_wp2_with ((with_reducible show wpList _ _ _ (⟨some 6, _, _, _, _, _⟩ :: _) _ _); refine wpList_loadBlk rfl 26 (.tmp 3) rfl w.heap.size (by rfl) _ _ _ hA0 Try.underlying26 rfl (by rw [bv_size, HA.out]; exact Try.sizeHash) ?_)
  generalize (w.alloc (.cells (a.map bv).toArray 26)).alloc (.cells Z32 26) = W0 at hA0 hR0 hb0 ⊢
  refine (c1 _).mono ?_
  rintro e w1 ⟨rfl, b1⟩
  have hA1 := (hA0.below b1 hA0.lt).alloc (.cells Z32 26)
  have hR1 := (hR0.below b1 hR0.lt).alloc (.cells Z32 26)
  have hb1 : Below w.heap.size w w1 := hb0.trans (b1.mono hb0.size)
  have hN := Blk.new w1 Z32 26
  have hb2 : Below w.heap.size w (w1.alloc (.cells Z32 26)) := hb1.alloc hb1.size _
  have hs1 : w.heap.size + 1 < w1.heap.size := (hR0.below b1 hR0.lt).lt
  clear b1 hA0 hR0 hb0 hb1
  go_wp2_with ((with_reducible show wpList _ _ _ (⟨none, Op.store _ (.tmp 5) _, _, _, _, _⟩ :: _) _ _); refine wpList_storeBlk rfl 26 (.tmp 5) (.tmp 7) rfl w1.heap.size (t.map bv).toArray (by rfl) (by rfl) _ _ hN (by rw [bv_size, HT.out]; exact Try.sizeHash) (by rw [bv_size, HT.out, Z32_size]) (bv_all _) ?_; intro w2 hD2 g2; have hA2 := Blk.grown hA1 g2 (by simp; omega); have hR2 := Blk.grown hR1 g2 (by simp; omega); have hb3 : Below w.heap.size w w2 := below_new hb2 g2 (by omega) (by simp; omega); clear hN hA1 hR1 hb2 g2)
  refine wp_region_held_drew (S := fun x => Blk x (w.heap.size) (a.map bv).toArray 26 ∧ Blk x (w.heap.size + 1) Z32 26 ∧ Blk x (w1.heap.size) (t.map bv).toArray 26 ∧ Below w.heap.size w x) (by kernel_rfl) ⟨hA2.drew, hR2.drew, hD2.drew, below_drewN hb3 1⟩ (fun hSq1 => ?_)
  refine wpAnyH_take (i := 0) (v := .pointer none) rfl (by kernel_rfl) (by kernel_rfl) (by kernel_rfl) (fun _ _ _ h => h) (Or.inl ⟨by rfl, fun x hx => by go_simp⟩) hSq1 ?_
  simp only [Act.put, List.getElem_toArray, List.getElem_cons_zero, List.getElem_cons_succ, List.setIfInBounds_toArray, List.set_cons_zero, List.set_cons_succ]
  refine wpAnyH_take (i := 1) rfl (by kernel_rfl) (by kernel_rfl) (by kernel_rfl) (fun _ _ _ h => h) (yieldsIf_load_mid (by rfl) 26 (.tmp 3) rfl (w.heap.size) 0 (by rfl) (a.map bv) _ (fun x hx => blk_range hx.1) Try.underlying26 rfl (by rw [List.length_map, HA.out]; exact Try.sizeHash)) hSq1 ?_
  simp only [Act.put, List.getElem_toArray, List.getElem_cons_zero, List.getElem_cons_succ, List.setIfInBounds_toArray, List.set_cons_zero, List.set_cons_succ]
  refine wpAnyH_take (i := 3) rfl (by kernel_rfl) (by kernel_rfl) (by kernel_rfl) (fun _ _ _ h => h) (yieldsIf_load_mid (by rfl) 26 (.tmp 5) rfl (w1.heap.size) 0 (by rfl) (t.map bv) _ (fun x hx => blk_range hx.2.2.1) Try.underlying26 rfl (by rw [List.length_map, HT.out]; exact Try.sizeHash)) hSq1 ?_
  simp only [Act.put, List.getElem_toArray, List.getElem_cons_zero, List.getElem_cons_succ, List.setIfInBounds_toArray, List.set_cons_zero, List.set_cons_succ]
  refine wpAnyH_ready (rs := [2, 4]) (by kernel_rfl) (by simp) ?_
  refine AllReadyH.cons rfl (fun K hK => ?_) ?_
  · rw [if_pos (by rfl)]
    refine wp_bs32 23 26 (.tmp 9) rfl a HA.out (by rfl) Try.underlying23 (by kernel_rfl) ?_
    intro gq5 yq3 egq6 ezq7 bq2 hEq4
    have lgq8 : w.heap.size ≤ gq5 := by rw [egq6]; exact hSq1.2.2.2.size
    refine hK.out _ _ ⟨hSq1.1.below bq2 hSq1.1.lt, hSq1.2.1.below bq2 hSq1.2.1.lt, hSq1.2.2.1.below bq2 hSq1.2.2.1.lt, hSq1.2.2.2.trans (bq2.mono hSq1.2.2.2.size)⟩ (fun hSq9 => ?_)
    clear hK K hSq1 bq2 egq6 ezq7
    refine wpAnyH_ready (rs := [4]) (by kernel_rfl) (by simp) ?_
    refine AllReadyH.cons rfl (fun K hK => ?_) AllReadyH.nil
    go_simp
    go_wp2_with (go_at_call 31; refine (c2 _).mono ?_; rintro e yq10 ⟨rfl, bq11⟩)
    have hEq12 := hEq4.below bq11 hEq4.lt
    refine hK.out _ _ ⟨hSq9.1.below bq11 hSq9.1.lt, hSq9.2.1.below bq11 hSq9.2.1.lt, hSq9.2.2.1.below bq11 hSq9.2.2.1.lt, hSq9.2.2.2.trans (bq11.mono hSq9.2.2.2.size)⟩ (fun hSq13 => ?_)
    clear hK K hSq9 bq11
    refine wpAnyH_ready (rs := [5]) (by kernel_rfl) (by simp) ?_
    refine AllReadyH.cons rfl (fun K hK => ?_) AllReadyH.nil
    rw [if_pos (by rfl)]
    refine wp_bs32 23 26 (.tmp 12) rfl m HM.out (by rfl) Try.underlying23 (by kernel_rfl) ?_
    intro gq17 yq15 egq18 ezq19 bq14 hEq16
    have lgq20 : w.heap.size ≤ gq17 := by rw [egq18]; exact hSq13.2.2.2.size
    have hEq21 := hEq12.below bq14 hEq12.lt
    refine hK.out _ _ ⟨hSq13.1.below bq14 hSq13.1.lt, hSq13.2.1.below bq14 hSq13.2.1.lt, hSq13.2.2.1.below bq14 hSq13.2.2.1.lt, hSq13.2.2.2.trans (bq14.mono hSq13.2.2.2.size)⟩ (fun hSq22 => ?_)
    clear hK K hSq13 bq14 egq18 ezq19
    refine wpAnyH_take (i := 6) (v := .agg #[.slice (some ⟨gq5, 0, none⟩) 1 1, .slice (some ⟨gq17, 0, none⟩) 1 1]) rfl (by kernel_rfl) (by kernel_rfl) (by kernel_rfl) (fun _ _ _ h => h) (Or.inl ⟨by rfl, fun x hx => by go_simp⟩) hSq22 ?_
    simp only [Act.put, List.getElem_toArray, List.getElem_cons_zero, List.getElem_cons_succ, List.setIfInBounds_toArray, List.set_cons_zero, List.set_cons_succ]
    refine wpAnyH_ready (rs := [7]) (by kernel_rfl) (by simp) ?_
    refine AllReadyH.cons rfl (fun K hK => ?_) AllReadyH.nil
    go_simp
    go_wp2_with (go_at_call 26; refine (NoteNil_calls _ _ 1 1 (by omega) rfl _).mono ?_; rintro e yq23 ⟨rfl, bq24⟩)
    have hEq25 := hEq21.below bq24 hEq21.lt
    have hEq26 := hEq16.below bq24 hEq16.lt
    refine hK.out _ _ ⟨hSq22.1.below bq24 hSq22.1.lt, hSq22.2.1.below bq24 hSq22.2.1.lt, hSq22.2.2.1.below bq24 hSq22.2.2.1.lt, hSq22.2.2.2.trans (bq24.mono hSq22.2.2.2.size)⟩ (fun hSq27 => ?_)
    clear hK K hSq22 bq24
    refine wpAnyH_done (by kernel_rfl) ?_ _
    go_wp2_with (first | ((with_reducible show wpList _ _ _ (⟨some 16, _, _, _, _, _⟩ :: _) _ _); refine wpList_loadBlk rfl 26 (.tmp 5) rfl w1.heap.size (by rfl) _ _ _ hSq27.2.2.1 Try.underlying26 rfl (by rw [bv_size, HT.out]; exact Try.sizeHash) ?_) | ((with_reducible show wpList _ _ _ (⟨none, Op.store _ (.tmp 4) _, _, _, _, _⟩ :: _) _ _); refine wpList_storeBlk rfl 26 (.tmp 4) (.tmp 16) rfl (w.heap.size + 1) (t.map bv).toArray (by rfl) (by rfl) _ _ hSq27.2.1 (by rw [bv_size, HT.out]; exact Try.sizeHash) (by rw [bv_size, HT.out, Z32_size]) (bv_all _) ?_; intro w9 hB9 g9; have h9 := hSq27.2.2.2.trans (grown_below g9 (by omega) hSq27.2.2.2.size)))
    refine ret_blk rfl (w.heap.size + 1) _ _ _ (by rfl) hB9 Try.underlying26 rfl (by rw [bv_size, HT.out]; exact Try.sizeHash) rfl ?_
    exact ⟨rfl, h9⟩
  refine AllReadyH.cons rfl (fun K hK => ?_) AllReadyH.nil
  go_simp
  go_wp2_with (go_at_call 31; refine (c2 _).mono ?_; rintro e yq28 ⟨rfl, bq29⟩)
  refine hK.out _ _ ⟨hSq1.1.below bq29 hSq1.1.lt, hSq1.2.1.below bq29 hSq1.2.1.lt, hSq1.2.2.1.below bq29 hSq1.2.2.1.lt, hSq1.2.2.2.trans (bq29.mono hSq1.2.2.2.size)⟩ (fun hSq30 => ?_)
  clear hK K hSq1 bq29
  refine wpAnyH_ready (rs := [2, 5]) (by kernel_rfl) (by simp) ?_
  refine AllReadyH.cons rfl (fun K hK => ?_) ?_
  · rw [if_pos (by rfl)]
    refine wp_bs32 23 26 (.tmp 9) rfl a HA.out (by rfl) Try.underlying23 (by kernel_rfl) ?_
    intro gq34 yq32 egq35 ezq36 bq31 hEq33
    have lgq37 : w.heap.size ≤ gq34 := by rw [egq35]; exact hSq30.2.2.2.size
    refine hK.out _ _ ⟨hSq30.1.below bq31 hSq30.1.lt, hSq30.2.1.below bq31 hSq30.2.1.lt, hSq30.2.2.1.below bq31 hSq30.2.2.1.lt, hSq30.2.2.2.trans (bq31.mono hSq30.2.2.2.size)⟩ (fun hSq38 => ?_)
    clear hK K hSq30 bq31 egq35 ezq36
    refine wpAnyH_ready (rs := [5]) (by kernel_rfl) (by simp) ?_
    refine AllReadyH.cons rfl (fun K hK => ?_) AllReadyH.nil
    rw [if_pos (by rfl)]
    refine wp_bs32 23 26 (.tmp 12) rfl m HM.out (by rfl) Try.underlying23 (by kernel_rfl) ?_
    intro gq42 yq40 egq43 ezq44 bq39 hEq41
    have lgq45 : w.heap.size ≤ gq42 := by rw [egq43]; exact hSq38.2.2.2.size
    have hEq46 := hEq33.below bq39 hEq33.lt
    refine hK.out _ _ ⟨hSq38.1.below bq39 hSq38.1.lt, hSq38.2.1.below bq39 hSq38.2.1.lt, hSq38.2.2.1.below bq39 hSq38.2.2.1.lt, hSq38.2.2.2.trans (bq39.mono hSq38.2.2.2.size)⟩ (fun hSq47 => ?_)
    clear hK K hSq38 bq39 egq43 ezq44
    refine wpAnyH_take (i := 6) (v := .agg #[.slice (some ⟨gq34, 0, none⟩) 1 1, .slice (some ⟨gq42, 0, none⟩) 1 1]) rfl (by kernel_rfl) (by kernel_rfl) (by kernel_rfl) (fun _ _ _ h => h) (Or.inl ⟨by rfl, fun x hx => by go_simp⟩) hSq47 ?_
    simp only [Act.put, List.getElem_toArray, List.getElem_cons_zero, List.getElem_cons_succ, List.setIfInBounds_toArray, List.set_cons_zero, List.set_cons_succ]
    refine wpAnyH_ready (rs := [7]) (by kernel_rfl) (by simp) ?_
    refine AllReadyH.cons rfl (fun K hK => ?_) AllReadyH.nil
    go_simp
    go_wp2_with (go_at_call 26; refine (NoteNil_calls _ _ 1 1 (by omega) rfl _).mono ?_; rintro e yq48 ⟨rfl, bq49⟩)
    have hEq50 := hEq46.below bq49 hEq46.lt
    have hEq51 := hEq41.below bq49 hEq41.lt
    refine hK.out _ _ ⟨hSq47.1.below bq49 hSq47.1.lt, hSq47.2.1.below bq49 hSq47.2.1.lt, hSq47.2.2.1.below bq49 hSq47.2.2.1.lt, hSq47.2.2.2.trans (bq49.mono hSq47.2.2.2.size)⟩ (fun hSq52 => ?_)
    clear hK K hSq47 bq49
    refine wpAnyH_done (by kernel_rfl) ?_ _
    go_wp2_with (first | ((with_reducible show wpList _ _ _ (⟨some 16, _, _, _, _, _⟩ :: _) _ _); refine wpList_loadBlk rfl 26 (.tmp 5) rfl w1.heap.size (by rfl) _ _ _ hSq52.2.2.1 Try.underlying26 rfl (by rw [bv_size, HT.out]; exact Try.sizeHash) ?_) | ((with_reducible show wpList _ _ _ (⟨none, Op.store _ (.tmp 4) _, _, _, _, _⟩ :: _) _ _); refine wpList_storeBlk rfl 26 (.tmp 4) (.tmp 16) rfl (w.heap.size + 1) (t.map bv).toArray (by rfl) (by rfl) _ _ hSq52.2.1 (by rw [bv_size, HT.out]; exact Try.sizeHash) (by rw [bv_size, HT.out, Z32_size]) (bv_all _) ?_; intro w9 hB9 g9; have h9 := hSq52.2.2.2.trans (grown_below g9 (by omega) hSq52.2.2.2.size)))
    refine ret_blk rfl (w.heap.size + 1) _ _ _ (by rfl) hB9 Try.underlying26 rfl (by rw [bv_size, HT.out]; exact Try.sizeHash) rfl ?_
    exact ⟨rfl, h9⟩
  refine AllReadyH.cons rfl (fun K hK => ?_) AllReadyH.nil
  rw [if_pos (by rfl)]
  refine wp_bs32 23 26 (.tmp 12) rfl m HM.out (by rfl) Try.underlying23 (by kernel_rfl) ?_
  intro gq56 yq54 egq57 ezq58 bq53 hEq55
  have lgq59 : w.heap.size ≤ gq56 := by rw [egq57]; exact hSq30.2.2.2.size
  refine hK.out _ _ ⟨hSq30.1.below bq53 hSq30.1.lt, hSq30.2.1.below bq53 hSq30.2.1.lt, hSq30.2.2.1.below bq53 hSq30.2.2.1.lt, hSq30.2.2.2.trans (bq53.mono hSq30.2.2.2.size)⟩ (fun hSq60 => ?_)
  clear hK K hSq30 bq53 egq57 ezq58
  refine wpAnyH_ready (rs := [2]) (by kernel_rfl) (by simp) ?_
  refine AllReadyH.cons rfl (fun K hK => ?_) AllReadyH.nil
  rw [if_pos (by rfl)]
  refine wp_bs32 23 26 (.tmp 9) rfl a HA.out (by rfl) Try.underlying23 (by kernel_rfl) ?_
  intro gq64 yq62 egq65 ezq66 bq61 hEq63
  have lgq67 : w.heap.size ≤ gq64 := by rw [egq65]; exact hSq60.2.2.2.size
  have hEq68 := hEq55.below bq61 hEq55.lt
  refine hK.out _ _ ⟨hSq60.1.below bq61 hSq60.1.lt, hSq60.2.1.below bq61 hSq60.2.1.lt, hSq60.2.2.1.below bq61 hSq60.2.2.1.lt, hSq60.2.2.2.trans (bq61.mono hSq60.2.2.2.size)⟩ (fun hSq69 => ?_)
  clear hK K hSq60 bq61 egq65 ezq66
  refine wpAnyH_take (i := 6) (v := .agg #[.slice (some ⟨gq64, 0, none⟩) 1 1, .slice (some ⟨gq56, 0, none⟩) 1 1]) rfl (by kernel_rfl) (by kernel_rfl) (by kernel_rfl) (fun _ _ _ h => h) (Or.inl ⟨by rfl, fun x hx => by go_simp⟩) hSq69 ?_
  simp only [Act.put, List.getElem_toArray, List.getElem_cons_zero, List.getElem_cons_succ, List.setIfInBounds_toArray, List.set_cons_zero, List.set_cons_succ]
  refine wpAnyH_ready (rs := [7]) (by kernel_rfl) (by simp) ?_
  refine AllReadyH.cons rfl (fun K hK => ?_) AllReadyH.nil
  go_simp
  go_wp2_with (go_at_call 26; refine (NoteNil_calls _ _ 1 1 (by omega) rfl _).mono ?_; rintro e yq70 ⟨rfl, bq71⟩)
  have hEq72 := hEq68.below bq71 hEq68.lt
  have hEq73 := hEq63.below bq71 hEq63.lt
  refine hK.out _ _ ⟨hSq69.1.below bq71 hSq69.1.lt, hSq69.2.1.below bq71 hSq69.2.1.lt, hSq69.2.2.1.below bq71 hSq69.2.2.1.lt, hSq69.2.2.2.trans (bq71.mono hSq69.2.2.2.size)⟩ (fun hSq74 => ?_)
  clear hK K hSq69 bq71
  refine wpAnyH_done (by kernel_rfl) ?_ _
  go_wp2_with (first | ((with_reducible show wpList _ _ _ (⟨some 16, _, _, _, _, _⟩ :: _) _ _); refine wpList_loadBlk rfl 26 (.tmp 5) rfl w1.heap.size (by rfl) _ _ _ hSq74.2.2.1 Try.underlying26 rfl (by rw [bv_size, HT.out]; exact Try.sizeHash) ?_) | ((with_reducible show wpList _ _ _ (⟨none, Op.store _ (.tmp 4) _, _, _, _, _⟩ :: _) _ _); refine wpList_storeBlk rfl 26 (.tmp 4) (.tmp 16) rfl (w.heap.size + 1) (t.map bv).toArray (by rfl) (by rfl) _ _ hSq74.2.1 (by rw [bv_size, HT.out]; exact Try.sizeHash) (by rw [bv_size, HT.out, Z32_size]) (bv_all _) ?_; intro w9 hB9 g9; have h9 := hSq74.2.2.2.trans (grown_below g9 (by omega) hSq74.2.2.2.size)))
  refine ret_blk rfl (w.heap.size + 1) _ _ _ (by rfl) hB9 Try.underlying26 rfl (by rw [bv_size, HT.out]; exact Try.sizeHash) rfl ?_
  exact ⟨rfl, h9⟩
end Go.Proofs.Ytjlpdbaknhbgdaa
