/-
  PrimWraps: what is wrapped is the document's, and is unwrapped as it was by the secret key: for every two digests and every two texts.
-/
import Derived.Test.YtnfegmcdljejnaaAwakePrim
set_option linter.unusedSimpArgs false
set_option linter.unusedVariables false
namespace Go.Proofs.Ytnfegmcdljejnaa
open Go.RowKit

set_option maxHeartbeats 4000000 in
set_option maxRecDepth 100000 in
theorem walkPrimWraps (a : List UInt8) (ha : a.length = 32) (o : List UInt8) (ho : o.length = 32) (s : List UInt8) (hm1 : s.length ≤ maxLen) (t : List UInt8) (hm2 : t.length ≤ maxLen) (w : World) :
    Calls Try.prog 12 #[.agg (a.map bv).toArray, .agg (o.map bv).toArray, .string (str s), .string (str t)] w fun e w' => e = .returned (.bool true) ∧ Below w.heap.size w w' := by
  have HA := Lib.hid ha
  have HO := Lib.hid ho
  clear ha ho
  unfold maxLen at hm1 hm2
  have hA0 : Blk ((w.alloc (.cells (a.map bv).toArray 23)).alloc (.cells (o.map bv).toArray 23)) w.heap.size (a.map bv).toArray 23 := (Blk.new _ _ _).alloc _
  have hO0 : Blk ((w.alloc (.cells (a.map bv).toArray 23)).alloc (.cells (o.map bv).toArray 23)) (w.heap.size + 1) (o.map bv).toArray 23 := blk_new1 _ _ _ _
  have hb0 : Below w.heap.size w ((w.alloc (.cells (a.map bv).toArray 23)).alloc (.cells (o.map bv).toArray 23)) := ((Below.refl _ _).alloc (Nat.le_refl _) _).alloc (by simp) _
  by_cases hs : 3000 < s.length
  · skip
    go_enter Try.func12, Try.ntmps12
    go_wp2_with fail
    generalize (w.alloc (.cells (a.map bv).toArray 23)).alloc (.cells (o.map bv).toArray 23) = W0 at hA0 hO0 hb0 ⊢
    refine (awake5_calls _).mono ?_
    rintro e w1 ⟨rfl, b1⟩
    have hA01 := hA0.below b1 hA0.lt
    have hO01 := hO0.below b1 hO0.lt
    have hb01 := hb0.trans (b1.mono hb0.size)
    clear b1 hA0 hO0 hb0
    go_wp2_with fail
    refine (awake5_calls _).mono ?_
    rintro e w2 ⟨rfl, b2⟩
    have hb2 := hb01.trans (b2.mono hb01.size)
    go_wp2_with fail
    go_returns
    exact ⟨rfl, hb2⟩
  by_cases ht : 3000 < t.length ∧ t.length ≤ 65536
  · obtain ⟨ht1, ht2⟩ := ht
    go_enter Try.func12, Try.ntmps12
    go_wp2_with fail
    generalize (w.alloc (.cells (a.map bv).toArray 23)).alloc (.cells (o.map bv).toArray 23) = W0 at hA0 hO0 hb0 ⊢
    refine (awake5_calls _).mono ?_
    rintro e w1 ⟨rfl, b1⟩
    have hA01 := hA0.below b1 hA0.lt
    have hO01 := hO0.below b1 hO0.lt
    have hb01 := hb0.trans (b1.mono hb0.size)
    clear b1 hA0 hO0 hb0
    go_wp2_with fail
    refine (awake5_calls _).mono ?_
    rintro e w2 ⟨rfl, b2⟩
    have hb2 := hb01.trans (b2.mono hb01.size)
    go_wp2_with fail
    go_returns
    exact ⟨rfl, hb2⟩
  obtain ⟨p, hp⟩ : ∃ p, p = pubT a := ⟨_, rfl⟩
  have HP : Hid (p.length = 32) := by show _ = _; rw [hp]; exact pubT_len _
  have c1 : ∀ y, Calls Try.prog 55 #[.pointer none, .agg (a.map bv).toArray] y fun e w' => e = .returned (.agg (p.map bv).toArray) ∧ Below y.heap.size y w' := by rw [hp]; exact fun y => Pub_calls a y HA.out
  have c4 : ∀ y, Calls Try.prog 58 #[.agg (a.map bv).toArray] y fun e w' => e = .returned (.agg (p.map bv).toArray) ∧ Below y.heap.size y w' := by rw [hp]; exact fun y => RefPub_calls a y HA.out
  by_cases ht3 : 65536 < t.length
  · have hm3 : t.length ≤ maxLen := by unfold maxLen; omega
    clear ht hp
    go_enter Try.func12, Try.ntmps12
    go_wp2_with fail
    generalize (w.alloc (.cells (a.map bv).toArray 23)).alloc (.cells (o.map bv).toArray 23) = W0 at hA0 hO0 hb0 ⊢
    refine (awake5_calls _).mono ?_
    rintro e w1 ⟨rfl, b1⟩
    have hA01 := hA0.below b1 hA0.lt
    have hO01 := hO0.below b1 hO0.lt
    have hb01 := hb0.trans (b1.mono hb0.size)
    clear b1 hA0 hO0 hb0
    go_wp2_with ((with_reducible show wpList _ _ _ (⟨some 31, _, _, _, _, _⟩ :: _) _ _); refine wpList_load_mid rfl 23 (.tmp 4) rfl (w.heap.size) 0 (by rfl) (a.map bv) _ (blk_range hA01) Try.underlying23 rfl (by rw [List.length_map, HA.out]; exact Try.sizeHash) ?_)
    refine (c1 _).mono ?_
    rintro e w2 ⟨rfl, b2⟩
    have hA2 := (hA01.below b2 hA01.lt).alloc (.cells Z32 23)
    have hO2 := (hO01.below b2 hO01.lt).alloc (.cells Z32 23)
    have hs1 : w.heap.size + 1 < w2.heap.size := (hO01.below b2 hO01.lt).lt
    have hb1 : Below w.heap.size w w2 := hb01.trans (b2.mono hb01.size)
    have hN := Blk.new w2 Z32 23
    have hb2 : Below w.heap.size w (w2.alloc (.cells Z32 23)) := hb1.alloc hb1.size _
    clear b2 hA01 hO01 hb01 hb1 c1
    go_wp2_with (first | ((with_reducible show wpList _ _ _ (⟨none, Op.store _ (.tmp 9) _, _, _, _, _⟩ :: _) _ _); refine wpList_storeBlk rfl 23 (.tmp 9) (.tmp 32) rfl w2.heap.size (p.map bv).toArray (by rfl) (by rfl) _ _ hN (by rw [bv_size, HP.out]; exact Try.sizeHash) (by rw [bv_size, HP.out, Z32_size]) (bv_all _) ?_; intro w3 hP3 g3; have hA3 := Blk.grown hA2 g3 (by simp; omega); have hO3 := Blk.grown hO2 g3 (by simp; omega); have hb3 : Below w.heap.size w w3 := below_new hb2 g3 (by omega) (by simp; omega); clear hN hA2 hO2 hb2 g3) | ((with_reducible show wpList _ _ _ (⟨some 33, _, _, _, _, _⟩ :: _) _ _); refine wpList_load_mid rfl 23 (.tmp 9) rfl w2.heap.size 0 (by rfl) (p.map bv) _ (blk_range hP3) Try.underlying23 rfl (by rw [List.length_map, HP.out]; exact Try.sizeHash) ?_) | ((with_reducible show wpList _ _ _ (⟨some 34, _, _, _, _, _⟩ :: _) _ _); refine wpList_load_mid rfl 23 (.tmp 5) rfl (w.heap.size + 1) 0 (by rfl) (o.map bv) _ (blk_range hO3) Try.underlying23 rfl (by rw [List.length_map, HO.out]; exact Try.sizeHash) ?_))
    refine (WrapLong_calls p o s t _ ht3 hm3).mono ?_
    rintro e w4 ⟨rfl, b4⟩
    have hA4 := hA3.below b4 hA3.lt
    have hO4 := hO3.below b4 hO3.lt
    have hb4 := hb3.trans (b4.mono hb3.size)
    clear hA3 hO3 hb3 hP3 b4
    go_wp2_with fail
    go_returns
    exact ⟨rfl, hb4⟩
  have ht4 : t.length ≤ 3000 := by omega
  obtain ⟨x, hx⟩ : ∃ x, x = wrapT p o s t := ⟨_, rfl⟩
  have hxl : x.length = 48 + t.length := by rw [hx, wrapT, List.length_append, HO.out, sealT_len]; omega
  have c2 : ∀ y, Calls Try.prog 56 #[.pointer none, .agg (p.map bv).toArray, .agg (o.map bv).toArray, .string (str s), .string (str t), .slice none 0 0] y fun e w' => e = .returned (.string (str x)) ∧ Below y.heap.size y w' := by rw [hx]; exact fun y => Wrap_calls p o s t y HP.out HO.out (by omega) (by omega)
  have c5 : ∀ y, Calls Try.prog 57 #[.agg (p.map bv).toArray, .agg (o.map bv).toArray, .string (str s), .string (str t)] y fun e w' => e = .returned (.string (str x)) ∧ Below y.heap.size y w' := by rw [hx]; exact fun y => RefWrap_calls p o s t y HP.out HO.out (by omega) (by omega)
  have c3 : ∀ y, Calls Try.prog 52 #[.agg (a.map bv).toArray, .string (str s), .string (str x)] y fun e w' => e = .returned (.tuple #[.string (str t), .int .i64 0]) ∧ Below y.heap.size y w' := by
    have h1 : unwrapV a s x = (t, 0) := by rw [hx, hp]; exact unwrap_wrap a o s t HO.out (by omega)
    have h2 := fun y => Unwrap_calls a s x y HA.out (by omega) (by unfold maxLen; omega)
    rw [h1] at h2
    exact h2
  clear hx hp ht ht3
  go_enter Try.func12, Try.ntmps12
  go_wp2_with fail
  generalize (w.alloc (.cells (a.map bv).toArray 23)).alloc (.cells (o.map bv).toArray 23) = W0 at hA0 hO0 hb0 ⊢
  refine (awake5_calls _).mono ?_
  rintro e w1 ⟨rfl, b1⟩
  have hA01 := hA0.below b1 hA0.lt
  have hO01 := hO0.below b1 hO0.lt
  have hb01 := hb0.trans (b1.mono hb0.size)
  clear b1 hA0 hO0 hb0
  go_wp2_with ((with_reducible show wpList _ _ _ (⟨some 31, _, _, _, _, _⟩ :: _) _ _); refine wpList_load_mid rfl 23 (.tmp 4) rfl (w.heap.size) 0 (by rfl) (a.map bv) _ (blk_range hA01) Try.underlying23 rfl (by rw [List.length_map, HA.out]; exact Try.sizeHash) ?_)
  refine (c1 _).mono ?_
  rintro e w2 ⟨rfl, b2⟩
  have hA2 := (hA01.below b2 hA01.lt).alloc (.cells Z32 23)
  have hO2 := (hO01.below b2 hO01.lt).alloc (.cells Z32 23)
  have hs1 : w.heap.size + 1 < w2.heap.size := (hO01.below b2 hO01.lt).lt
  have hb1 : Below w.heap.size w w2 := hb01.trans (b2.mono hb01.size)
  have hN := Blk.new w2 Z32 23
  have hb2 : Below w.heap.size w (w2.alloc (.cells Z32 23)) := hb1.alloc hb1.size _
  clear b2 hA01 hO01 hb01 hb1 c1
  go_wp2_with (first | ((with_reducible show wpList _ _ _ (⟨none, Op.store _ (.tmp 9) _, _, _, _, _⟩ :: _) _ _); refine wpList_storeBlk rfl 23 (.tmp 9) (.tmp 32) rfl w2.heap.size (p.map bv).toArray (by rfl) (by rfl) _ _ hN (by rw [bv_size, HP.out]; exact Try.sizeHash) (by rw [bv_size, HP.out, Z32_size]) (bv_all _) ?_; intro w3 hP3 g3; have hA3 := Blk.grown hA2 g3 (by simp; omega); have hO3 := Blk.grown hO2 g3 (by simp; omega); have hb3 : Below w.heap.size w w3 := below_new hb2 g3 (by omega) (by simp; omega); clear hN hA2 hO2 hb2 g3) | ((with_reducible show wpList _ _ _ (⟨some 33, _, _, _, _, _⟩ :: _) _ _); refine wpList_load_mid rfl 23 (.tmp 9) rfl w2.heap.size 0 (by rfl) (p.map bv) _ (blk_range hP3) Try.underlying23 rfl (by rw [List.length_map, HP.out]; exact Try.sizeHash) ?_) | ((with_reducible show wpList _ _ _ (⟨some 34, _, _, _, _, _⟩ :: _) _ _); refine wpList_load_mid rfl 23 (.tmp 5) rfl (w.heap.size + 1) 0 (by rfl) (o.map bv) _ (blk_range hO3) Try.underlying23 rfl (by rw [List.length_map, HO.out]; exact Try.sizeHash) ?_))
  refine (c2 _).mono ?_
  rintro e w4 ⟨rfl, b4⟩
  have hA4 := hA3.below b4 hA3.lt
  have hO4 := hO3.below b4 hO3.lt
  have hb4 := hb3.trans (b4.mono hb3.size)
  clear hA3 hO3 hb3 hP3 b4
  go_wp2_with ((with_reducible show wpList _ _ _ (⟨some 44, _, _, _, _, _⟩ :: _) _ _); refine wpList_load_mid rfl 23 (.tmp 4) rfl (w.heap.size) 0 (by rfl) (a.map bv) _ (blk_range hA4) Try.underlying23 rfl (by rw [List.length_map, HA.out]; exact Try.sizeHash) ?_)
  refine (c3 _).mono ?_
  rintro e wq75 ⟨rfl, bq76⟩
  have hBq77 := hA4.below bq76 hA4.lt
  have hBq78 := hO4.below bq76 hO4.lt
  have hbq79 := hb4.trans (bq76.mono hb4.size)
  clear hA4 hO4 hb4 bq76
  go_wp2_with fail
  refine wp_region_held_drew (S := fun x => Blk x (w.heap.size) (a.map bv).toArray 23 ∧ Blk x (w.heap.size + 1) (o.map bv).toArray 23 ∧ Below w.heap.size w x) (by kernel_rfl) ⟨hBq77.drew, hBq78.drew, below_drewN hbq79 1⟩ (fun hSq80 => ?_)
  refine wpAnyH_take (i := 0) (v := .string (str x)) rfl (by kernel_rfl) (by kernel_rfl) (by kernel_rfl) (fun _ _ _ h => h) (Or.inl ⟨by rfl, fun x hx => by go_simp⟩) hSq80 ?_
  simp only [Act.put, List.getElem_toArray, List.getElem_cons_zero, List.getElem_cons_succ, List.setIfInBounds_toArray, List.set_cons_zero, List.set_cons_succ]
  refine wpAnyH_take (i := 1) rfl (by kernel_rfl) (by kernel_rfl) (by kernel_rfl) (fun _ _ _ h => h) (yieldsIf_load_mid (by rfl) 23 (.tmp 4) rfl (w.heap.size) 0 (by rfl) (a.map bv) _ (fun x hx => blk_range hx.1) Try.underlying23 rfl (by rw [List.length_map, HA.out]; exact Try.sizeHash)) hSq80 ?_
  simp only [Act.put, List.getElem_toArray, List.getElem_cons_zero, List.getElem_cons_succ, List.setIfInBounds_toArray, List.set_cons_zero, List.set_cons_succ]
  refine wpAnyH_take (i := 3) rfl (by kernel_rfl) (by kernel_rfl) (by kernel_rfl) (fun _ _ _ h => h) (yieldsIf_load_mid (by rfl) 23 (.tmp 5) rfl (w.heap.size + 1) 0 (by rfl) (o.map bv) _ (fun x hx => blk_range hx.2.1) Try.underlying23 rfl (by rw [List.length_map, HO.out]; exact Try.sizeHash)) hSq80 ?_
  simp only [Act.put, List.getElem_toArray, List.getElem_cons_zero, List.getElem_cons_succ, List.setIfInBounds_toArray, List.set_cons_zero, List.set_cons_succ]
  refine wpAnyH_take (i := 4) (v := .string (str s)) rfl (by kernel_rfl) (by kernel_rfl) (by kernel_rfl) (fun _ _ _ h => h) (Or.inl ⟨by rfl, fun x hx => by go_simp⟩) hSq80 ?_
  simp only [Act.put, List.getElem_toArray, List.getElem_cons_zero, List.getElem_cons_succ, List.setIfInBounds_toArray, List.set_cons_zero, List.set_cons_succ]
  refine wpAnyH_take (i := 5) (v := .string (str t)) rfl (by kernel_rfl) (by kernel_rfl) (by kernel_rfl) (fun _ _ _ h => h) (Or.inl ⟨by rfl, fun x hx => by go_simp⟩) hSq80 ?_
  simp only [Act.put, List.getElem_toArray, List.getElem_cons_zero, List.getElem_cons_succ, List.setIfInBounds_toArray, List.set_cons_zero, List.set_cons_succ]
  refine wpAnyH_ready (rs := [2]) (by kernel_rfl) (by simp) ?_
  refine AllReadyH.cons rfl (fun K hK => ?_) AllReadyH.nil
  go_simp
  go_wp2_with (go_at_call 58; refine (c4 _).mono ?_; rintro e yq81 ⟨rfl, bq82⟩)
  refine hK.out _ _ ⟨hSq80.1.below bq82 hSq80.1.lt, hSq80.2.1.below bq82 hSq80.2.1.lt, hSq80.2.2.trans (bq82.mono hSq80.2.2.size)⟩ (fun hSq83 => ?_)
  clear hK K hSq80 bq82
  refine wpAnyH_ready (rs := [6]) (by kernel_rfl) (by simp) ?_
  refine AllReadyH.cons rfl (fun K hK => ?_) AllReadyH.nil
  go_simp
  go_wp2_with (go_at_call 57; refine (c5 _).mono ?_; rintro e yq84 ⟨rfl, bq85⟩)
  refine hK.out _ _ ⟨hSq83.1.below bq85 hSq83.1.lt, hSq83.2.1.below bq85 hSq83.2.1.lt, hSq83.2.2.trans (bq85.mono hSq83.2.2.size)⟩ (fun hSq86 => ?_)
  clear hK K hSq83 bq85
  refine wpAnyH_take (i := 7) (v := .bool true) rfl (by kernel_rfl) (by kernel_rfl) (by kernel_rfl) (fun _ _ _ h => h) (Or.inl ⟨by rfl, fun x hx => by go_simp⟩) hSq86 ?_
  simp only [Act.put, List.getElem_toArray, List.getElem_cons_zero, List.getElem_cons_succ, List.setIfInBounds_toArray, List.set_cons_zero, List.set_cons_succ]
  refine wpAnyH_take (i := 8) (v := .bool true) rfl (by kernel_rfl) (by kernel_rfl) (by kernel_rfl) (fun _ _ _ h => h) (Or.inl ⟨by rfl, fun x hx => by go_simp⟩) hSq86 ?_
  simp only [Act.put, List.getElem_toArray, List.getElem_cons_zero, List.getElem_cons_succ, List.setIfInBounds_toArray, List.set_cons_zero, List.set_cons_succ]
  refine wpAnyH_take (i := 9) (v := .int .i64 0) rfl (by kernel_rfl) (by kernel_rfl) (by kernel_rfl) (fun _ _ _ h => h) (Or.inl ⟨by rfl, fun x hx => by go_simp⟩) hSq86 ?_
  simp only [Act.put, List.getElem_toArray, List.getElem_cons_zero, List.getElem_cons_succ, List.setIfInBounds_toArray, List.set_cons_zero, List.set_cons_succ]
  refine wpAnyH_take (i := 10) (v := .bool true) rfl (by kernel_rfl) (by kernel_rfl) (by kernel_rfl) (fun _ _ _ h => h) (Or.inl ⟨by rfl, fun x hx => by go_simp⟩) hSq86 ?_
  simp only [Act.put, List.getElem_toArray, List.getElem_cons_zero, List.getElem_cons_succ, List.setIfInBounds_toArray, List.set_cons_zero, List.set_cons_succ]
  refine wpAnyH_take (i := 11) (v := .bool true) rfl (by kernel_rfl) (by kernel_rfl) (by kernel_rfl) (fun _ _ _ h => h) (Or.inl ⟨by rfl, fun x hx => by go_simp⟩) hSq86 ?_
  simp only [Act.put, List.getElem_toArray, List.getElem_cons_zero, List.getElem_cons_succ, List.setIfInBounds_toArray, List.set_cons_zero, List.set_cons_succ]
  refine wpAnyH_take (i := 12) (v := .bool true) rfl (by kernel_rfl) (by kernel_rfl) (by kernel_rfl) (fun _ _ _ h => h) (Or.inl ⟨by rfl, fun x hx => by go_simp⟩) hSq86 ?_
  simp only [Act.put, List.getElem_toArray, List.getElem_cons_zero, List.getElem_cons_succ, List.setIfInBounds_toArray, List.set_cons_zero, List.set_cons_succ]
  refine wpAnyH_take (i := 13) (v := .string (str t)) rfl (by kernel_rfl) (by kernel_rfl) (by kernel_rfl) (fun _ _ _ h => h) (Or.inl ⟨by rfl, fun x hx => by go_simp⟩) hSq86 ?_
  simp only [Act.put, List.getElem_toArray, List.getElem_cons_zero, List.getElem_cons_succ, List.setIfInBounds_toArray, List.set_cons_zero, List.set_cons_succ]
  refine wpAnyH_take (i := 14) (v := .string (str t)) rfl (by kernel_rfl) (by kernel_rfl) (by kernel_rfl) (fun _ _ _ h => h) (Or.inl ⟨by rfl, fun x hx => by go_simp⟩) hSq86 ?_
  simp only [Act.put, List.getElem_toArray, List.getElem_cons_zero, List.getElem_cons_succ, List.setIfInBounds_toArray, List.set_cons_zero, List.set_cons_succ]
  refine wpAnyH_take (i := 15) (v := .bool true) rfl (by kernel_rfl) (by kernel_rfl) (by kernel_rfl) (fun _ _ _ h => h) (Or.inl ⟨by rfl, fun x hx => by go_simp⟩) hSq86 ?_
  simp only [Act.put, List.getElem_toArray, List.getElem_cons_zero, List.getElem_cons_succ, List.setIfInBounds_toArray, List.set_cons_zero, List.set_cons_succ]
  refine wpAnyH_take (i := 16) (v := .bool true) rfl (by kernel_rfl) (by kernel_rfl) (by kernel_rfl) (fun _ _ _ h => h) (Or.inl ⟨by rfl, fun x hx => by go_simp⟩) hSq86 ?_
  simp only [Act.put, List.getElem_toArray, List.getElem_cons_zero, List.getElem_cons_succ, List.setIfInBounds_toArray, List.set_cons_zero, List.set_cons_succ]
  refine wpAnyH_ready (rs := [17]) (by kernel_rfl) (by simp) ?_
  refine AllReadyH.cons rfl (fun K hK => ?_) AllReadyH.nil
  go_simp
  refine hK.out _ _ hSq86 (fun hSq87 => ?_)
  clear hK K hSq86
  refine wpAnyH_done (by kernel_rfl) ?_ _
  go_wp2_with fail
  go_returns
  exact ⟨rfl, hSq87.2.2⟩
end Go.Proofs.Ytnfegmcdljejnaa
