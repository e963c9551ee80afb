/-
  KeysMakes: an epoch's secrets, and the roots of its rows, are the document's: for all joiners, contexts and places.
-/
import Derived.Test.YtnfegmcdljejnaaAwakeKeys
set_option linter.unusedSimpArgs false
set_option linter.unusedVariables false
namespace Go.Proofs.Ytnfegmcdljejnaa
open Go.RowKit

set_option maxHeartbeats 4000000 in
set_option maxRecDepth 100000 in
theorem walkKeysMakes_long (a : List UInt8) (ha : a.length = 32) (c : List UInt8) (hm : c.length ≤ maxLen) (hc : ¬ c.length ≤ 5000) (n : Int) (w : World) :
    Calls Try.prog 5 #[.agg (a.map bv).toArray, .string (str c), .int .i64 n] w fun e w' => e = .returned (.bool true) ∧ Below w.heap.size w w' := by
  unfold maxLen at hm
  have HA := Lib.hid ha
  clear ha
  have hA0 : Blk (w.alloc (.cells (a.map bv).toArray 23)) w.heap.size (a.map bv).toArray 23 := Blk.new _ _ _
  have hb0 : Below w.heap.size w (w.alloc (.cells (a.map bv).toArray 23)) := (Below.refl _ _).alloc (Nat.le_refl _) _
  go_enter Try.func5, Try.ntmps5
  go_wp2_with fail
  generalize w.alloc (.cells (a.map bv).toArray 23) = W0 at hA0 hb0 ⊢
  refine (awake_calls _).mono ?_
  rintro e w1 ⟨rfl, b1⟩
  have hA1 := hA0.below b1 hA0.lt
  have hb1 := hb0.trans (b1.mono hb0.size)
  clear hA0 hb0 b1
  go_wp2_with fail
  refine (awake_calls _).mono ?_
  rintro e w2 ⟨rfl, b2⟩
  go_wp2_with fail
  go_returns
  exact ⟨rfl, hb1.trans (b2.mono hb1.size)⟩
set_option maxHeartbeats 4000000 in
set_option maxRecDepth 100000 in
theorem walkKeysMakes_neg (a : List UInt8) (ha : a.length = 32) (c : List UInt8) (hc : c.length ≤ 5000) (n : Int) (hn : n < 0) (w : World) :
    Calls Try.prog 5 #[.agg (a.map bv).toArray, .string (str c), .int .i64 n] w fun e w' => e = .returned (.bool true) ∧ Below w.heap.size w w' := by
  have HA := Lib.hid ha
  clear ha
  have hA0 : Blk (w.alloc (.cells (a.map bv).toArray 23)) w.heap.size (a.map bv).toArray 23 := Blk.new _ _ _
  have hb0 : Below w.heap.size w (w.alloc (.cells (a.map bv).toArray 23)) := (Below.refl _ _).alloc (Nat.le_refl _) _
  obtain ⟨Y, hY⟩ : ∃ y, y = secsT a c := ⟨_, rfl⟩
  have c1 : ∀ x, Calls Try.prog 30 #[.pointer none, .agg (a.map bv).toArray, .string (str c)] x fun e w' => e = .returned (.agg (Y.map bv).toArray) ∧ Below x.heap.size x w' := by rw [hY]; exact fun x => Make_calls a c x HA.out (by omega)
  have c2 : ∀ x, Calls Try.prog 31 #[.agg (a.map bv).toArray, .string (str c)] x fun e w' => e = .returned (.agg (Y.map bv).toArray) ∧ Below x.heap.size x w' := by rw [hY]; exact fun x => RefMake_calls a c x HA.out (by omega)
  obtain ⟨W, E, I, F, P, X, LW, LE, LI, LF, LP, LX, hs1⟩ : ∃ W E I F P X : List UInt8, Hid (W.length = 32) ∧ Hid (E.length = 32) ∧ Hid (I.length = 32) ∧ Hid (F.length = 32) ∧ Hid (P.length = 32) ∧ Hid (X.length = 32) ∧ Hid (Y = a ++ (W ++ (E ++ (I ++ (F ++ (P ++ X)))))) := by
    rw [hY]
    exact ⟨_, _, _, _, _, _, hmac_len _ _, hmac_len _ _, hmac_len _ _, hmac_len _ _, hmac_len _ _, hmac_len _ _, rfl⟩
  have LY : Hid (Y.length = 224) := by show _ = _; rw [hs1.out]; simp only [List.length_append, LI.out, LX.out, LW.out, LE.out, LF.out, LP.out, HA.out]
  clear hY
  have hq0 : ∀ x, (Op.equalIn 10000 23 (.agg (a.map bv).toArray) (.agg (a.map bv).toArray)).run Try.prog x = .ok true x := fun x => by
    rw [run_eq_hash x _ _ HA.out HA.out, beq_self_eq_true]
  have hq1 : ∀ x, (Op.equalIn 10000 23 (.agg (W.map bv).toArray) (.agg (W.map bv).toArray)).run Try.prog x = .ok true x := fun x => by
    rw [run_eq_hash x _ _ LW.out LW.out, beq_self_eq_true]
  have hq2 : ∀ x, (Op.equalIn 10000 23 (.agg (E.map bv).toArray) (.agg (E.map bv).toArray)).run Try.prog x = .ok true x := fun x => by
    rw [run_eq_hash x _ _ LE.out LE.out, beq_self_eq_true]
  have hq3 : ∀ x, (Op.equalIn 10000 23 (.agg (I.map bv).toArray) (.agg (I.map bv).toArray)).run Try.prog x = .ok true x := fun x => by
    rw [run_eq_hash x _ _ LI.out LI.out, beq_self_eq_true]
  have hq4 : ∀ x, (Op.equalIn 10000 23 (.agg (F.map bv).toArray) (.agg (F.map bv).toArray)).run Try.prog x = .ok true x := fun x => by
    rw [run_eq_hash x _ _ LF.out LF.out, beq_self_eq_true]
  have hq5 : ∀ x, (Op.equalIn 10000 23 (.agg (P.map bv).toArray) (.agg (P.map bv).toArray)).run Try.prog x = .ok true x := fun x => by
    rw [run_eq_hash x _ _ LP.out LP.out, beq_self_eq_true]
  have hq6 : ∀ x, (Op.equalIn 10000 23 (.agg (X.map bv).toArray) (.agg (X.map bv).toArray)).run Try.prog x = .ok true x := fun x => by
    rw [run_eq_hash x _ _ LX.out LX.out, beq_self_eq_true]
  have hz1 : Try.zeroCells31.size = 224 := by rw [Try.zeroSecs]; simp [s7, z32]
  have hz2 : Try.zeroCells34.size = 224 := by rw [Try.zeroRefSecs]; simp [s7, z32]
  have cb : ∀ x, Calls Try.prog 32 #[.pointer none, .agg (a.map bv).toArray, .int .i64 n] x fun e w' => e = .returned (.agg (z32.map bv).toArray) ∧ Below x.heap.size x w' := fun x => AppBad_calls a n x HA.out (Or.inl hn)
  have hqz : ∀ x, (Op.equalIn 10000 23 (.agg (z32.map bv).toArray) (.agg (z32.map bv).toArray)).run Try.prog x = .ok true x := fun x => by
    rw [run_eq_hash x _ _ rfl rfl, beq_self_eq_true]
  go_enter Try.func5, Try.ntmps5
  go_wp2_with fail
  generalize w.alloc (.cells (a.map bv).toArray 23) = W0 at hA0 hb0 ⊢
  refine (awake_calls _).mono ?_
  rintro e w1 ⟨rfl, b1⟩
  have hA1 := hA0.below b1 hA0.lt
  have hb1 := hb0.trans (b1.mono hb0.size)
  clear hA0 hb0 b1
  go_wp2_with ((with_reducible show wpList _ _ _ (⟨some 17, _, _, _, _, _⟩ :: _) _ _); refine wpList_if (by rfl) (wp_load_mid 23 (.tmp 3) rfl w.heap.size 0 (by rfl) (a.map bv) _ (blk_range hA1) Try.underlying23 rfl (by rw [List.length_map, HA.out]; exact Try.sizeHash) ?_))
  refine (c1 _).mono ?_
  rintro e w2 ⟨rfl, b2⟩
  have hA2 := hA1.below b2 hA1.lt
  have hb2 := hb1.trans (b2.mono hb1.size)
  have lA2 := hA2.lt
  have hN2 := Blk.new w2 Try.zeroCells31 31
  have hA3 := hA2.alloc (.cells Try.zeroCells31 31)
  have hb3 := hb2.alloc hb2.size (.cells Try.zeroCells31 31)
  clear hA1 hb1 b2 hA2 hb2
  go_wp2_with (first | ((with_reducible show wpList _ _ _ (⟨none, Op.store _ (.tmp 7) _, _, _, _, _⟩ :: _) _ _); refine wpList_storeBlk rfl 31 (.tmp 7) (.tmp 19) rfl w2.heap.size (Y.map bv).toArray (by rfl) (by rfl) _ _ hN2 (by rw [bv_size, LY.out]; exact Try.sizeSecs) (by rw [bv_size, LY.out, hz1]) (bv_all _) ?_; intro w3 hS3 g3; have hA4 := hA3.grown g3 (by simp; omega); have hb4 := below_new hb3 g3 (by omega) hb3.size) | ((with_reducible show wpList _ _ _ (⟨some 20, _, _, _, _, _⟩ :: _) _ _); refine wpList_if (by rfl) (wp_load_mid 23 (.tmp 3) rfl w.heap.size 0 (by rfl) (a.map bv) _ (blk_range hA4) Try.underlying23 rfl (by rw [List.length_map, HA.out]; exact Try.sizeHash) ?_)))
  refine (c2 _).mono ?_
  rintro e w4 ⟨rfl, b4⟩
  have hA5 := hA4.below b4 hA4.lt
  have hS5 := hS3.below b4 hS3.lt
  have hb5 := hb4.trans (b4.mono hb4.size)
  have lS5 := hS5.lt
  have hN5 := Blk.new w4 Try.zeroCells34 34
  have hA6 := hA5.alloc (.cells Try.zeroCells34 34)
  have hS6 := hS5.alloc (.cells Try.zeroCells34 34)
  have hb6 := hb5.alloc hb5.size (.cells Try.zeroCells34 34)
  clear hN2 hA3 hb3 g3 hA4 hb4 b4 hA5 hS5 hb5 hS3
  have lA5 : w.heap.size < w4.heap.size := by omega
  go_wp2_with (first | ((with_reducible show wpList _ _ _ (⟨none, Op.store _ (.tmp 8) _, _, _, _, _⟩ :: _) _ _); refine wpList_storeBlk rfl 34 (.tmp 8) (.tmp 22) rfl w4.heap.size (Y.map bv).toArray (by rfl) (by rfl) _ _ hN5 (by rw [bv_size, LY.out]; exact Try.sizeRefSecs) (by rw [bv_size, LY.out, hz2]) (bv_all _) ?_; intro w5 hT6 g5; have hA7 := hA6.grown g5 (by simp; omega); have hS7 := hS6.grown g5 (by simp; omega); have hb7 := below_new hb6 g5 (by omega) hb6.size) | ((with_reducible show wpList _ _ _ (⟨some 25, _, _, _, _, _⟩ :: _) _ _); refine wpList_if (by rfl) (wp_load_mid 23 (.tmp 3) rfl w.heap.size 0 (by rfl) (a.map bv) _ (blk_range hA7) Try.underlying23 rfl (by rw [List.length_map, HA.out]; exact Try.sizeHash) ?_)) | ((with_reducible show wpList _ _ _ (⟨some 24, _, _, _, _, _⟩ :: _) _ _); refine wpList_if (by rfl) (wp_load_mid 23 (.tmp 23) rfl w2.heap.size 0 (by rfl) (a.map bv) _ (blk_mid (A := []) (v := a) (C := W ++ (E ++ (I ++ (F ++ (P ++ (X)))))) hS7 (hs1.out.trans (by simp)) (rfl)) Try.underlying23 rfl (by rw [List.length_map, HA.out]; exact Try.sizeHash) ?_)) | ((with_reducible show wpList _ _ _ (⟨some 29, _, _, _, _, _⟩ :: _) _ _); refine wpList_if (by rfl) (wp_load_mid 23 (.tmp 28) rfl w2.heap.size 32 (by rfl) (W.map bv) _ (blk_mid (A := a) (v := W) (C := E ++ (I ++ (F ++ (P ++ (X))))) hS7 (hs1.out.trans (by simp)) (by simp only [List.length_append, HA.out])) Try.underlying23 rfl (by rw [List.length_map, LW.out]; exact Try.sizeHash) ?_)) | ((with_reducible show wpList _ _ _ (⟨some 31, _, _, _, _, _⟩ :: _) _ _); refine wpList_if (by rfl) (wp_load_mid 22 (.tmp 30) rfl w4.heap.size 32 (by rfl) (W.map bv) _ (blk_mid (A := a) (v := W) (C := E ++ (I ++ (F ++ (P ++ (X))))) hT6 (hs1.out.trans (by simp)) (by simp only [List.length_append, HA.out])) Try.underlying22 rfl (by rw [List.length_map, LW.out]; exact Try.sizeA32) ?_)) | ((with_reducible show wpList _ _ _ (⟨some 36, _, _, _, _, _⟩ :: _) _ _); refine wpList_if (by rfl) (wp_load_mid 23 (.tmp 35) rfl w2.heap.size 64 (by rfl) (E.map bv) _ (blk_mid (A := a ++ (W)) (v := E) (C := I ++ (F ++ (P ++ (X)))) hS7 (hs1.out.trans (by simp)) (by simp only [List.length_append, HA.out, LW.out])) Try.underlying23 rfl (by rw [List.length_map, LE.out]; exact Try.sizeHash) ?_)) | ((with_reducible show wpList _ _ _ (⟨some 38, _, _, _, _, _⟩ :: _) _ _); refine wpList_if (by rfl) (wp_load_mid 22 (.tmp 37) rfl w4.heap.size 64 (by rfl) (E.map bv) _ (blk_mid (A := a ++ (W)) (v := E) (C := I ++ (F ++ (P ++ (X)))) hT6 (hs1.out.trans (by simp)) (by simp only [List.length_append, HA.out, LW.out])) Try.underlying22 rfl (by rw [List.length_map, LE.out]; exact Try.sizeA32) ?_)) | ((with_reducible show wpList _ _ _ (⟨some 43, _, _, _, _, _⟩ :: _) _ _); refine wpList_if (by rfl) (wp_load_mid 23 (.tmp 42) rfl w2.heap.size 96 (by rfl) (I.map bv) _ (blk_mid (A := a ++ (W ++ (E))) (v := I) (C := F ++ (P ++ (X))) hS7 (hs1.out.trans (by simp)) (by simp only [List.length_append, HA.out, LW.out, LE.out])) Try.underlying23 rfl (by rw [List.length_map, LI.out]; exact Try.sizeHash) ?_)) | ((with_reducible show wpList _ _ _ (⟨some 45, _, _, _, _, _⟩ :: _) _ _); refine wpList_if (by rfl) (wp_load_mid 22 (.tmp 44) rfl w4.heap.size 96 (by rfl) (I.map bv) _ (blk_mid (A := a ++ (W ++ (E))) (v := I) (C := F ++ (P ++ (X))) hT6 (hs1.out.trans (by simp)) (by simp only [List.length_append, HA.out, LW.out, LE.out])) Try.underlying22 rfl (by rw [List.length_map, LI.out]; exact Try.sizeA32) ?_)) | ((with_reducible show wpList _ _ _ (⟨some 50, _, _, _, _, _⟩ :: _) _ _); refine wpList_if (by rfl) (wp_load_mid 23 (.tmp 49) rfl w2.heap.size 128 (by rfl) (F.map bv) _ (blk_mid (A := a ++ (W ++ (E ++ (I)))) (v := F) (C := P ++ (X)) hS7 (hs1.out.trans (by simp)) (by simp only [List.length_append, HA.out, LW.out, LE.out, LI.out])) Try.underlying23 rfl (by rw [List.length_map, LF.out]; exact Try.sizeHash) ?_)) | ((with_reducible show wpList _ _ _ (⟨some 52, _, _, _, _, _⟩ :: _) _ _); refine wpList_if (by rfl) (wp_load_mid 22 (.tmp 51) rfl w4.heap.size 128 (by rfl) (F.map bv) _ (blk_mid (A := a ++ (W ++ (E ++ (I)))) (v := F) (C := P ++ (X)) hT6 (hs1.out.trans (by simp)) (by simp only [List.length_append, HA.out, LW.out, LE.out, LI.out])) Try.underlying22 rfl (by rw [List.length_map, LF.out]; exact Try.sizeA32) ?_)) | ((with_reducible show wpList _ _ _ (⟨some 57, _, _, _, _, _⟩ :: _) _ _); refine wpList_if (by rfl) (wp_load_mid 23 (.tmp 56) rfl w2.heap.size 160 (by rfl) (P.map bv) _ (blk_mid (A := a ++ (W ++ (E ++ (I ++ (F))))) (v := P) (C := X) hS7 (hs1.out.trans (by simp)) (by simp only [List.length_append, HA.out, LW.out, LE.out, LI.out, LF.out])) Try.underlying23 rfl (by rw [List.length_map, LP.out]; exact Try.sizeHash) ?_)) | ((with_reducible show wpList _ _ _ (⟨some 59, _, _, _, _, _⟩ :: _) _ _); refine wpList_if (by rfl) (wp_load_mid 22 (.tmp 58) rfl w4.heap.size 160 (by rfl) (P.map bv) _ (blk_mid (A := a ++ (W ++ (E ++ (I ++ (F))))) (v := P) (C := X) hT6 (hs1.out.trans (by simp)) (by simp only [List.length_append, HA.out, LW.out, LE.out, LI.out, LF.out])) Try.underlying22 rfl (by rw [List.length_map, LP.out]; exact Try.sizeA32) ?_)) | ((with_reducible show wpList _ _ _ (⟨some 64, _, _, _, _, _⟩ :: _) _ _); refine wpList_if (by rfl) (wp_load_mid 23 (.tmp 63) rfl w2.heap.size 192 (by rfl) (X.map bv) _ (blk_mid (A := a ++ (W ++ (E ++ (I ++ (F ++ (P)))))) (v := X) (C := []) hS7 (hs1.out.trans (by simp)) (by simp only [List.length_append, HA.out, LW.out, LE.out, LI.out, LF.out, LP.out])) Try.underlying23 rfl (by rw [List.length_map, LX.out]; exact Try.sizeHash) ?_)) | ((with_reducible show wpList _ _ _ (⟨some 66, _, _, _, _, _⟩ :: _) _ _); refine wpList_if (by rfl) (wp_load_mid 22 (.tmp 65) rfl w4.heap.size 192 (by rfl) (X.map bv) _ (blk_mid (A := a ++ (W ++ (E ++ (I ++ (F ++ (P)))))) (v := X) (C := []) hT6 (hs1.out.trans (by simp)) (by simp only [List.length_append, HA.out, LW.out, LE.out, LI.out, LF.out, LP.out])) Try.underlying22 rfl (by rw [List.length_map, LX.out]; exact Try.sizeA32) ?_)) | ((with_reducible show wpList _ _ _ (⟨some 75, _, _, _, _, _⟩ :: _) _ _); refine wpList_if (by rfl) (wp_load_mid 23 (.tmp 3) rfl w.heap.size 0 (by rfl) (a.map bv) _ (blk_range hA7) Try.underlying23 rfl (by rw [List.length_map, HA.out]; exact Try.sizeHash) ?_)))
  clear hA6 hS6 hb6 g5 hN5
  refine (cb _).mono ?_
  rintro e w9 ⟨rfl, b9⟩
  go_wp2_with ((with_reducible show wpList _ _ _ (⟨some 78, _, _, _, _, _⟩ :: _) _ _); refine wpList_if (by rfl) (wp_buildCells 23 #[] rfl _ Try.builtZ ?_))
  go_returns
  exact ⟨rfl, hb7.trans (b9.mono hb7.size)⟩
set_option maxHeartbeats 4000000 in
set_option maxRecDepth 100000 in
theorem walkKeysMakes_big (a : List UInt8) (ha : a.length = 32) (c : List UInt8) (hc : c.length ≤ 5000) (n : Int) (hn : 64 ≤ n) (w : World) :
    Calls Try.prog 5 #[.agg (a.map bv).toArray, .string (str c), .int .i64 n] w fun e w' => e = .returned (.bool true) ∧ Below w.heap.size w w' := by
  have HA := Lib.hid ha
  clear ha
  have hA0 : Blk (w.alloc (.cells (a.map bv).toArray 23)) w.heap.size (a.map bv).toArray 23 := Blk.new _ _ _
  have hb0 : Below w.heap.size w (w.alloc (.cells (a.map bv).toArray 23)) := (Below.refl _ _).alloc (Nat.le_refl _) _
  obtain ⟨Y, hY⟩ : ∃ y, y = secsT a c := ⟨_, rfl⟩
  have c1 : ∀ x, Calls Try.prog 30 #[.pointer none, .agg (a.map bv).toArray, .string (str c)] x fun e w' => e = .returned (.agg (Y.map bv).toArray) ∧ Below x.heap.size x w' := by rw [hY]; exact fun x => Make_calls a c x HA.out (by omega)
  have c2 : ∀ x, Calls Try.prog 31 #[.agg (a.map bv).toArray, .string (str c)] x fun e w' => e = .returned (.agg (Y.map bv).toArray) ∧ Below x.heap.size x w' := by rw [hY]; exact fun x => RefMake_calls a c x HA.out (by omega)
  obtain ⟨W, E, I, F, P, X, LW, LE, LI, LF, LP, LX, hs1⟩ : ∃ W E I F P X : List UInt8, Hid (W.length = 32) ∧ Hid (E.length = 32) ∧ Hid (I.length = 32) ∧ Hid (F.length = 32) ∧ Hid (P.length = 32) ∧ Hid (X.length = 32) ∧ Hid (Y = a ++ (W ++ (E ++ (I ++ (F ++ (P ++ X)))))) := by
    rw [hY]
    exact ⟨_, _, _, _, _, _, hmac_len _ _, hmac_len _ _, hmac_len _ _, hmac_len _ _, hmac_len _ _, hmac_len _ _, rfl⟩
  have LY : Hid (Y.length = 224) := by show _ = _; rw [hs1.out]; simp only [List.length_append, LI.out, LX.out, LW.out, LE.out, LF.out, LP.out, HA.out]
  clear hY
  have hq0 : ∀ x, (Op.equalIn 10000 23 (.agg (a.map bv).toArray) (.agg (a.map bv).toArray)).run Try.prog x = .ok true x := fun x => by
    rw [run_eq_hash x _ _ HA.out HA.out, beq_self_eq_true]
  have hq1 : ∀ x, (Op.equalIn 10000 23 (.agg (W.map bv).toArray) (.agg (W.map bv).toArray)).run Try.prog x = .ok true x := fun x => by
    rw [run_eq_hash x _ _ LW.out LW.out, beq_self_eq_true]
  have hq2 : ∀ x, (Op.equalIn 10000 23 (.agg (E.map bv).toArray) (.agg (E.map bv).toArray)).run Try.prog x = .ok true x := fun x => by
    rw [run_eq_hash x _ _ LE.out LE.out, beq_self_eq_true]
  have hq3 : ∀ x, (Op.equalIn 10000 23 (.agg (I.map bv).toArray) (.agg (I.map bv).toArray)).run Try.prog x = .ok true x := fun x => by
    rw [run_eq_hash x _ _ LI.out LI.out, beq_self_eq_true]
  have hq4 : ∀ x, (Op.equalIn 10000 23 (.agg (F.map bv).toArray) (.agg (F.map bv).toArray)).run Try.prog x = .ok true x := fun x => by
    rw [run_eq_hash x _ _ LF.out LF.out, beq_self_eq_true]
  have hq5 : ∀ x, (Op.equalIn 10000 23 (.agg (P.map bv).toArray) (.agg (P.map bv).toArray)).run Try.prog x = .ok true x := fun x => by
    rw [run_eq_hash x _ _ LP.out LP.out, beq_self_eq_true]
  have hq6 : ∀ x, (Op.equalIn 10000 23 (.agg (X.map bv).toArray) (.agg (X.map bv).toArray)).run Try.prog x = .ok true x := fun x => by
    rw [run_eq_hash x _ _ LX.out LX.out, beq_self_eq_true]
  have hz1 : Try.zeroCells31.size = 224 := by rw [Try.zeroSecs]; simp [s7, z32]
  have hz2 : Try.zeroCells34.size = 224 := by rw [Try.zeroRefSecs]; simp [s7, z32]
  have cb : ∀ x, Calls Try.prog 32 #[.pointer none, .agg (a.map bv).toArray, .int .i64 n] x fun e w' => e = .returned (.agg (z32.map bv).toArray) ∧ Below x.heap.size x w' := fun x => AppBad_calls a n x HA.out (Or.inr hn)
  have hqz : ∀ x, (Op.equalIn 10000 23 (.agg (z32.map bv).toArray) (.agg (z32.map bv).toArray)).run Try.prog x = .ok true x := fun x => by
    rw [run_eq_hash x _ _ rfl rfl, beq_self_eq_true]
  go_enter Try.func5, Try.ntmps5
  go_wp2_with fail
  generalize w.alloc (.cells (a.map bv).toArray 23) = W0 at hA0 hb0 ⊢
  refine (awake_calls _).mono ?_
  rintro e w1 ⟨rfl, b1⟩
  have hA1 := hA0.below b1 hA0.lt
  have hb1 := hb0.trans (b1.mono hb0.size)
  clear hA0 hb0 b1
  go_wp2_with ((with_reducible show wpList _ _ _ (⟨some 17, _, _, _, _, _⟩ :: _) _ _); refine wpList_if (by rfl) (wp_load_mid 23 (.tmp 3) rfl w.heap.size 0 (by rfl) (a.map bv) _ (blk_range hA1) Try.underlying23 rfl (by rw [List.length_map, HA.out]; exact Try.sizeHash) ?_))
  refine (c1 _).mono ?_
  rintro e w2 ⟨rfl, b2⟩
  have hA2 := hA1.below b2 hA1.lt
  have hb2 := hb1.trans (b2.mono hb1.size)
  have lA2 := hA2.lt
  have hN2 := Blk.new w2 Try.zeroCells31 31
  have hA3 := hA2.alloc (.cells Try.zeroCells31 31)
  have hb3 := hb2.alloc hb2.size (.cells Try.zeroCells31 31)
  clear hA1 hb1 b2 hA2 hb2
  go_wp2_with (first | ((with_reducible show wpList _ _ _ (⟨none, Op.store _ (.tmp 7) _, _, _, _, _⟩ :: _) _ _); refine wpList_storeBlk rfl 31 (.tmp 7) (.tmp 19) rfl w2.heap.size (Y.map bv).toArray (by rfl) (by rfl) _ _ hN2 (by rw [bv_size, LY.out]; exact Try.sizeSecs) (by rw [bv_size, LY.out, hz1]) (bv_all _) ?_; intro w3 hS3 g3; have hA4 := hA3.grown g3 (by simp; omega); have hb4 := below_new hb3 g3 (by omega) hb3.size) | ((with_reducible show wpList _ _ _ (⟨some 20, _, _, _, _, _⟩ :: _) _ _); refine wpList_if (by rfl) (wp_load_mid 23 (.tmp 3) rfl w.heap.size 0 (by rfl) (a.map bv) _ (blk_range hA4) Try.underlying23 rfl (by rw [List.length_map, HA.out]; exact Try.sizeHash) ?_)))
  refine (c2 _).mono ?_
  rintro e w4 ⟨rfl, b4⟩
  have hA5 := hA4.below b4 hA4.lt
  have hS5 := hS3.below b4 hS3.lt
  have hb5 := hb4.trans (b4.mono hb4.size)
  have lS5 := hS5.lt
  have hN5 := Blk.new w4 Try.zeroCells34 34
  have hA6 := hA5.alloc (.cells Try.zeroCells34 34)
  have hS6 := hS5.alloc (.cells Try.zeroCells34 34)
  have hb6 := hb5.alloc hb5.size (.cells Try.zeroCells34 34)
  clear hN2 hA3 hb3 g3 hA4 hb4 b4 hA5 hS5 hb5 hS3
  have lA5 : w.heap.size < w4.heap.size := by omega
  go_wp2_with (first | ((with_reducible show wpList _ _ _ (⟨none, Op.store _ (.tmp 8) _, _, _, _, _⟩ :: _) _ _); refine wpList_storeBlk rfl 34 (.tmp 8) (.tmp 22) rfl w4.heap.size (Y.map bv).toArray (by rfl) (by rfl) _ _ hN5 (by rw [bv_size, LY.out]; exact Try.sizeRefSecs) (by rw [bv_size, LY.out, hz2]) (bv_all _) ?_; intro w5 hT6 g5; have hA7 := hA6.grown g5 (by simp; omega); have hS7 := hS6.grown g5 (by simp; omega); have hb7 := below_new hb6 g5 (by omega) hb6.size) | ((with_reducible show wpList _ _ _ (⟨some 25, _, _, _, _, _⟩ :: _) _ _); refine wpList_if (by rfl) (wp_load_mid 23 (.tmp 3) rfl w.heap.size 0 (by rfl) (a.map bv) _ (blk_range hA7) Try.underlying23 rfl (by rw [List.length_map, HA.out]; exact Try.sizeHash) ?_)) | ((with_reducible show wpList _ _ _ (⟨some 24, _, _, _, _, _⟩ :: _) _ _); refine wpList_if (by rfl) (wp_load_mid 23 (.tmp 23) rfl w2.heap.size 0 (by rfl) (a.map bv) _ (blk_mid (A := []) (v := a) (C := W ++ (E ++ (I ++ (F ++ (P ++ (X)))))) hS7 (hs1.out.trans (by simp)) (rfl)) Try.underlying23 rfl (by rw [List.length_map, HA.out]; exact Try.sizeHash) ?_)) | ((with_reducible show wpList _ _ _ (⟨some 29, _, _, _, _, _⟩ :: _) _ _); refine wpList_if (by rfl) (wp_load_mid 23 (.tmp 28) rfl w2.heap.size 32 (by rfl) (W.map bv) _ (blk_mid (A := a) (v := W) (C := E ++ (I ++ (F ++ (P ++ (X))))) hS7 (hs1.out.trans (by simp)) (by simp only [List.length_append, HA.out])) Try.underlying23 rfl (by rw [List.length_map, LW.out]; exact Try.sizeHash) ?_)) | ((with_reducible show wpList _ _ _ (⟨some 31, _, _, _, _, _⟩ :: _) _ _); refine wpList_if (by rfl) (wp_load_mid 22 (.tmp 30) rfl w4.heap.size 32 (by rfl) (W.map bv) _ (blk_mid (A := a) (v := W) (C := E ++ (I ++ (F ++ (P ++ (X))))) hT6 (hs1.out.trans (by simp)) (by simp only [List.length_append, HA.out])) Try.underlying22 rfl (by rw [List.length_map, LW.out]; exact Try.sizeA32) ?_)) | ((with_reducible show wpList _ _ _ (⟨some 36, _, _, _, _, _⟩ :: _) _ _); refine wpList_if (by rfl) (wp_load_mid 23 (.tmp 35) rfl w2.heap.size 64 (by rfl) (E.map bv) _ (blk_mid (A := a ++ (W)) (v := E) (C := I ++ (F ++ (P ++ (X)))) hS7 (hs1.out.trans (by simp)) (by simp only [List.length_append, HA.out, LW.out])) Try.underlying23 rfl (by rw [List.length_map, LE.out]; exact Try.sizeHash) ?_)) | ((with_reducible show wpList _ _ _ (⟨some 38, _, _, _, _, _⟩ :: _) _ _); refine wpList_if (by rfl) (wp_load_mid 22 (.tmp 37) rfl w4.heap.size 64 (by rfl) (E.map bv) _ (blk_mid (A := a ++ (W)) (v := E) (C := I ++ (F ++ (P ++ (X)))) hT6 (hs1.out.trans (by simp)) (by simp only [List.length_append, HA.out, LW.out])) Try.underlying22 rfl (by rw [List.length_map, LE.out]; exact Try.sizeA32) ?_)) | ((with_reducible show wpList _ _ _ (⟨some 43, _, _, _, _, _⟩ :: _) _ _); refine wpList_if (by rfl) (wp_load_mid 23 (.tmp 42) rfl w2.heap.size 96 (by rfl) (I.map bv) _ (blk_mid (A := a ++ (W ++ (E))) (v := I) (C := F ++ (P ++ (X))) hS7 (hs1.out.trans (by simp)) (by simp only [List.length_append, HA.out, LW.out, LE.out])) Try.underlying23 rfl (by rw [List.length_map, LI.out]; exact Try.sizeHash) ?_)) | ((with_reducible show wpList _ _ _ (⟨some 45, _, _, _, _, _⟩ :: _) _ _); refine wpList_if (by rfl) (wp_load_mid 22 (.tmp 44) rfl w4.heap.size 96 (by rfl) (I.map bv) _ (blk_mid (A := a ++ (W ++ (E))) (v := I) (C := F ++ (P ++ (X))) hT6 (hs1.out.trans (by simp)) (by simp only [List.length_append, HA.out, LW.out, LE.out])) Try.underlying22 rfl (by rw [List.length_map, LI.out]; exact Try.sizeA32) ?_)) | ((with_reducible show wpList _ _ _ (⟨some 50, _, _, _, _, _⟩ :: _) _ _); refine wpList_if (by rfl) (wp_load_mid 23 (.tmp 49) rfl w2.heap.size 128 (by rfl) (F.map bv) _ (blk_mid (A := a ++ (W ++ (E ++ (I)))) (v := F) (C := P ++ (X)) hS7 (hs1.out.trans (by simp)) (by simp only [List.length_append, HA.out, LW.out, LE.out, LI.out])) Try.underlying23 rfl (by rw [List.length_map, LF.out]; exact Try.sizeHash) ?_)) | ((with_reducible show wpList _ _ _ (⟨some 52, _, _, _, _, _⟩ :: _) _ _); refine wpList_if (by rfl) (wp_load_mid 22 (.tmp 51) rfl w4.heap.size 128 (by rfl) (F.map bv) _ (blk_mid (A := a ++ (W ++ (E ++ (I)))) (v := F) (C := P ++ (X)) hT6 (hs1.out.trans (by simp)) (by simp only [List.length_append, HA.out, LW.out, LE.out, LI.out])) Try.underlying22 rfl (by rw [List.length_map, LF.out]; exact Try.sizeA32) ?_)) | ((with_reducible show wpList _ _ _ (⟨some 57, _, _, _, _, _⟩ :: _) _ _); refine wpList_if (by rfl) (wp_load_mid 23 (.tmp 56) rfl w2.heap.size 160 (by rfl) (P.map bv) _ (blk_mid (A := a ++ (W ++ (E ++ (I ++ (F))))) (v := P) (C := X) hS7 (hs1.out.trans (by simp)) (by simp only [List.length_append, HA.out, LW.out, LE.out, LI.out, LF.out])) Try.underlying23 rfl (by rw [List.length_map, LP.out]; exact Try.sizeHash) ?_)) | ((with_reducible show wpList _ _ _ (⟨some 59, _, _, _, _, _⟩ :: _) _ _); refine wpList_if (by rfl) (wp_load_mid 22 (.tmp 58) rfl w4.heap.size 160 (by rfl) (P.map bv) _ (blk_mid (A := a ++ (W ++ (E ++ (I ++ (F))))) (v := P) (C := X) hT6 (hs1.out.trans (by simp)) (by simp only [List.length_append, HA.out, LW.out, LE.out, LI.out, LF.out])) Try.underlying22 rfl (by rw [List.length_map, LP.out]; exact Try.sizeA32) ?_)) | ((with_reducible show wpList _ _ _ (⟨some 64, _, _, _, _, _⟩ :: _) _ _); refine wpList_if (by rfl) (wp_load_mid 23 (.tmp 63) rfl w2.heap.size 192 (by rfl) (X.map bv) _ (blk_mid (A := a ++ (W ++ (E ++ (I ++ (F ++ (P)))))) (v := X) (C := []) hS7 (hs1.out.trans (by simp)) (by simp only [List.length_append, HA.out, LW.out, LE.out, LI.out, LF.out, LP.out])) Try.underlying23 rfl (by rw [List.length_map, LX.out]; exact Try.sizeHash) ?_)) | ((with_reducible show wpList _ _ _ (⟨some 66, _, _, _, _, _⟩ :: _) _ _); refine wpList_if (by rfl) (wp_load_mid 22 (.tmp 65) rfl w4.heap.size 192 (by rfl) (X.map bv) _ (blk_mid (A := a ++ (W ++ (E ++ (I ++ (F ++ (P)))))) (v := X) (C := []) hT6 (hs1.out.trans (by simp)) (by simp only [List.length_append, HA.out, LW.out, LE.out, LI.out, LF.out, LP.out])) Try.underlying22 rfl (by rw [List.length_map, LX.out]; exact Try.sizeA32) ?_)) | ((with_reducible show wpList _ _ _ (⟨some 75, _, _, _, _, _⟩ :: _) _ _); refine wpList_if (by rfl) (wp_load_mid 23 (.tmp 3) rfl w.heap.size 0 (by rfl) (a.map bv) _ (blk_range hA7) Try.underlying23 rfl (by rw [List.length_map, HA.out]; exact Try.sizeHash) ?_)))
  clear hA6 hS6 hb6 g5 hN5
  refine (cb _).mono ?_
  rintro e w9 ⟨rfl, b9⟩
  go_wp2_with ((with_reducible show wpList _ _ _ (⟨some 78, _, _, _, _, _⟩ :: _) _ _); refine wpList_if (by rfl) (wp_buildCells 23 #[] rfl _ Try.builtZ ?_))
  go_returns
  exact ⟨rfl, hb7.trans (b9.mono hb7.size)⟩
set_option maxHeartbeats 4000000 in
set_option maxRecDepth 100000 in
theorem walkKeysMakes_ok (a : List UInt8) (ha : a.length = 32) (c : List UInt8) (hc : c.length ≤ 5000) (n : Int) (h0 : 0 ≤ n) (h1 : n < 64) (w : World) :
    Calls Try.prog 5 #[.agg (a.map bv).toArray, .string (str c), .int .i64 n] w fun e w' => e = .returned (.bool true) ∧ Below w.heap.size w w' := by
  have HA := Lib.hid ha
  clear ha
  have hA0 : Blk (w.alloc (.cells (a.map bv).toArray 23)) w.heap.size (a.map bv).toArray 23 := Blk.new _ _ _
  have hb0 : Below w.heap.size w (w.alloc (.cells (a.map bv).toArray 23)) := (Below.refl _ _).alloc (Nat.le_refl _) _
  obtain ⟨Y, hY⟩ : ∃ y, y = secsT a c := ⟨_, rfl⟩
  have c1 : ∀ x, Calls Try.prog 30 #[.pointer none, .agg (a.map bv).toArray, .string (str c)] x fun e w' => e = .returned (.agg (Y.map bv).toArray) ∧ Below x.heap.size x w' := by rw [hY]; exact fun x => Make_calls a c x HA.out (by omega)
  have c2 : ∀ x, Calls Try.prog 31 #[.agg (a.map bv).toArray, .string (str c)] x fun e w' => e = .returned (.agg (Y.map bv).toArray) ∧ Below x.heap.size x w' := by rw [hY]; exact fun x => RefMake_calls a c x HA.out (by omega)
  obtain ⟨W, E, I, F, P, X, LW, LE, LI, LF, LP, LX, hs1⟩ : ∃ W E I F P X : List UInt8, Hid (W.length = 32) ∧ Hid (E.length = 32) ∧ Hid (I.length = 32) ∧ Hid (F.length = 32) ∧ Hid (P.length = 32) ∧ Hid (X.length = 32) ∧ Hid (Y = a ++ (W ++ (E ++ (I ++ (F ++ (P ++ X)))))) := by
    rw [hY]
    exact ⟨_, _, _, _, _, _, hmac_len _ _, hmac_len _ _, hmac_len _ _, hmac_len _ _, hmac_len _ _, hmac_len _ _, rfl⟩
  have LY : Hid (Y.length = 224) := by show _ = _; rw [hs1.out]; simp only [List.length_append, LI.out, LX.out, LW.out, LE.out, LF.out, LP.out, HA.out]
  clear hY
  have hq0 : ∀ x, (Op.equalIn 10000 23 (.agg (a.map bv).toArray) (.agg (a.map bv).toArray)).run Try.prog x = .ok true x := fun x => by
    rw [run_eq_hash x _ _ HA.out HA.out, beq_self_eq_true]
  have hq1 : ∀ x, (Op.equalIn 10000 23 (.agg (W.map bv).toArray) (.agg (W.map bv).toArray)).run Try.prog x = .ok true x := fun x => by
    rw [run_eq_hash x _ _ LW.out LW.out, beq_self_eq_true]
  have hq2 : ∀ x, (Op.equalIn 10000 23 (.agg (E.map bv).toArray) (.agg (E.map bv).toArray)).run Try.prog x = .ok true x := fun x => by
    rw [run_eq_hash x _ _ LE.out LE.out, beq_self_eq_true]
  have hq3 : ∀ x, (Op.equalIn 10000 23 (.agg (I.map bv).toArray) (.agg (I.map bv).toArray)).run Try.prog x = .ok true x := fun x => by
    rw [run_eq_hash x _ _ LI.out LI.out, beq_self_eq_true]
  have hq4 : ∀ x, (Op.equalIn 10000 23 (.agg (F.map bv).toArray) (.agg (F.map bv).toArray)).run Try.prog x = .ok true x := fun x => by
    rw [run_eq_hash x _ _ LF.out LF.out, beq_self_eq_true]
  have hq5 : ∀ x, (Op.equalIn 10000 23 (.agg (P.map bv).toArray) (.agg (P.map bv).toArray)).run Try.prog x = .ok true x := fun x => by
    rw [run_eq_hash x _ _ LP.out LP.out, beq_self_eq_true]
  have hq6 : ∀ x, (Op.equalIn 10000 23 (.agg (X.map bv).toArray) (.agg (X.map bv).toArray)).run Try.prog x = .ok true x := fun x => by
    rw [run_eq_hash x _ _ LX.out LX.out, beq_self_eq_true]
  have hz1 : Try.zeroCells31.size = 224 := by rw [Try.zeroSecs]; simp [s7, z32]
  have hz2 : Try.zeroCells34.size = 224 := by rw [Try.zeroRefSecs]; simp [s7, z32]
  obtain ⟨t, ht⟩ : ∃ t, t = appT a n.toNat := ⟨_, rfl⟩
  have htl : t.length = 32 := by rw [ht]; exact appT_len _ _
  have c3 : ∀ x, Calls Try.prog 32 #[.pointer none, .agg (a.map bv).toArray, .int .i64 n] x fun e w' => e = .returned (.agg (t.map bv).toArray) ∧ Below x.heap.size x w' := by rw [ht]; exact fun x => App_calls a n x HA.out h0 h1
  have c4 : ∀ x, Calls Try.prog 33 #[.agg (a.map bv).toArray, .int .i64 n] x fun e w' => e = .returned (.agg (t.map bv).toArray) ∧ Below x.heap.size x w' := by rw [ht]; exact fun x => RefApp_calls a n x HA.out h0 (by omega)
  have hqt : ∀ x, (Op.equalIn 10000 23 (.agg (t.map bv).toArray) (.agg (t.map bv).toArray)).run Try.prog x = .ok true x := fun x => by
    rw [run_eq_hash x _ _ htl htl, beq_self_eq_true]
  clear ht htl
  go_enter Try.func5, Try.ntmps5
  go_wp2_with fail
  generalize w.alloc (.cells (a.map bv).toArray 23) = W0 at hA0 hb0 ⊢
  refine (awake_calls _).mono ?_
  rintro e w1 ⟨rfl, b1⟩
  have hA1 := hA0.below b1 hA0.lt
  have hb1 := hb0.trans (b1.mono hb0.size)
  clear hA0 hb0 b1
  go_wp2_with ((with_reducible show wpList _ _ _ (⟨some 17, _, _, _, _, _⟩ :: _) _ _); refine wpList_if (by rfl) (wp_load_mid 23 (.tmp 3) rfl w.heap.size 0 (by rfl) (a.map bv) _ (blk_range hA1) Try.underlying23 rfl (by rw [List.length_map, HA.out]; exact Try.sizeHash) ?_))
  refine (c1 _).mono ?_
  rintro e w2 ⟨rfl, b2⟩
  have hA2 := hA1.below b2 hA1.lt
  have hb2 := hb1.trans (b2.mono hb1.size)
  have lA2 := hA2.lt
  have hN2 := Blk.new w2 Try.zeroCells31 31
  have hA3 := hA2.alloc (.cells Try.zeroCells31 31)
  have hb3 := hb2.alloc hb2.size (.cells Try.zeroCells31 31)
  clear hA1 hb1 b2 hA2 hb2
  go_wp2_with (first | ((with_reducible show wpList _ _ _ (⟨none, Op.store _ (.tmp 7) _, _, _, _, _⟩ :: _) _ _); refine wpList_storeBlk rfl 31 (.tmp 7) (.tmp 19) rfl w2.heap.size (Y.map bv).toArray (by rfl) (by rfl) _ _ hN2 (by rw [bv_size, LY.out]; exact Try.sizeSecs) (by rw [bv_size, LY.out, hz1]) (bv_all _) ?_; intro w3 hS3 g3; have hA4 := hA3.grown g3 (by simp; omega); have hb4 := below_new hb3 g3 (by omega) hb3.size) | ((with_reducible show wpList _ _ _ (⟨some 20, _, _, _, _, _⟩ :: _) _ _); refine wpList_if (by rfl) (wp_load_mid 23 (.tmp 3) rfl w.heap.size 0 (by rfl) (a.map bv) _ (blk_range hA4) Try.underlying23 rfl (by rw [List.length_map, HA.out]; exact Try.sizeHash) ?_)))
  refine (c2 _).mono ?_
  rintro e w4 ⟨rfl, b4⟩
  have hA5 := hA4.below b4 hA4.lt
  have hS5 := hS3.below b4 hS3.lt
  have hb5 := hb4.trans (b4.mono hb4.size)
  have lS5 := hS5.lt
  have hN5 := Blk.new w4 Try.zeroCells34 34
  have hA6 := hA5.alloc (.cells Try.zeroCells34 34)
  have hS6 := hS5.alloc (.cells Try.zeroCells34 34)
  have hb6 := hb5.alloc hb5.size (.cells Try.zeroCells34 34)
  clear hN2 hA3 hb3 g3 hA4 hb4 b4 hA5 hS5 hb5 hS3
  have lA5 : w.heap.size < w4.heap.size := by omega
  go_wp2_with (first | ((with_reducible show wpList _ _ _ (⟨none, Op.store _ (.tmp 8) _, _, _, _, _⟩ :: _) _ _); refine wpList_storeBlk rfl 34 (.tmp 8) (.tmp 22) rfl w4.heap.size (Y.map bv).toArray (by rfl) (by rfl) _ _ hN5 (by rw [bv_size, LY.out]; exact Try.sizeRefSecs) (by rw [bv_size, LY.out, hz2]) (bv_all _) ?_; intro w5 hT6 g5; have hA7 := hA6.grown g5 (by simp; omega); have hS7 := hS6.grown g5 (by simp; omega); have hb7 := below_new hb6 g5 (by omega) hb6.size) | ((with_reducible show wpList _ _ _ (⟨some 25, _, _, _, _, _⟩ :: _) _ _); refine wpList_if (by rfl) (wp_load_mid 23 (.tmp 3) rfl w.heap.size 0 (by rfl) (a.map bv) _ (blk_range hA7) Try.underlying23 rfl (by rw [List.length_map, HA.out]; exact Try.sizeHash) ?_)) | ((with_reducible show wpList _ _ _ (⟨some 24, _, _, _, _, _⟩ :: _) _ _); refine wpList_if (by rfl) (wp_load_mid 23 (.tmp 23) rfl w2.heap.size 0 (by rfl) (a.map bv) _ (blk_mid (A := []) (v := a) (C := W ++ (E ++ (I ++ (F ++ (P ++ (X)))))) hS7 (hs1.out.trans (by simp)) (rfl)) Try.underlying23 rfl (by rw [List.length_map, HA.out]; exact Try.sizeHash) ?_)) | ((with_reducible show wpList _ _ _ (⟨some 29, _, _, _, _, _⟩ :: _) _ _); refine wpList_if (by rfl) (wp_load_mid 23 (.tmp 28) rfl w2.heap.size 32 (by rfl) (W.map bv) _ (blk_mid (A := a) (v := W) (C := E ++ (I ++ (F ++ (P ++ (X))))) hS7 (hs1.out.trans (by simp)) (by simp only [List.length_append, HA.out])) Try.underlying23 rfl (by rw [List.length_map, LW.out]; exact Try.sizeHash) ?_)) | ((with_reducible show wpList _ _ _ (⟨some 31, _, _, _, _, _⟩ :: _) _ _); refine wpList_if (by rfl) (wp_load_mid 22 (.tmp 30) rfl w4.heap.size 32 (by rfl) (W.map bv) _ (blk_mid (A := a) (v := W) (C := E ++ (I ++ (F ++ (P ++ (X))))) hT6 (hs1.out.trans (by simp)) (by simp only [List.length_append, HA.out])) Try.underlying22 rfl (by rw [List.length_map, LW.out]; exact Try.sizeA32) ?_)) | ((with_reducible show wpList _ _ _ (⟨some 36, _, _, _, _, _⟩ :: _) _ _); refine wpList_if (by rfl) (wp_load_mid 23 (.tmp 35) rfl w2.heap.size 64 (by rfl) (E.map bv) _ (blk_mid (A := a ++ (W)) (v := E) (C := I ++ (F ++ (P ++ (X)))) hS7 (hs1.out.trans (by simp)) (by simp only [List.length_append, HA.out, LW.out])) Try.underlying23 rfl (by rw [List.length_map, LE.out]; exact Try.sizeHash) ?_)) | ((with_reducible show wpList _ _ _ (⟨some 38, _, _, _, _, _⟩ :: _) _ _); refine wpList_if (by rfl) (wp_load_mid 22 (.tmp 37) rfl w4.heap.size 64 (by rfl) (E.map bv) _ (blk_mid (A := a ++ (W)) (v := E) (C := I ++ (F ++ (P ++ (X)))) hT6 (hs1.out.trans (by simp)) (by simp only [List.length_append, HA.out, LW.out])) Try.underlying22 rfl (by rw [List.length_map, LE.out]; exact Try.sizeA32) ?_)) | ((with_reducible show wpList _ _ _ (⟨some 43, _, _, _, _, _⟩ :: _) _ _); refine wpList_if (by rfl) (wp_load_mid 23 (.tmp 42) rfl w2.heap.size 96 (by rfl) (I.map bv) _ (blk_mid (A := a ++ (W ++ (E))) (v := I) (C := F ++ (P ++ (X))) hS7 (hs1.out.trans (by simp)) (by simp only [List.length_append, HA.out, LW.out, LE.out])) Try.underlying23 rfl (by rw [List.length_map, LI.out]; exact Try.sizeHash) ?_)) | ((with_reducible show wpList _ _ _ (⟨some 45, _, _, _, _, _⟩ :: _) _ _); refine wpList_if (by rfl) (wp_load_mid 22 (.tmp 44) rfl w4.heap.size 96 (by rfl) (I.map bv) _ (blk_mid (A := a ++ (W ++ (E))) (v := I) (C := F ++ (P ++ (X))) hT6 (hs1.out.trans (by simp)) (by simp only [List.length_append, HA.out, LW.out, LE.out])) Try.underlying22 rfl (by rw [List.length_map, LI.out]; exact Try.sizeA32) ?_)) | ((with_reducible show wpList _ _ _ (⟨some 50, _, _, _, _, _⟩ :: _) _ _); refine wpList_if (by rfl) (wp_load_mid 23 (.tmp 49) rfl w2.heap.size 128 (by rfl) (F.map bv) _ (blk_mid (A := a ++ (W ++ (E ++ (I)))) (v := F) (C := P ++ (X)) hS7 (hs1.out.trans (by simp)) (by simp only [List.length_append, HA.out, LW.out, LE.out, LI.out])) Try.underlying23 rfl (by rw [List.length_map, LF.out]; exact Try.sizeHash) ?_)) | ((with_reducible show wpList _ _ _ (⟨some 52, _, _, _, _, _⟩ :: _) _ _); refine wpList_if (by rfl) (wp_load_mid 22 (.tmp 51) rfl w4.heap.size 128 (by rfl) (F.map bv) _ (blk_mid (A := a ++ (W ++ (E ++ (I)))) (v := F) (C := P ++ (X)) hT6 (hs1.out.trans (by simp)) (by simp only [List.length_append, HA.out, LW.out, LE.out, LI.out])) Try.underlying22 rfl (by rw [List.length_map, LF.out]; exact Try.sizeA32) ?_)) | ((with_reducible show wpList _ _ _ (⟨some 57, _, _, _, _, _⟩ :: _) _ _); refine wpList_if (by rfl) (wp_load_mid 23 (.tmp 56) rfl w2.heap.size 160 (by rfl) (P.map bv) _ (blk_mid (A := a ++ (W ++ (E ++ (I ++ (F))))) (v := P) (C := X) hS7 (hs1.out.trans (by simp)) (by simp only [List.length_append, HA.out, LW.out, LE.out, LI.out, LF.out])) Try.underlying23 rfl (by rw [List.length_map, LP.out]; exact Try.sizeHash) ?_)) | ((with_reducible show wpList _ _ _ (⟨some 59, _, _, _, _, _⟩ :: _) _ _); refine wpList_if (by rfl) (wp_load_mid 22 (.tmp 58) rfl w4.heap.size 160 (by rfl) (P.map bv) _ (blk_mid (A := a ++ (W ++ (E ++ (I ++ (F))))) (v := P) (C := X) hT6 (hs1.out.trans (by simp)) (by simp only [List.length_append, HA.out, LW.out, LE.out, LI.out, LF.out])) Try.underlying22 rfl (by rw [List.length_map, LP.out]; exact Try.sizeA32) ?_)) | ((with_reducible show wpList _ _ _ (⟨some 64, _, _, _, _, _⟩ :: _) _ _); refine wpList_if (by rfl) (wp_load_mid 23 (.tmp 63) rfl w2.heap.size 192 (by rfl) (X.map bv) _ (blk_mid (A := a ++ (W ++ (E ++ (I ++ (F ++ (P)))))) (v := X) (C := []) hS7 (hs1.out.trans (by simp)) (by simp only [List.length_append, HA.out, LW.out, LE.out, LI.out, LF.out, LP.out])) Try.underlying23 rfl (by rw [List.length_map, LX.out]; exact Try.sizeHash) ?_)) | ((with_reducible show wpList _ _ _ (⟨some 66, _, _, _, _, _⟩ :: _) _ _); refine wpList_if (by rfl) (wp_load_mid 22 (.tmp 65) rfl w4.heap.size 192 (by rfl) (X.map bv) _ (blk_mid (A := a ++ (W ++ (E ++ (I ++ (F ++ (P)))))) (v := X) (C := []) hT6 (hs1.out.trans (by simp)) (by simp only [List.length_append, HA.out, LW.out, LE.out, LI.out, LF.out, LP.out])) Try.underlying22 rfl (by rw [List.length_map, LX.out]; exact Try.sizeA32) ?_)))
  clear hA6 hS6 hb6 g5 hN5
  refine wp_region_held_drew (S := fun x => Blk x (w.heap.size) (a.map bv).toArray 23 ∧ Below w.heap.size w x) (by kernel_rfl) ⟨hA7.drew, below_drewN hb7 1⟩ (fun hHeld3x0 => ?_)
  refine wpAnyH_take (i := 0) rfl (by kernel_rfl) (by kernel_rfl) (by kernel_rfl) (fun _ _ _ h => h) (yieldsIf_load_mid (by rfl) 23 (.tmp 3) rfl (w.heap.size) 0 (by rfl) (a.map bv) _ (fun x hx => blk_range hx.1) Try.underlying23 rfl (by rw [List.length_map, HA.out]; exact Try.sizeHash)) hHeld3x0 ?_
  simp only [Act.put, List.getElem_toArray, List.getElem_cons_zero, List.getElem_cons_succ, List.setIfInBounds_toArray, List.set_cons_zero, List.set_cons_succ]
  refine wpAnyH_take (i := 1) (v := .int .i64 n) rfl (by kernel_rfl) (by kernel_rfl) (by kernel_rfl) (fun _ _ _ h => h) (Or.inl ⟨by rfl, fun x hx => by go_simp⟩) hHeld3x0 ?_
  simp only [Act.put, List.getElem_toArray, List.getElem_cons_zero, List.getElem_cons_succ, List.setIfInBounds_toArray, List.set_cons_zero, List.set_cons_succ]
  refine wpAnyH_take (i := 3) rfl (by kernel_rfl) (by kernel_rfl) (by kernel_rfl) (fun _ _ _ h => h) (yieldsIf_load_mid (by rfl) 23 (.tmp 3) rfl (w.heap.size) 0 (by rfl) (a.map bv) _ (fun x hx => blk_range hx.1) Try.underlying23 rfl (by rw [List.length_map, HA.out]; exact Try.sizeHash)) hHeld3x0 ?_
  simp only [Act.put, List.getElem_toArray, List.getElem_cons_zero, List.getElem_cons_succ, List.setIfInBounds_toArray, List.set_cons_zero, List.set_cons_succ]
  refine wpAnyH_take (i := 4) (v := .int .i64 n) rfl (by kernel_rfl) (by kernel_rfl) (by kernel_rfl) (fun _ _ _ h => h) (Or.inl ⟨by rfl, fun x hx => by go_simp⟩) hHeld3x0 ?_
  simp only [Act.put, List.getElem_toArray, List.getElem_cons_zero, List.getElem_cons_succ, List.setIfInBounds_toArray, List.set_cons_zero, List.set_cons_succ]
  refine wpAnyH_ready (rs := [2]) (by kernel_rfl) (by simp) ?_
  refine AllReadyH.cons rfl (fun K hK => ?_) AllReadyH.nil
  go_simp
  go_wp2_with (go_at_call 32; refine (c3 _).mono ?_; rintro e y3x1 ⟨rfl, b3x1⟩)
  refine hK.out _ _ ⟨hHeld3x0.1.below b3x1 hHeld3x0.1.lt, hHeld3x0.2.trans (b3x1.mono hHeld3x0.2.size)⟩ (fun hHeld3x1 => ?_)
  clear hK K hHeld3x0 b3x1
  refine wpAnyH_ready (rs := [5]) (by kernel_rfl) (by simp) ?_
  refine AllReadyH.cons rfl (fun K hK => ?_) AllReadyH.nil
  go_simp
  go_wp2_with (go_at_call 33; refine (c4 _).mono ?_; rintro e y3x2 ⟨rfl, b3x2⟩)
  refine hK.out _ _ ⟨hHeld3x1.1.below b3x2 hHeld3x1.1.lt, hHeld3x1.2.trans (b3x2.mono hHeld3x1.2.size)⟩ (fun hHeld3x2 => ?_)
  clear hK K hHeld3x1 b3x2
  refine wpAnyH_take (i := 6) (v := .bool true) rfl (by kernel_rfl) (by kernel_rfl) (by kernel_rfl) (fun _ _ _ h => h) (Or.inl ⟨by rfl, fun x hx => by go_simp⟩) hHeld3x2 ?_
  simp only [Act.put, List.getElem_toArray, List.getElem_cons_zero, List.getElem_cons_succ, List.setIfInBounds_toArray, List.set_cons_zero, List.set_cons_succ]
  refine wpAnyH_ready (rs := [7]) (by kernel_rfl) (by simp) ?_
  refine AllReadyH.cons rfl (fun K hK => ?_) AllReadyH.nil
  go_simp
  refine hK.out _ _ hHeld3x2 (fun hHeld3x3 => ?_)
  clear hK K hHeld3x2
  refine wpAnyH_done (by kernel_rfl) ?_ _
  go_wp2_with fail
  go_returns
  exact ⟨rfl, hHeld3x3.2⟩

theorem walkKeysMakes (a : List UInt8) (ha : a.length = 32) (c : List UInt8) (hm : c.length ≤ maxLen) (n : Int) (hn : (Lit.int .i64 n).wf = true) (w : World) :
    Calls Try.prog 5 #[.agg (a.map bv).toArray, .string (str c), .int .i64 n] w fun e w' => e = .returned (.bool true) ∧ Below w.heap.size w w' := by
  by_cases hc : c.length ≤ 5000
  · by_cases hb : n < 0 ∨ 64 ≤ n
    · rcases hb with hb | hb
      · exact walkKeysMakes_neg a ha c hc n hb w
      · exact walkKeysMakes_big a ha c hc n hb w
    · exact walkKeysMakes_ok a ha c hc n (by omega) (by omega) w
  · exact walkKeysMakes_long a ha c hm hc n w
end Go.Proofs.Ytnfegmcdljejnaa
