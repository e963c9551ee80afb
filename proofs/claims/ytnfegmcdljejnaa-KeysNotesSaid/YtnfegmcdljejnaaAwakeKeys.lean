/-
  The law's own example for keys: it holds.
-/
import Derived.Test.YtnfegmcdljejnaaRefMake
import Derived.Test.YtnfegmcdljejnaaRefContext
import Derived.Test.YtnfegmcdljejnaaRefApp
import Derived.Test.YtnfegmcdljejnaaRd
set_option linter.unusedSimpArgs false
set_option linter.unusedVariables false
namespace Go.Proofs.Ytnfegmcdljejnaa
open Go.RowKit

def k1 : List UInt8 := 1 :: List.replicate 31 0
theorem awake_ne : (derive (epochT k1 [120]) lInit [] == derive (epochT k1 [120]) lExport []) = false := by decide +kernel
theorem awake_len : (ctxT z32 (Int.toNat 0) z32 z32).length = 97 := by decide +kernel
theorem Try.builtK1 : Try.prog.built 23 [(0, .int .u8 1)] = some (k1.map bv).toArray := by kernel_rfl
theorem Try.builtZ : Try.prog.built 23 [] = some (z32.map bv).toArray := by kernel_rfl

set_option maxHeartbeats 4000000 in
set_option maxRecDepth 100000 in
theorem awake_calls (w : World) : Calls Try.prog 25 #[] w fun e w' => e = .returned (.bool true) ∧ Below w.heap.size w w' := by
  go_enter Try.func25, Try.ntmps25
  go_wp2_with ((with_reducible show wpList _ _ _ (⟨some 2, _, _, _, _, _⟩ :: _) _ _); refine wpList_buildCells rfl 23 #[(0, .const (.int .u8 1))] rfl _ Try.builtK1 ?_)
  refine (Make_calls k1 [120] _ rfl (by simp)).mono ?_
  rintro e w1 ⟨rfl, b1⟩
  have hs : secsT k1 [120] = k1 ++ (derive k1 lWelcome [] ++ (epochT k1 [120] ++ (derive (epochT k1 [120]) lInit [] ++ (derive (epochT k1 [120]) lConfirm [] ++ (derive (epochT k1 [120]) lApps [] ++ derive (epochT k1 [120]) lExport []))))) := rfl
  have hne := awake_ne
  generalize hI : derive (epochT k1 [120]) lInit [] = I at hs hne
  generalize hX : derive (epochT k1 [120]) lExport [] = X at hs hne
  generalize hW : derive k1 lWelcome [] = W at hs
  generalize hE : epochT k1 [120] = E at hs
  generalize hF : derive E lConfirm [] = F at hs
  generalize hP : derive E lApps [] = P at hs
  have LI : Hid (I.length = 32) := by show _ = _; rw [← hI]; exact hmac_len _ _
  have LX : Hid (X.length = 32) := by show _ = _; rw [← hX]; exact hmac_len _ _
  have LW : Hid (W.length = 32) := by show _ = _; rw [← hW]; exact hmac_len _ _
  have LE : Hid (E.length = 32) := by show _ = _; rw [← hE]; exact hmac_len _ _
  have LF : Hid (F.length = 32) := by show _ = _; rw [← hF]; exact hmac_len _ _
  have LP : Hid (P.length = 32) := by show _ = _; rw [← hP]; exact hmac_len _ _
  have LK : Hid (k1.length = 32) := rfl
  clear hI hX hW hE hF hP
  obtain ⟨Y, hY⟩ : ∃ y, y = secsT k1 [120] := ⟨_, rfl⟩
  rw [← hY] at hs ⊢
  have hs1 : Hid (Y = k1 ++ (W ++ (E ++ (I ++ (F ++ (P ++ X)))))) := hs
  have LY : Hid (Y.length = 224) := by show _ = _; rw [hs]; simp only [List.length_append, LI.out, LX.out, LW.out, LE.out, LF.out, LP.out, LK.out]
  clear hs hY
  have hN := Blk.new w1 Try.zeroCells31 31
  have hb2 := b1.alloc b1.size (.cells Try.zeroCells31 31)
  have s1 := b1.size
  have hz224 : Try.zeroCells31.size = 224 := by rw [Try.zeroSecs]; simp [s7, z32]
  go_wp2_with (first | ((with_reducible show wpList _ _ _ (⟨none, Op.store _ (.tmp 1) _, _, _, _, _⟩ :: _) _ _); refine wpList_storeBlk rfl 31 (.tmp 1) (.tmp 3) rfl w1.heap.size (Y.map bv).toArray (by rfl) (by rfl) _ _ hN (by rw [bv_size, LY.out]; exact Try.sizeSecs) (by rw [bv_size, LY.out, hz224]) (bv_all _) ?_; intro w2 hS2 g2; have hb3 := below_new hb2 g2 (by omega) (by simp; omega)) | ((with_reducible show wpList _ _ _ (⟨some 4, _, _, _, _, _⟩ :: _) _ _); refine wpList_buildCells rfl 23 #[] rfl _ Try.builtZ ?_) | ((with_reducible show wpList _ _ _ (⟨some 5, _, _, _, _, _⟩ :: _) _ _); refine wpList_buildCells rfl 23 #[] rfl _ Try.builtZ ?_) | ((with_reducible show wpList _ _ _ (⟨some 6, _, _, _, _, _⟩ :: _) _ _); refine wpList_buildCells rfl 23 #[] rfl _ Try.builtZ ?_))
  refine (Context_calls z32 z32 z32 0 _ rfl rfl rfl (by omega) (by omega)).mono ?_
  rintro e w4 ⟨rfl, b4⟩
  have hl := awake_len
  generalize ctxT z32 (Int.toNat 0) z32 z32 = c at hl ⊢
  have hS4 := hS2.below b4 hS2.lt
  have hb4 := hb3.trans (b4.mono hb3.size)
  have hq1 : ∀ x, (Op.equalIn 10000 23 (.agg (I.map bv).toArray) (.agg (X.map bv).toArray)).run Try.prog x = .ok (I == X) x := fun x => run_eq_hash x I X LI.out LX.out
  have hq2 : ∀ x, (Op.equalIn 10000 23 (.agg (k1.map bv).toArray) (.agg (k1.map bv).toArray)).run Try.prog x = .ok (k1 == k1) x := fun x => run_eq_hash x k1 k1 rfl rfl
  clear hS2 hb3 b4 hN hb2 g2
  go_wp2_with (first | ((with_reducible show wpList _ _ _ (⟨some 12, _, _, _, _, _⟩ :: _) _ _); refine wpList_if (by rfl) (wp_load_mid 23 (.tmp 11) rfl w1.heap.size 96 (by rfl) (I.map bv) _ (blk_mid (A := k1 ++ (W ++ E)) (v := I) (C := F ++ (P ++ X)) hS4 (by rw [hs1.out]; simp) (by simp only [List.length_append, LW.out, LE.out, LK.out])) Try.underlying23 rfl (by rw [List.length_map, LI.out]; exact Try.sizeHash) ?_)) | ((with_reducible show wpList _ _ _ (⟨some 14, _, _, _, _, _⟩ :: _) _ _); refine wpList_if (by rfl) (wp_load_mid 23 (.tmp 13) rfl w1.heap.size 192 (by rfl) (X.map bv) _ (blk_mid (A := k1 ++ (W ++ (E ++ (I ++ (F ++ P))))) (v := X) (C := []) hS4 (by rw [hs1.out]; simp) (by simp only [List.length_append, LW.out, LE.out, LK.out, LI.out, LF.out, LP.out])) Try.underlying23 rfl (by rw [List.length_map, LX.out]; exact Try.sizeHash) ?_)) | ((with_reducible show wpList _ _ _ (⟨some 19, _, _, _, _, _⟩ :: _) _ _); refine wpList_if (by rfl) (wp_load_mid 23 (.tmp 18) rfl w1.heap.size 0 (by rfl) (k1.map bv) _ (blk_mid (A := []) (v := k1) (C := W ++ (E ++ (I ++ (F ++ (P ++ X))))) hS4 (by rw [hs1.out]; simp) rfl) Try.underlying23 rfl (by rw [List.length_map, LK.out]; exact Try.sizeHash) ?_)) | ((with_reducible show wpList _ _ _ (⟨some 20, _, _, _, _, _⟩ :: _) _ _); refine wpList_if (by rfl) (wp_buildCells 23 #[(0, .const (.int .u8 1))] rfl _ Try.builtK1 ?_)))
  go_returns
  exact ⟨rfl, hb4⟩
end Go.Proofs.Ytnfegmcdljejnaa
