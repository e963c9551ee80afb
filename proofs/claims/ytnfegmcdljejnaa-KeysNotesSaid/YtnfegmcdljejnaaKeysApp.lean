/-
  keys.App, with a nil book.
-/
import Derived.Test.YtnfegmcdljejnaaKeysContext
set_option linter.unusedSimpArgs false
set_option linter.unusedVariables false
namespace Go.Proofs.Ytnfegmcdljejnaa
open Go.RowKit

def appT (a : List UInt8) (n : Nat) : List UInt8 := derive a [97, 112, 112] (numB n)
theorem appT_len (a : List UInt8) (n : Nat) : (appT a n).length = 32 := hmac_len _ _
set_option maxHeartbeats 4000000 in
set_option maxRecDepth 100000 in
theorem App_calls (a : List UInt8) (n : Int) (w : World) (ha : a.length = 32) (h0 : 0 ≤ n) (h1 : n < 64) :
    Calls Try.prog 32 #[.pointer none, .agg (a.map bv).toArray, .int .i64 n] w fun e w' => e = .returned (.agg ((appT a n.toNat).map bv).toArray) ∧ Below w.heap.size w w' := by
  have HA := Lib.hid ha
  clear ha
  have hA0 : Blk ((w.alloc (.cells (a.map bv).toArray 23)).alloc (.cells Z32 23)) w.heap.size (a.map bv).toArray 23 := (Blk.new _ _ _).alloc _
  have hR0 : Blk ((w.alloc (.cells (a.map bv).toArray 23)).alloc (.cells Z32 23)) (w.heap.size + 1) Z32 23 := blk_new1 _ _ _ _
  have hb0 : Below w.heap.size w ((w.alloc (.cells (a.map bv).toArray 23)).alloc (.cells Z32 23)) := ((Below.refl _ _).alloc (Nat.le_refl _) _).alloc (by simp) _
  go_enter Try.func32, Try.ntmps32
  go_wp2_with fail
  generalize (w.alloc (.cells (a.map bv).toArray 23)).alloc (.cells Z32 23) = W0 at hA0 hR0 hb0 ⊢
  have lA := hA0.lt
  have lR := hR0.lt
  refine (New_calls _).mono ?_
  rintro e w1 ⟨rfl, k1, b1⟩
  have hA1 := hA0.below b1 lA
  have hR1 := hR0.below b1 lR
  clear hA0 hR0
  go_wp2_with fail
  refine (num_calls W0.heap.size _ _ _ n _ k1 b1.size (by simp) h0 (by omega)).mono ?_
  rintro e w2 ⟨rfl, k2, b2⟩
  have hA2 := hA1.below b2.below lA
  have hR2 := hR1.below b2.below lR
  have bb2 := b1.trans b2.below
  clear hA1 hR1 k1
  go_wp2_with fail
  refine (endOk_calls W0.heap.size _ _ _ k2).mono ?_
  rintro e w3 ⟨rfl, rfl⟩
  rw [List.nil_append]
  have hn8 := numB_len n.toNat
  go_wp2_with ((with_reducible show wpList _ _ _ (⟨some 27, _, _, _, _, _⟩ :: _) _ _); refine wpList_loadBlk rfl 23 (.tmp 4) rfl w.heap.size (by rfl) _ _ _ hA2 Try.underlying23 rfl (by rw [bv_size, HA.out]; exact Try.sizeHash) ?_)
  refine (PDerive_calls a [97, 112, 112] (numB n.toNat) _ HA.out (by simp) (by omega)).mono ?_
  rintro e w4 ⟨rfl, b4⟩
  have s2 := bb2.size
  have hR4 := hR2.below b4 (by omega)
  have bb4 := hb0.trans ((bb2.mono hb0.size).trans (b4.mono (by have := hb0.size; omega)))
  rw [show derive a [97, 112, 112] (numB n.toNat) = appT a n.toNat from rfl]
  have h32 : Hid ((appT a n.toNat).length = 32) := appT_len _ _
  go_wp2_with ((with_reducible show wpList _ _ _ (⟨none, Op.store _ (.tmp 6) _, _, _, _, _⟩ :: _) _ _); refine wpList_storeBlk rfl 23 (.tmp 6) (.tmp 29) rfl (w.heap.size + 1) ((appT a n.toNat).map bv).toArray (by rfl) (by rfl) _ _ hR4 (by rw [bv_size, h32.out]; exact Try.sizeHash) (by rw [bv_size, h32.out, Z32_size]) (bv_all _) ?_; intro w9 hB9 g9; have h9 := bb4.trans (grown_below g9 (by omega) bb4.size))
  refine ret_blk rfl (w.heap.size + 1) _ _ _ (by rfl) hB9 Try.underlying23 rfl (by rw [bv_size, h32.out]; exact Try.sizeHash) rfl ?_
  exact ⟨rfl, h9⟩

set_option maxHeartbeats 4000000 in
set_option maxRecDepth 100000 in
theorem AppBad_calls (a : List UInt8) (n : Int) (w : World) (ha : a.length = 32) (hn : n < 0 ∨ 64 ≤ n) :
    Calls Try.prog 32 #[.pointer none, .agg (a.map bv).toArray, .int .i64 n] w fun e w' => e = .returned (.agg ((List.replicate 32 (0 : UInt8)).map bv).toArray) ∧ Below w.heap.size w w' := by
  have HA := Lib.hid ha
  clear ha
  have hR0 : Blk ((w.alloc (.cells (a.map bv).toArray 23)).alloc (.cells Z32 23)) (w.heap.size + 1) Z32 23 := blk_new1 _ _ _ _
  have hb0 : Below w.heap.size w ((w.alloc (.cells (a.map bv).toArray 23)).alloc (.cells Z32 23)) := ((Below.refl _ _).alloc (Nat.le_refl _) _).alloc (by simp) _
  rcases hn with hn | hn
  all_goals
    go_enter Try.func32, Try.ntmps32
    go_wp2_with ((with_reducible show wpList _ _ _ (⟨none, Op.store _ (.tmp 6) _, _, _, _, _⟩ :: _) _ _); refine wpList_storeBlk rfl 23 (.tmp 6) (.tmp 16) rfl (w.heap.size + 1) Z32 (by rfl) (by rfl) _ _ hR0 (by rw [Z32_size]; exact Try.sizeHash) (by rw [Z32_size]) Z32_all ?_; intro w9 hB9 g9; have h9 := hb0.trans (grown_below g9 (by omega) hb0.size))
    refine ret_blk rfl (w.heap.size + 1) _ _ _ (by rfl) hB9 Try.underlying23 rfl (by rw [Z32_size]; exact Try.sizeHash) rfl ?_
    exact ⟨rfl, h9⟩
end Go.Proofs.Ytnfegmcdljejnaa
