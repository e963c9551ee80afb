/-
  The document's sums with a label: bevyref05.text, Pub, Mark, Verify, Shared, Sign.
-/
import Derived.Test.YtjlpdbaknhbgdaaPrimSums
set_option linter.unusedSimpArgs false
set_option linter.unusedVariables false
namespace Go.Proofs.Ytjlpdbaknhbgdaa
open Go.RowKit

set_option maxHeartbeats 4000000 in
set_option maxRecDepth 100000 in
theorem Text5_calls (a : List UInt8) (w : World) (ha : a.length = 32) :
    Calls Try.prog 29 #[.agg (a.map bv).toArray] w fun e w' => e = .returned (.string (str a)) ∧ w' = w.alloc (.cells (a.map bv).toArray 25) := by
  have HA := Lib.hid ha
  clear ha
  have hA0 : Blk (w.alloc (.cells (a.map bv).toArray 25)) w.heap.size (a.map bv).toArray 25 := Blk.new _ _ _
  have hcv := conv_blk HA.out hA0
  go_enter Try.func29, Try.ntmps29
  go_wp2_with fail
  exact ⟨rfl, _, (by simp [results, Try.f29, go_sem]), rfl, rfl⟩

set_option maxHeartbeats 4000000 in
set_option maxRecDepth 100000 in
theorem RefPub_calls (a : List UInt8) (w : World) (ha : a.length = 32) :
    Calls Try.prog 13 #[.agg (a.map bv).toArray] w fun e w' => e = .returned (.agg ((pubT a).map bv).toArray) ∧ Below w.heap.size w w' := by
  have HA := Lib.hid ha
  clear ha
  have hA0 : Blk ((w.alloc (.cells (a.map bv).toArray 25)).alloc (.cells Z32 25)) w.heap.size (a.map bv).toArray 25 := (Blk.new _ _ _).alloc _
  have hR0 : Blk ((w.alloc (.cells (a.map bv).toArray 25)).alloc (.cells Z32 25)) (w.heap.size + 1) Z32 25 := blk_new1 _ _ _ _
  have hb0 : Below w.heap.size w ((w.alloc (.cells (a.map bv).toArray 25)).alloc (.cells Z32 25)) := ((Below.refl _ _).alloc (Nat.le_refl _) _).alloc (by simp) _
  have hstr : ((⟨#[112, 117, 98]⟩ : ByteArray) ++ str a) = str ([112, 117, 98] ++ a) := by
    rw [← str_append]; rfl
  have hal : a.length ≤ 32 := by rw [HA.out]; omega
  go_enter Try.func13, Try.ntmps13
  go_wp2_with ((with_reducible show wpList _ _ _ (⟨some 3, _, _, _, _, _⟩ :: _) _ _); refine wpList_loadBlk rfl 25 (.tmp 1) rfl w.heap.size (by rfl) _ _ _ hA0 Try.underlying25 rfl (by rw [bv_size, HA.out]; exact Try.sizeA32) ?_)
  generalize (w.alloc (.cells (a.map bv).toArray 25)).alloc (.cells Z32 25) = W0 at hA0 hR0 hb0 ⊢
  refine (Text5_calls a _ HA.out).mono ?_
  rintro e w1 ⟨rfl, rfl⟩
  have hR1 := hR0.alloc (.cells (a.map bv).toArray 25)
  have hb1 := hb0.alloc hb0.size (.cells (a.map bv).toArray 25)
  clear hA0 hR0 hb0
  generalize W0.alloc (.cells (a.map bv).toArray 25) = W1 at hR1 hb1 ⊢
  go_wp2_with fail
  refine (RefSum_calls (112 :: 117 :: 98 :: a) _ (by simp [HA.out])).mono ?_
  rintro e w2 ⟨rfl, b2⟩
  have hR2 := hR1.below b2 hR1.lt
  have hb2 := hb1.trans (b2.mono hb1.size)
  rw [show sha (112 :: 117 :: 98 :: a) = pubT a from by simp [pubT]]
  have h32 : Hid ((pubT a).length = 32) := pubT_len _
  clear hR1 hb1 b2
  go_wp2_with ((with_reducible show wpList _ _ _ (⟨none, Op.store _ (.tmp 2) _, _, _, _, _⟩ :: _) _ _); refine wpList_storeBlk rfl 25 (.tmp 2) (.tmp 6) rfl (w.heap.size + 1) ((pubT a).map bv).toArray (by rfl) (by rfl) _ _ hR2 (by rw [bv_size, h32.out]; exact Try.sizeA32) (by rw [bv_size, h32.out, Z32_size]) (bv_all _) ?_; intro w9 hB9 g9; have h9 := hb2.trans (grown_below g9 (by omega) hb2.size))
  refine ret_blk rfl (w.heap.size + 1) _ _ _ (by rfl) hB9 Try.underlying25 rfl (by rw [bv_size, h32.out]; exact Try.sizeA32) rfl ?_
  exact ⟨rfl, h9⟩

set_option maxHeartbeats 4000000 in
set_option maxRecDepth 100000 in
theorem RefMark_calls (a : List UInt8) (w : World) (ha : a.length = 32) :
    Calls Try.prog 9 #[.agg (a.map bv).toArray] w fun e w' => e = .returned (.agg ((markT a).map bv).toArray) ∧ Below w.heap.size w w' := by
  have HA := Lib.hid ha
  clear ha
  have hA0 : Blk ((w.alloc (.cells (a.map bv).toArray 25)).alloc (.cells Z32 25)) w.heap.size (a.map bv).toArray 25 := (Blk.new _ _ _).alloc _
  have hR0 : Blk ((w.alloc (.cells (a.map bv).toArray 25)).alloc (.cells Z32 25)) (w.heap.size + 1) Z32 25 := blk_new1 _ _ _ _
  have hb0 : Below w.heap.size w ((w.alloc (.cells (a.map bv).toArray 25)).alloc (.cells Z32 25)) := ((Below.refl _ _).alloc (Nat.le_refl _) _).alloc (by simp) _
  have hstr : ((⟨#[109, 97, 114, 107]⟩ : ByteArray) ++ str a) = str ([109, 97, 114, 107] ++ a) := by
    rw [← str_append]; rfl
  have hal : a.length ≤ 32 := by rw [HA.out]; omega
  go_enter Try.func9, Try.ntmps9
  go_wp2_with ((with_reducible show wpList _ _ _ (⟨some 3, _, _, _, _, _⟩ :: _) _ _); refine wpList_loadBlk rfl 25 (.tmp 1) rfl w.heap.size (by rfl) _ _ _ hA0 Try.underlying25 rfl (by rw [bv_size, HA.out]; exact Try.sizeA32) ?_)
  generalize (w.alloc (.cells (a.map bv).toArray 25)).alloc (.cells Z32 25) = W0 at hA0 hR0 hb0 ⊢
  refine (Text5_calls a _ HA.out).mono ?_
  rintro e w1 ⟨rfl, rfl⟩
  have hR1 := hR0.alloc (.cells (a.map bv).toArray 25)
  have hb1 := hb0.alloc hb0.size (.cells (a.map bv).toArray 25)
  clear hA0 hR0 hb0
  generalize W0.alloc (.cells (a.map bv).toArray 25) = W1 at hR1 hb1 ⊢
  go_wp2_with fail
  refine (RefSum_calls (109 :: 97 :: 114 :: 107 :: a) _ (by simp [HA.out])).mono ?_
  rintro e w2 ⟨rfl, b2⟩
  have hR2 := hR1.below b2 hR1.lt
  have hb2 := hb1.trans (b2.mono hb1.size)
  rw [show sha (109 :: 97 :: 114 :: 107 :: a) = markT a from by simp [markT]]
  have h32 : Hid ((markT a).length = 32) := markT_len _
  clear hR1 hb1 b2
  go_wp2_with ((with_reducible show wpList _ _ _ (⟨none, Op.store _ (.tmp 2) _, _, _, _, _⟩ :: _) _ _); refine wpList_storeBlk rfl 25 (.tmp 2) (.tmp 6) rfl (w.heap.size + 1) ((markT a).map bv).toArray (by rfl) (by rfl) _ _ hR2 (by rw [bv_size, h32.out]; exact Try.sizeA32) (by rw [bv_size, h32.out, Z32_size]) (bv_all _) ?_; intro w9 hB9 g9; have h9 := hb2.trans (grown_below g9 (by omega) hb2.size))
  refine ret_blk rfl (w.heap.size + 1) _ _ _ (by rfl) hB9 Try.underlying25 rfl (by rw [bv_size, h32.out]; exact Try.sizeA32) rfl ?_
  exact ⟨rfl, h9⟩

set_option maxHeartbeats 4000000 in
set_option maxRecDepth 100000 in
theorem RefShared_calls (a s : List UInt8) (w : World) (ha : a.length = 32) (hs : s.length ≤ 5000) :
    Calls Try.prog 15 #[.agg (a.map bv).toArray, .string (str s)] w fun e w' => e = .returned (.agg ((sharedT a s).map bv).toArray) ∧ Below w.heap.size w w' := by
  have HA := Lib.hid ha
  clear ha
  have hA0 : Blk ((w.alloc (.cells (a.map bv).toArray 25)).alloc (.cells Z32 25)) w.heap.size (a.map bv).toArray 25 := (Blk.new _ _ _).alloc _
  have hR0 : Blk ((w.alloc (.cells (a.map bv).toArray 25)).alloc (.cells Z32 25)) (w.heap.size + 1) Z32 25 := blk_new1 _ _ _ _
  have hb0 : Below w.heap.size w ((w.alloc (.cells (a.map bv).toArray 25)).alloc (.cells Z32 25)) := ((Below.refl _ _).alloc (Nat.le_refl _) _).alloc (by simp) _
  have hstr : ((⟨#[107, 101, 109]⟩ : ByteArray) ++ str a) = str ([107, 101, 109] ++ a) := by
    rw [← str_append]; rfl
  have hal : a.length ≤ 32 := by rw [HA.out]; omega
  go_enter Try.func15, Try.ntmps15
  go_wp2_with ((with_reducible show wpList _ _ _ (⟨some 5, _, _, _, _, _⟩ :: _) _ _); refine wpList_loadBlk rfl 25 (.tmp 2) rfl w.heap.size (by rfl) _ _ _ hA0 Try.underlying25 rfl (by rw [bv_size, HA.out]; exact Try.sizeA32) ?_)
  generalize (w.alloc (.cells (a.map bv).toArray 25)).alloc (.cells Z32 25) = W0 at hA0 hR0 hb0 ⊢
  refine (Text5_calls a _ HA.out).mono ?_
  rintro e w1 ⟨rfl, rfl⟩
  have hR1 := hR0.alloc (.cells (a.map bv).toArray 25)
  have hb1 := hb0.alloc hb0.size (.cells (a.map bv).toArray 25)
  clear hA0 hR0 hb0
  generalize W0.alloc (.cells (a.map bv).toArray 25) = W1 at hR1 hb1 ⊢
  go_wp2_with fail
  refine (RefSum_calls (107 :: 101 :: 109 :: (a ++ s)) _ (by simp [HA.out]; omega)).mono ?_
  rintro e w2 ⟨rfl, b2⟩
  have hR2 := hR1.below b2 hR1.lt
  have hb2 := hb1.trans (b2.mono hb1.size)
  rw [show sha (107 :: 101 :: 109 :: (a ++ s)) = sharedT a s from by simp [sharedT]]
  have h32 : Hid ((sharedT a s).length = 32) := sharedT_len _ _
  clear hR1 hb1 b2
  go_wp2_with ((with_reducible show wpList _ _ _ (⟨none, Op.store _ (.tmp 4) _, _, _, _, _⟩ :: _) _ _); refine wpList_storeBlk rfl 25 (.tmp 4) (.tmp 10) rfl (w.heap.size + 1) ((sharedT a s).map bv).toArray (by rfl) (by rfl) _ _ hR2 (by rw [bv_size, h32.out]; exact Try.sizeA32) (by rw [bv_size, h32.out, Z32_size]) (bv_all _) ?_; intro w9 hB9 g9; have h9 := hb2.trans (grown_below g9 (by omega) hb2.size))
  refine ret_blk rfl (w.heap.size + 1) _ _ _ (by rfl) hB9 Try.underlying25 rfl (by rw [bv_size, h32.out]; exact Try.sizeA32) rfl ?_
  exact ⟨rfl, h9⟩

def signT (a s : List UInt8) : List UInt8 := hmac a ([115, 105, 103, 110] ++ s)
theorem signT_len (a s : List UInt8) : (signT a s).length = 32 := hmac_len _ _
end Go.Proofs.Ytjlpdbaknhbgdaa
