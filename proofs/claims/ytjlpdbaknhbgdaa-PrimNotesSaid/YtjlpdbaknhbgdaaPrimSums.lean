/-
  Sums with a label: prim.public, Mark, Verify, shared.
-/
import Derived.Test.YtjlpdbaknhbgdaaPrimDerive
set_option linter.unusedSimpArgs false
set_option linter.unusedVariables false
namespace Go.Proofs.Ytjlpdbaknhbgdaa
open Go.RowKit

def pubT (a : List UInt8) : List UInt8 := sha ([112, 117, 98] ++ a)
theorem pubT_len (a : List UInt8) : (pubT a).length = 32 := sha_len _
set_option maxHeartbeats 4000000 in
set_option maxRecDepth 100000 in
theorem public_calls (a : List UInt8) (w : World) (ha : a.length = 32) :
    Calls Try.prog 30 #[.agg (a.map bv).toArray] w fun e w' => e = .returned (.agg ((pubT a).map bv).toArray) ∧ Below w.heap.size w w' := by
  have HA := Lib.hid ha
  clear ha
  have hA0 : Blk ((w.alloc (.cells (a.map bv).toArray 26)).alloc (.cells Z32 26)) w.heap.size (a.map bv).toArray 26 := (Blk.new _ _ _).alloc _
  have hR0 : Blk ((w.alloc (.cells (a.map bv).toArray 26)).alloc (.cells Z32 26)) (w.heap.size + 1) Z32 26 := blk_new1 _ _ _ _
  have hb0 : Below w.heap.size w ((w.alloc (.cells (a.map bv).toArray 26)).alloc (.cells Z32 26)) := ((Below.refl _ _).alloc (Nat.le_refl _) _).alloc (by simp) _
  have hcv := conv_blk HA.out hA0
  go_enter Try.func30, Try.ntmps30
  go_wp2_with fail
  generalize hW : (w.alloc (.cells (a.map bv).toArray 26)).alloc (.cells Z32 26) = W0 at hA0 hR0 hb0
  have hs0 : W0.heap.size = w.heap.size + 1 + 1 := by rw [← hW]; simp
  have hst : StrsAt (W0.alloc (.cells #[.string ⟨#[112, 117, 98]⟩, .string (str a)] 9)) (some ⟨w.heap.size + 1 + 1, 0, none⟩) 2 [[112, 117, 98], a] := by
    rw [← hs0]
    exact StrsAt.blk [[112, 117, 98], a] (Blk.new W0 #[.string (str [112, 117, 98]), .string (str a)] 9)
  refine (Sum_calls _ 2 2 [[112, 117, 98], a] _ hst (by simp [HA.out]) (by omega)).mono ?_
  rintro e w2 ⟨rfl, b2⟩
  have hR2 := Blk.below (hR0.alloc (.cells #[.string ⟨#[112, 117, 98]⟩, .string (str a)] 9)) b2 (Blk.lt (hR0.alloc _))
  have hb1 := hb0.alloc hb0.size (.cells #[.string ⟨#[112, 117, 98]⟩, .string (str a)] 9)
  have hb2 := hb1.trans (b2.mono hb1.size)
  rw [show sha [[112, 117, 98], a].flatten = pubT a from by simp only [pubT, List.flatten_cons, List.flatten_nil, List.append_nil, List.append_assoc]]
  have h32 : Hid ((pubT a).length = 32) := pubT_len _
  clear hR0 hb0 hA0 hb1 b2 hst hcv hs0 hW
  go_wp2_with ((with_reducible show wpList _ _ _ (⟨none, Op.store _ (.tmp 2) _, _, _, _, _⟩ :: _) _ _); refine wpList_storeBlk rfl 26 (.tmp 2) (.tmp 6) rfl (w.heap.size + 1) ((pubT a).map bv).toArray (by rfl) (by rfl) _ _ hR2 (by rw [bv_size, h32.out]; exact Try.sizeHash) (by rw [bv_size, h32.out, Z32_size]) (bv_all _) ?_; intro w9 hB9 g9; have h9 := hb2.trans (grown_below g9 (by omega) hb2.size))
  refine ret_blk rfl (w.heap.size + 1) _ _ _ (by rfl) hB9 Try.underlying26 rfl (by rw [bv_size, h32.out]; exact Try.sizeHash) rfl ?_
  exact ⟨rfl, h9⟩

def markT (a : List UInt8) : List UInt8 := sha ([109, 97, 114, 107] ++ a)
theorem markT_len (a : List UInt8) : (markT a).length = 32 := sha_len _
set_option maxHeartbeats 4000000 in
set_option maxRecDepth 100000 in
theorem Mark_calls (a : List UInt8) (w : World) (ha : a.length = 32) :
    Calls Try.prog 31 #[.agg (a.map bv).toArray] w fun e w' => e = .returned (.agg ((markT a).map bv).toArray) ∧ Below w.heap.size w w' := by
  have HA := Lib.hid ha
  clear ha
  have hA0 : Blk ((w.alloc (.cells (a.map bv).toArray 26)).alloc (.cells Z32 26)) w.heap.size (a.map bv).toArray 26 := (Blk.new _ _ _).alloc _
  have hR0 : Blk ((w.alloc (.cells (a.map bv).toArray 26)).alloc (.cells Z32 26)) (w.heap.size + 1) Z32 26 := blk_new1 _ _ _ _
  have hb0 : Below w.heap.size w ((w.alloc (.cells (a.map bv).toArray 26)).alloc (.cells Z32 26)) := ((Below.refl _ _).alloc (Nat.le_refl _) _).alloc (by simp) _
  have hcv := conv_blk HA.out hA0
  go_enter Try.func31, Try.ntmps31
  go_wp2_with fail
  generalize hW : (w.alloc (.cells (a.map bv).toArray 26)).alloc (.cells Z32 26) = W0 at hA0 hR0 hb0
  have hs0 : W0.heap.size = w.heap.size + 1 + 1 := by rw [← hW]; simp
  have hst : StrsAt (W0.alloc (.cells #[.string ⟨#[109, 97, 114, 107]⟩, .string (str a)] 9)) (some ⟨w.heap.size + 1 + 1, 0, none⟩) 2 [[109, 97, 114, 107], a] := by
    rw [← hs0]
    exact StrsAt.blk [[109, 97, 114, 107], a] (Blk.new W0 #[.string (str [109, 97, 114, 107]), .string (str a)] 9)
  refine (Sum_calls _ 2 2 [[109, 97, 114, 107], a] _ hst (by simp [HA.out]) (by omega)).mono ?_
  rintro e w2 ⟨rfl, b2⟩
  have hR2 := Blk.below (hR0.alloc (.cells #[.string ⟨#[109, 97, 114, 107]⟩, .string (str a)] 9)) b2 (Blk.lt (hR0.alloc _))
  have hb1 := hb0.alloc hb0.size (.cells #[.string ⟨#[109, 97, 114, 107]⟩, .string (str a)] 9)
  have hb2 := hb1.trans (b2.mono hb1.size)
  rw [show sha [[109, 97, 114, 107], a].flatten = markT a from by simp only [markT, List.flatten_cons, List.flatten_nil, List.append_nil, List.append_assoc]]
  have h32 : Hid ((markT a).length = 32) := markT_len _
  clear hR0 hb0 hA0 hb1 b2 hst hcv hs0 hW
  go_wp2_with ((with_reducible show wpList _ _ _ (⟨none, Op.store _ (.tmp 2) _, _, _, _, _⟩ :: _) _ _); refine wpList_storeBlk rfl 26 (.tmp 2) (.tmp 6) rfl (w.heap.size + 1) ((markT a).map bv).toArray (by rfl) (by rfl) _ _ hR2 (by rw [bv_size, h32.out]; exact Try.sizeHash) (by rw [bv_size, h32.out, Z32_size]) (bv_all _) ?_; intro w9 hB9 g9; have h9 := hb2.trans (grown_below g9 (by omega) hb2.size))
  refine ret_blk rfl (w.heap.size + 1) _ _ _ (by rfl) hB9 Try.underlying26 rfl (by rw [bv_size, h32.out]; exact Try.sizeHash) rfl ?_
  exact ⟨rfl, h9⟩

def verT (a : List UInt8) : List UInt8 := sha ([118, 101, 114] ++ a)
theorem verT_len (a : List UInt8) : (verT a).length = 32 := sha_len _
set_option maxHeartbeats 4000000 in
set_option maxRecDepth 100000 in
theorem Verify_calls (a : List UInt8) (w : World) (ha : a.length = 32) :
    Calls Try.prog 23 #[.agg (a.map bv).toArray] w fun e w' => e = .returned (.agg ((verT a).map bv).toArray) ∧ Below w.heap.size w w' := by
  have HA := Lib.hid ha
  clear ha
  have hA0 : Blk ((w.alloc (.cells (a.map bv).toArray 26)).alloc (.cells Z32 26)) w.heap.size (a.map bv).toArray 26 := (Blk.new _ _ _).alloc _
  have hR0 : Blk ((w.alloc (.cells (a.map bv).toArray 26)).alloc (.cells Z32 26)) (w.heap.size + 1) Z32 26 := blk_new1 _ _ _ _
  have hb0 : Below w.heap.size w ((w.alloc (.cells (a.map bv).toArray 26)).alloc (.cells Z32 26)) := ((Below.refl _ _).alloc (Nat.le_refl _) _).alloc (by simp) _
  have hcv := conv_blk HA.out hA0
  go_enter Try.func23, Try.ntmps23
  go_wp2_with fail
  generalize hW : (w.alloc (.cells (a.map bv).toArray 26)).alloc (.cells Z32 26) = W0 at hA0 hR0 hb0
  have hs0 : W0.heap.size = w.heap.size + 1 + 1 := by rw [← hW]; simp
  have hst : StrsAt (W0.alloc (.cells #[.string ⟨#[118, 101, 114]⟩, .string (str a)] 9)) (some ⟨w.heap.size + 1 + 1, 0, none⟩) 2 [[118, 101, 114], a] := by
    rw [← hs0]
    exact StrsAt.blk [[118, 101, 114], a] (Blk.new W0 #[.string (str [118, 101, 114]), .string (str a)] 9)
  refine (Sum_calls _ 2 2 [[118, 101, 114], a] _ hst (by simp [HA.out]) (by omega)).mono ?_
  rintro e w2 ⟨rfl, b2⟩
  have hR2 := Blk.below (hR0.alloc (.cells #[.string ⟨#[118, 101, 114]⟩, .string (str a)] 9)) b2 (Blk.lt (hR0.alloc _))
  have hb1 := hb0.alloc hb0.size (.cells #[.string ⟨#[118, 101, 114]⟩, .string (str a)] 9)
  have hb2 := hb1.trans (b2.mono hb1.size)
  rw [show sha [[118, 101, 114], a].flatten = verT a from by simp only [verT, List.flatten_cons, List.flatten_nil, List.append_nil, List.append_assoc]]
  have h32 : Hid ((verT a).length = 32) := verT_len _
  clear hR0 hb0 hA0 hb1 b2 hst hcv hs0 hW
  go_wp2_with ((with_reducible show wpList _ _ _ (⟨none, Op.store _ (.tmp 2) _, _, _, _, _⟩ :: _) _ _); refine wpList_storeBlk rfl 26 (.tmp 2) (.tmp 6) rfl (w.heap.size + 1) ((verT a).map bv).toArray (by rfl) (by rfl) _ _ hR2 (by rw [bv_size, h32.out]; exact Try.sizeHash) (by rw [bv_size, h32.out, Z32_size]) (bv_all _) ?_; intro w9 hB9 g9; have h9 := hb2.trans (grown_below g9 (by omega) hb2.size))
  refine ret_blk rfl (w.heap.size + 1) _ _ _ (by rfl) hB9 Try.underlying26 rfl (by rw [bv_size, h32.out]; exact Try.sizeHash) rfl ?_
  exact ⟨rfl, h9⟩

def sharedT (a s : List UInt8) : List UInt8 := sha ([107, 101, 109] ++ a ++ s)
theorem sharedT_len (a s : List UInt8) : (sharedT a s).length = 32 := sha_len _
set_option maxHeartbeats 4000000 in
set_option maxRecDepth 100000 in
theorem shared_calls (a s : List UInt8) (w : World) (ha : a.length = 32) (hs : s.length ≤ 5000) :
    Calls Try.prog 35 #[.agg (a.map bv).toArray, .string (str s)] w fun e w' => e = .returned (.agg ((sharedT a s).map bv).toArray) ∧ Below w.heap.size w w' := by
  have HA := Lib.hid ha
  clear ha
  have hA0 : Blk ((w.alloc (.cells (a.map bv).toArray 26)).alloc (.cells Z32 26)) w.heap.size (a.map bv).toArray 26 := (Blk.new _ _ _).alloc _
  have hR0 : Blk ((w.alloc (.cells (a.map bv).toArray 26)).alloc (.cells Z32 26)) (w.heap.size + 1) Z32 26 := blk_new1 _ _ _ _
  have hb0 : Below w.heap.size w ((w.alloc (.cells (a.map bv).toArray 26)).alloc (.cells Z32 26)) := ((Below.refl _ _).alloc (Nat.le_refl _) _).alloc (by simp) _
  have hcv := conv_blk HA.out hA0
  go_enter Try.func35, Try.ntmps35
  go_wp2_with fail
  generalize hW : (w.alloc (.cells (a.map bv).toArray 26)).alloc (.cells Z32 26) = W0 at hA0 hR0 hb0
  have hs0 : W0.heap.size = w.heap.size + 1 + 1 := by rw [← hW]; simp
  have hst : StrsAt (W0.alloc (.cells #[.string ⟨#[107, 101, 109]⟩, .string (str a), .string (str s)] 9)) (some ⟨w.heap.size + 1 + 1, 0, none⟩) 3 [[107, 101, 109], a, s] := by
    rw [← hs0]
    exact StrsAt.blk [[107, 101, 109], a, s] (Blk.new W0 #[.string (str [107, 101, 109]), .string (str a), .string (str s)] 9)
  refine (Sum_calls _ 3 3 [[107, 101, 109], a, s] _ hst (by simp [HA.out]; omega) (by omega)).mono ?_
  rintro e w2 ⟨rfl, b2⟩
  have hR2 := Blk.below (hR0.alloc (.cells #[.string ⟨#[107, 101, 109]⟩, .string (str a), .string (str s)] 9)) b2 (Blk.lt (hR0.alloc _))
  have hb1 := hb0.alloc hb0.size (.cells #[.string ⟨#[107, 101, 109]⟩, .string (str a), .string (str s)] 9)
  have hb2 := hb1.trans (b2.mono hb1.size)
  rw [show sha [[107, 101, 109], a, s].flatten = sharedT a s from by simp only [sharedT, List.flatten_cons, List.flatten_nil, List.append_nil, List.append_assoc]]
  have h32 : Hid ((sharedT a s).length = 32) := sharedT_len _ _
  clear hR0 hb0 hA0 hb1 b2 hst hcv hs0 hW
  go_wp2_with ((with_reducible show wpList _ _ _ (⟨none, Op.store _ (.tmp 4) _, _, _, _, _⟩ :: _) _ _); refine wpList_storeBlk rfl 26 (.tmp 4) (.tmp 9) rfl (w.heap.size + 1) ((sharedT a s).map bv).toArray (by rfl) (by rfl) _ _ hR2 (by rw [bv_size, h32.out]; exact Try.sizeHash) (by rw [bv_size, h32.out, Z32_size]) (bv_all _) ?_; intro w9 hB9 g9; have h9 := hb2.trans (grown_below g9 (by omega) hb2.size))
  refine ret_blk rfl (w.heap.size + 1) _ _ _ (by rfl) hB9 Try.underlying26 rfl (by rw [bv_size, h32.out]; exact Try.sizeHash) rfl ?_
  exact ⟨rfl, h9⟩

end Go.Proofs.Ytjlpdbaknhbgdaa
