/-
  keys.Said.
-/
import Derived.Test.YtnfegmcdljejnaaRefSaid
set_option linter.unusedSimpArgs false
set_option linter.unusedVariables false
namespace Go.Proofs.Ytnfegmcdljejnaa
open Go.RowKit

set_option maxHeartbeats 4000000 in
set_option maxRecDepth 100000 in
theorem Said_calls (a c : List UInt8) (w : World) (ha : a.length = 32) (hc : c.length ≤ 5000) :
    Calls Try.prog 44 #[.agg (a.map bv).toArray, .string (str c)] w fun e w' => e = .returned (.agg ((saidT a c).map bv).toArray) ∧ Below w.heap.size w w' := by
  have HA := Lib.hid ha
  clear ha
  have hA0 : Blk ((w.alloc (.cells (a.map bv).toArray 23)).alloc (.cells Z32 23)) w.heap.size (a.map bv).toArray 23 := (Blk.new _ _ _).alloc _
  have hR0 : Blk ((w.alloc (.cells (a.map bv).toArray 23)).alloc (.cells Z32 23)) (w.heap.size + 1) Z32 23 := blk_new1 _ _ _ _
  have hb0 : Below w.heap.size w ((w.alloc (.cells (a.map bv).toArray 23)).alloc (.cells Z32 23)) := ((Below.refl _ _).alloc (Nat.le_refl _) _).alloc (by simp) _
  have hcv := conv_blk HA.out hA0
  go_enter Try.func44, Try.ntmps44
  go_wp2_with fail
  generalize hW : (w.alloc (.cells (a.map bv).toArray 23)).alloc (.cells Z32 23) = W0 at hA0 hR0 hb0
  have hs0 : W0.heap.size = w.heap.size + 1 + 1 := by rw [← hW]; simp
  have hst : StrsAt (W0.alloc (.cells #[.string ⟨#[115, 97, 105, 100]⟩, .string (str a), .string (str c)] 9)) (some ⟨w.heap.size + 1 + 1, 0, none⟩) 3 [[115, 97, 105, 100], a, c] := by
    rw [← hs0]
    exact StrsAt.blk [[115, 97, 105, 100], a, c] (Blk.new W0 #[.string (str [115, 97, 105, 100]), .string (str a), .string (str c)] 9)
  refine (Sum_calls _ 3 3 [[115, 97, 105, 100], a, c] _ hst (by simp [HA.out]; omega) (by omega)).mono ?_
  rintro e w2 ⟨rfl, b2⟩
  have hR2 := Blk.below (hR0.alloc (.cells #[.string ⟨#[115, 97, 105, 100]⟩, .string (str a), .string (str c)] 9)) b2 (Blk.lt (hR0.alloc _))
  have hb1 := hb0.alloc hb0.size (.cells #[.string ⟨#[115, 97, 105, 100]⟩, .string (str a), .string (str c)] 9)
  have hb2 := hb1.trans (b2.mono hb1.size)
  rw [show sha [[115, 97, 105, 100], a, c].flatten = saidT a c from by simp only [saidT, List.flatten_cons, List.flatten_nil, List.append_nil, List.append_assoc]]
  have h32 : Hid ((saidT a c).length = 32) := saidT_len _ _
  clear hR0 hb0 hA0 hb1 b2 hst hcv hs0 hW
  go_wp2_with ((with_reducible show wpList _ _ _ (⟨none, Op.store _ (.tmp 4) _, _, _, _, _⟩ :: _) _ _); refine wpList_storeBlk rfl 23 (.tmp 4) (.tmp 9) rfl (w.heap.size + 1) ((saidT a c).map bv).toArray (by rfl) (by rfl) _ _ hR2 (by rw [bv_size, h32.out]; exact Try.sizeHash) (by rw [bv_size, h32.out, Z32_size]) (bv_all _) ?_; intro w9 hB9 g9; have h9 := hb2.trans (grown_below g9 (by omega) hb2.size))
  refine ret_blk rfl (w.heap.size + 1) _ _ _ (by rfl) hB9 Try.underlying23 rfl (by rw [bv_size, h32.out]; exact Try.sizeHash) rfl ?_
  exact ⟨rfl, h9⟩
end Go.Proofs.Ytnfegmcdljejnaa
