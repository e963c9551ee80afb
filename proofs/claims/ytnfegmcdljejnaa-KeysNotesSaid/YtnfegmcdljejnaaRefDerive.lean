/-
  The document's Derive; keys of two: Mix.
-/
import Derived.Test.YtnfegmcdljejnaaFour
set_option linter.unusedSimpArgs false
set_option linter.unusedVariables false
namespace Go.Proofs.Ytnfegmcdljejnaa
open Go.RowKit

set_option maxHeartbeats 4000000 in
set_option maxRecDepth 100000 in
theorem RefDerive_calls (key label context : List UInt8) (w : World) (hk : key.length = 32) (hl : label.length ≤ 68719476736) (hc : context.length ≤ 68719476736) :
    Calls Try.prog 93 #[.agg (key.map bv).toArray, .string (str label), .string (str context)] w fun e w' => e = .returned (.agg ((derive key label context).map bv).toArray) ∧ Below w.heap.size w w' := by
  have HK := Lib.hid hk
  clear hk
  have hf4 : (four4 label.length).length ≤ 4 := by simp [four4]
  go_enter Try.func93, Try.ntmps93
  go_wp2_with fail
  have hB0 : Blk ((w.alloc (.cells (key.map bv).toArray 22)).alloc (.cells Z32 22)) w.heap.size (key.map bv).toArray 22 := (Blk.new _ _ _).alloc _
  have hR0 : Blk ((w.alloc (.cells (key.map bv).toArray 22)).alloc (.cells Z32 22)) (w.heap.size + 1) Z32 22 := blk_new1 _ _ _ _
  have hb0 : Below w.heap.size w ((w.alloc (.cells (key.map bv).toArray 22)).alloc (.cells Z32 22)) := ((Below.refl _ _).alloc (Nat.le_refl _) _).alloc (by simp) _
  generalize (w.alloc (.cells (key.map bv).toArray 22)).alloc (.cells Z32 22) = W0 at hB0 hR0 hb0 ⊢
  have hs0 : w.heap.size + 1 < W0.heap.size := Blk.lt hR0
  have hcv0 : (convert 120 9 (.slice (some ⟨w.heap.size, 0, none⟩) 32 32)).run Try.prog W0.drew = .ok (.string (str key)) W0.drew := conv_blk HK.out (Blk.drew hB0)
  have HB0 := Lib.hid hB0
  have HR0 := Lib.hid hR0
  have Hb0 := Lib.hid hb0
  clear hB0 hR0 hb0
  go_region_with (first | (go_at_call 137; refine (RefFour_calls label.length _ (by omega)).mono ?_; rintro e w8 ⟨rfl, b8⟩; have HB8 := Lib.hid (Blk.below (Blk.drew HB0.out) b8 (Blk.lt HB0.out)); have HR8 := Lib.hid (Blk.below (Blk.drew HR0.out) b8 (Blk.lt HR0.out)); have Hb8 : Hid (Below w.heap.size w w8) := (below_drewN Hb0.out 1).trans (b8.mono (by simp; omega)); have hcv8 : (convert 120 9 (.slice (some ⟨w.heap.size, 0, none⟩) 32 32)).run Try.prog w8 = .ok (.string (str key)) w8 := conv_blk HK.out HB8.out; have hs8 : w.heap.size + 1 < w8.heap.size := Blk.lt HR8.out; clear b8) | (go_at_call 89; refine (RefCode_calls key (four4 label.length ++ (label ++ context)) _ (by rw [HK.out]; omega) (by simp only [List.length_append]; omega)).mono ?_; rintro e w9 ⟨rfl, b9⟩; have hR9 := Blk.below HR8.out b9 (Blk.lt HR8.out); have Hb9 : Hid (Below w.heap.size w w9) := Hb8.out.trans (b9.mono (by omega)); have hst9 := store32 (P := Try.prog) (hmac_len key (four4 label.length ++ (label ++ context))) hR9; have HR9 := Lib.hid hR9; clear b9 hR9))
  all_goals
    have hB9 := Blk.setRow HR9.out ((hmac key (four4 label.length ++ (label ++ context))).map bv).toArray
    have h9 := Hb9.out.trans (grown_below (grown_row w9 (w.heap.size + 1) ((hmac key (four4 label.length ++ (label ++ context))).map bv).toArray) (by omega) Hb9.out.size)
    go_wp2_with fail
    refine ret_blk rfl (w.heap.size + 1) _ _ _ (by rfl) hB9 Try.underlying22 rfl (by rw [bv_size, hmac_len]; exact Try.sizeA32) rfl ?_
    exact ⟨rfl, h9⟩
end Go.Proofs.Ytnfegmcdljejnaa
