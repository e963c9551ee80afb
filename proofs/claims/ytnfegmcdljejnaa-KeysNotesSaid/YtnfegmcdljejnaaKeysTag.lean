/-
  keys.Tag.
-/
import Derived.Test.YtnfegmcdljejnaaPrimDerive
set_option linter.unusedSimpArgs false
set_option linter.unusedVariables false
namespace Go.Proofs.Ytnfegmcdljejnaa
open Go.RowKit

def tagT (confirm said : List UInt8) : List UInt8 := hmac confirm ([116, 97, 103] ++ said)
set_option maxHeartbeats 4000000 in
set_option maxRecDepth 100000 in
theorem Tag_calls (a c : List UInt8) (w : World) (ha : a.length = 32) (hc : c.length = 32) :
    Calls Try.prog 26 #[.agg (a.map bv).toArray, .agg (c.map bv).toArray] w fun e w' => e = .returned (.agg ((tagT a c).map bv).toArray) ∧ Below w.heap.size w w' := by
  have HA := Lib.hid ha
  have HC := Lib.hid hc
  clear ha hc
  have hA0 : Blk (((w.alloc (.cells (a.map bv).toArray 23)).alloc (.cells (c.map bv).toArray 23)).alloc (.cells Z32 23)) w.heap.size (a.map bv).toArray 23 := ((Blk.new _ _ _).alloc _).alloc _
  have hC0 : Blk (((w.alloc (.cells (a.map bv).toArray 23)).alloc (.cells (c.map bv).toArray 23)).alloc (.cells Z32 23)) (w.heap.size + 1) (c.map bv).toArray 23 := (blk_new1 _ _ _ _).alloc _
  have hR0 : Blk (((w.alloc (.cells (a.map bv).toArray 23)).alloc (.cells (c.map bv).toArray 23)).alloc (.cells Z32 23)) (w.heap.size + 1 + 1) Z32 23 := by
    have := Blk.new ((w.alloc (.cells (a.map bv).toArray 23)).alloc (.cells (c.map bv).toArray 23)) Z32 23
    rwa [show ((w.alloc (.cells (a.map bv).toArray 23)).alloc (.cells (c.map bv).toArray 23)).heap.size = w.heap.size + 1 + 1 by simp] at this
  have hb0 : Below w.heap.size w (((w.alloc (.cells (a.map bv).toArray 23)).alloc (.cells (c.map bv).toArray 23)).alloc (.cells Z32 23)) := (((Below.refl _ _).alloc (Nat.le_refl _) _).alloc (by simp) _).alloc (by simp; omega) _
  go_enter Try.func26, Try.ntmps26
  go_wp2_with fail
  generalize ((w.alloc (.cells (a.map bv).toArray 23)).alloc (.cells (c.map bv).toArray 23)).alloc (.cells Z32 23) = W0 at hA0 hC0 hR0 hb0 ⊢
  have hs0 : w.heap.size + 1 + 1 < W0.heap.size := Blk.lt hR0
  have hcvA : (convert 120 9 (.slice (some ⟨w.heap.size, 0, none⟩) 32 32)).run Try.prog W0.drew = .ok (.string (str a)) W0.drew := conv_blk HA.out (Blk.drew hA0)
  have hcvC : (convert 120 9 (.slice (some ⟨w.heap.size + 1, 0, none⟩) 32 32)).run Try.prog W0.drew = .ok (.string (str c)) W0.drew := conv_blk HC.out (Blk.drew hC0)
  have hcvA1 : (convert 120 9 (.slice (some ⟨w.heap.size, 0, none⟩) 32 32)).run Try.prog (W0.alloc (.cells #[.string ⟨#[116, 97, 103]⟩, .string (str c)] 9)).drew = .ok (.string (str a)) (W0.alloc (.cells #[.string ⟨#[116, 97, 103]⟩, .string (str c)] 9)).drew := conv_blk HA.out (Blk.drew (Blk.alloc hA0 _))
  have HR0 := Lib.hid hR0
  have Hb0 := Lib.hid hb0
  have hst : StrsAt (W0.drew.alloc (.cells #[.string (str [116, 97, 103]), .string (str c)] 9)) (some ⟨W0.drew.heap.size, 0, none⟩) 2 [[116, 97, 103], c] := StrsAt.blk [[116, 97, 103], c] (Blk.new W0.drew #[.string (str [116, 97, 103]), .string (str c)] 9)
  have HST := Lib.hid hst
  clear hA0 hC0 hR0 hb0 hst
  go_region_with (first | (go_at_call 88; refine (Code_calls a _ 0 2 _ [[116, 97, 103], c] _ (by rw [HA.out]; omega) HST.out (by omega) (by simp [HC.out]) (by omega)).mono ?_; rintro e w8 ⟨rfl, b8⟩; have hR8 := Blk.below (Blk.alloc (Blk.drew HR0.out) (.cells #[.string (str [116, 97, 103]), .string (str c)] 9)) b8 (Blk.lt (Blk.alloc (Blk.drew HR0.out) _)); have hB8 : Hid (Below w.heap.size w w8) := ((below_drewN Hb0.out 1).alloc Hb0.out.size (.cells #[.string (str [116, 97, 103]), .string (str c)] 9)).trans (b8.mono (by simp; omega)); have hfin : Hid (hmac a [[116, 97, 103], c].flatten = tagT a c) := (by show _ = _; simp only [List.flatten_cons, List.flatten_nil, List.append_nil]; rfl); rw [hfin.out]; have hst9 := store32 (P := Try.prog) (h := tagT a c) (hmac_len _ _) hR8; have HR8 := Lib.hid hR8; clear b8 hR8 hfin) | fail)
  all_goals
    have hB9 := Blk.setRow HR8.out ((tagT a c).map bv).toArray
    have h9 := hB8.out.trans (grown_below (grown_row w8 (w.heap.size + 1 + 1) ((tagT a c).map bv).toArray) (by omega) hB8.out.size)
    have h32 : Hid ((tagT a c).length = 32) := hmac_len _ _
    go_wp2_with fail
    refine ret_blk rfl (w.heap.size + 1 + 1) _ _ _ (by rfl) hB9 Try.underlying23 rfl (by rw [bv_size, h32.out]; exact Try.sizeHash) rfl ?_
    exact ⟨rfl, h9⟩
end Go.Proofs.Ytnfegmcdljejnaa
