/-
  bevyref11.Tag.
-/
import Derived.Test.YtnfegmcdljejnaaRefText
set_option linter.unusedSimpArgs false
set_option linter.unusedVariables false
namespace Go.Proofs.Ytnfegmcdljejnaa
open Go.RowKit

theorem blk_range {w : World} {b : Nat} {cs : List Value} {t : TypeId} (h : Blk w b cs.toArray t) : w.rangeAt b 0 cs := fun j v hj => by
  rw [Nat.zero_add]
  exact h.cell j v (by rw [List.getElem?_toArray]; exact hj)
set_option maxHeartbeats 4000000 in
set_option maxRecDepth 100000 in
theorem RefTag_calls (a c : List UInt8) (w : World) (ha : a.length = 32) (hc : c.length = 32) :
    Calls Try.prog 27 #[.agg (a.map bv).toArray, .agg (c.map bv).toArray] w fun e w' => e = .returned (.agg ((tagT a c).map bv).toArray) ∧ Below w.heap.size w w' := by
  have HA := Lib.hid ha
  have HC := Lib.hid hc
  clear ha hc
  have hstr : ((⟨#[116, 97, 103]⟩ : ByteArray) ++ str c) = str ([116, 97, 103] ++ c) := by
    rw [← str_append]; rfl
  have hA0 : Blk (((w.alloc (.cells (a.map bv).toArray 22)).alloc (.cells (c.map bv).toArray 22)).alloc (.cells Z32 22)) w.heap.size (a.map bv).toArray 22 := ((Blk.new _ _ _).alloc _).alloc _
  have hC0 : Blk (((w.alloc (.cells (a.map bv).toArray 22)).alloc (.cells (c.map bv).toArray 22)).alloc (.cells Z32 22)) (w.heap.size + 1) (c.map bv).toArray 22 := (blk_new1 _ _ _ _).alloc _
  have hR0 : Blk (((w.alloc (.cells (a.map bv).toArray 22)).alloc (.cells (c.map bv).toArray 22)).alloc (.cells Z32 22)) (w.heap.size + 1 + 1) Z32 22 := by
    have := Blk.new ((w.alloc (.cells (a.map bv).toArray 22)).alloc (.cells (c.map bv).toArray 22)) Z32 22
    rwa [show ((w.alloc (.cells (a.map bv).toArray 22)).alloc (.cells (c.map bv).toArray 22)).heap.size = w.heap.size + 1 + 1 by simp] at this
  have hb0 : Below w.heap.size w (((w.alloc (.cells (a.map bv).toArray 22)).alloc (.cells (c.map bv).toArray 22)).alloc (.cells Z32 22)) := (((Below.refl _ _).alloc (Nat.le_refl _) _).alloc (by simp) _).alloc (by simp; omega) _
  go_enter Try.func27, Try.ntmps27
  go_wp2_with fail
  generalize ((w.alloc (.cells (a.map bv).toArray 22)).alloc (.cells (c.map bv).toArray 22)).alloc (.cells Z32 22) = W0 at hA0 hC0 hR0 hb0 ⊢
  have hs0 : w.heap.size + 1 + 1 < W0.heap.size := Blk.lt hR0
  have HR0 := Lib.hid hR0
  have HA0 := Lib.hid hA0
  have HC0 := Lib.hid hC0
  have Hb0 := Lib.hid hb0
  clear hA0 hC0 hR0 hb0
  refine wp_region_held_drew (S := fun x => Blk x w.heap.size (a.map bv).toArray 22 ∧ Blk x (w.heap.size + 1) (c.map bv).toArray 22 ∧ Below w.heap.size w x) (by kernel_rfl) ⟨HA0.out.drew, HC0.out.drew, below_drewN Hb0.out 1⟩ (fun hHeld => ?_)
  refine wpAnyH_take (i := 0) rfl (by kernel_rfl) (by kernel_rfl) (by kernel_rfl) (fun _ _ _ h => h) (yieldsIf_load_mid (by rfl) 22 (.tmp 2) rfl w.heap.size 0 (by rfl) (a.map bv) _ (fun x hx => blk_range hx.1) Try.underlying22 rfl (by rw [List.length_map, HA.out]; exact Try.sizeA32)) hHeld ?_
  simp only [Act.put, List.setIfInBounds_toArray, List.set_cons_zero, List.set_cons_succ]
  refine wpAnyH_take (i := 2) rfl (by kernel_rfl) (by kernel_rfl) (by kernel_rfl) (fun _ _ _ h => h) (yieldsIf_load_mid (by rfl) 22 (.tmp 3) rfl (w.heap.size + 1) 0 (by rfl) (c.map bv) _ (fun x hx => blk_range hx.2.1) Try.underlying22 rfl (by rw [List.length_map, HC.out]; exact Try.sizeA32)) hHeld ?_
  simp only [Act.put, List.setIfInBounds_toArray, List.set_cons_zero, List.set_cons_succ]
  refine wpAnyH_ready (rs := [1]) (by kernel_rfl) (by simp) ?_
  refine AllReadyH.cons rfl (fun K hK => ?_) AllReadyH.nil
  go_simp
  go_wp2_with (go_at_call 90; refine (Text_calls a _ HA.out).mono ?_; rintro e w8 ⟨rfl, rfl⟩)
  refine hK.out _ _ ⟨hHeld.1.alloc _, hHeld.2.1.alloc _, hHeld.2.2.alloc hHeld.2.2.size _⟩ (fun hHeld2 => ?_)
  clear hK K hHeld
  refine wpAnyH_ready (rs := [3]) (by kernel_rfl) (by simp) ?_
  refine AllReadyH.cons rfl (fun K hK => ?_) AllReadyH.nil
  go_simp
  go_wp2_with (go_at_call 90; refine (Text_calls c _ HC.out).mono ?_; rintro e w9 ⟨rfl, rfl⟩)
  refine hK.out _ _ ⟨hHeld2.1.alloc _, hHeld2.2.1.alloc _, hHeld2.2.2.alloc hHeld2.2.2.size _⟩ (fun hHeld3 => ?_)
  clear hK K hHeld2
  have hR1 : Blk ((W0.alloc (.cells (a.map bv).toArray 22)).alloc (.cells (c.map bv).toArray 22)).drew (w.heap.size + 1 + 1) Z32 22 := ((HR0.out.alloc _).alloc _).drew
  generalize ((W0.alloc (.cells (a.map bv).toArray 22)).alloc (.cells (c.map bv).toArray 22)).drew = W1 at hHeld3 hR1 ⊢
  refine wpAnyH_ready (rs := [4]) (by kernel_rfl) (by simp) ?_
  refine AllReadyH.cons rfl (fun K hK => ?_) AllReadyH.nil
  go_simp
  rw [if_neg (by rw [HC.out]; omega)]
  go_simp
  refine hK.out _ _ hHeld3 (fun hHeld4 => ?_)
  clear hK K hHeld3
  refine wpAnyH_ready (rs := [5]) (by kernel_rfl) (by simp) ?_
  refine AllReadyH.cons rfl (fun K hK => ?_) AllReadyH.nil
  go_simp
  go_wp2_with (go_at_call 89; refine (RefCode_calls a (116 :: 97 :: 103 :: c) _ (by rw [HA.out]; omega) (by simp [HC.out])).mono ?_; rintro e w8 ⟨rfl, b8⟩)
  have h8 := hHeld4.2.2.trans (b8.mono hHeld4.2.2.size)
  have hR8 := Blk.below hR1 b8 (Blk.lt hR1)
  refine hK.out _ _ ⟨Blk.below hHeld4.1 b8 (Blk.lt hHeld4.1), Blk.below hHeld4.2.1 b8 (Blk.lt hHeld4.2.1), h8⟩ (fun hHeld5 => ?_)
  clear hK K hHeld4
  have hst9 := store32 (P := Try.prog) (h := tagT a c) (hmac_len _ _) hR8
  refine wpAnyH_ready (rs := [6]) (by kernel_rfl) (by simp) ?_
  refine AllReadyH.cons rfl (fun K hK => ?_) AllReadyH.nil
  rw [show hmac a (116 :: 97 :: 103 :: c) = tagT a c from rfl]
  go_simp
  rw [if_pos (show (tagT a c).length = 32 from hmac_len _ _)]
  go_simp
  have g9 := grown_row w8 (w.heap.size + 1 + 1) ((tagT a c).map bv).toArray
  have hB9 := Blk.setRow hR8 ((tagT a c).map bv).toArray
  have h9 := hHeld5.2.2.trans (grown_below g9 (by omega) hHeld5.2.2.size)
  have h32 : Hid ((tagT a c).length = 32) := hmac_len _ _
  refine hK.out _ _ ⟨Blk.grown hHeld5.1 g9 (by simp; omega), Blk.grown hHeld5.2.1 g9 (by simp), h9⟩ (fun hHeld6 => ?_)
  clear hK K hHeld5
  refine wpAnyH_done (by kernel_rfl) ?_ _
  go_wp2_with fail
  refine ret_blk rfl (w.heap.size + 1 + 1) _ _ _ (by rfl) hB9 Try.underlying22 rfl (by rw [bv_size, h32.out]; exact Try.sizeA32) rfl ?_
  exact ⟨rfl, h9⟩
end Go.Proofs.Ytnfegmcdljejnaa
