/-
  bevyref11.App.
-/
import Derived.Test.YtnfegmcdljejnaaWireRefNum
import Derived.Test.YtnfegmcdljejnaaKeysApp
set_option linter.unusedSimpArgs false
set_option linter.unusedVariables false
namespace Go.Proofs.Ytnfegmcdljejnaa
open Go.RowKit

set_option maxHeartbeats 4000000 in
set_option maxRecDepth 100000 in
theorem RefApp_calls (a : List UInt8) (n : Int) (w : World) (ha : a.length = 32) (h0 : 0 ≤ n) (h1 : n ≤ 4611686018427387903) :
    Calls Try.prog 33 #[.agg (a.map bv).toArray, .int .i64 n] w fun e w' => e = .returned (.agg ((appT a n.toNat).map bv).toArray) ∧ Below w.heap.size w w' := by
  have HA := Lib.hid ha
  clear ha
  have hA0 : Blk ((w.alloc (.cells (a.map bv).toArray 22)).alloc (.cells Z32 22)) w.heap.size (a.map bv).toArray 22 := (Blk.new _ _ _).alloc _
  have hR0 : Blk ((w.alloc (.cells (a.map bv).toArray 22)).alloc (.cells Z32 22)) (w.heap.size + 1) Z32 22 := blk_new1 _ _ _ _
  have hb0 : Below w.heap.size w ((w.alloc (.cells (a.map bv).toArray 22)).alloc (.cells Z32 22)) := ((Below.refl _ _).alloc (Nat.le_refl _) _).alloc (by simp) _
  go_enter Try.func33, Try.ntmps33
  go_wp2_with fail
  generalize (w.alloc (.cells (a.map bv).toArray 22)).alloc (.cells Z32 22) = W0 at hA0 hR0 hb0 ⊢
  have HA0 := Lib.hid hA0
  have HR0 := Lib.hid hR0
  have Hb0 := Lib.hid hb0
  clear hA0 hR0 hb0
  have hn8 := numB_len n.toNat
  refine wp_region_held_drew (S := fun x => Blk x w.heap.size (a.map bv).toArray 22 ∧ Below w.heap.size w x) (by kernel_rfl) ⟨HA0.out.drew, below_drewN Hb0.out 1⟩ (fun hHeld => ?_)
  refine wpAnyH_take (i := 0) rfl (by kernel_rfl) (by kernel_rfl) (by kernel_rfl) (fun _ _ _ h => h) (yieldsIf_load_mid (by rfl) 22 (.tmp 2) rfl w.heap.size 0 (by rfl) (a.map bv) _ (fun x hx => blk_range hx.1) Try.underlying22 rfl (by rw [List.length_map, HA.out]; exact Try.sizeA32)) hHeld ?_
  simp only [Act.put, List.setIfInBounds_toArray, List.set_cons_zero, List.set_cons_succ]
  refine wpAnyH_take (i := 1) (v := .int .i64 n) rfl (by kernel_rfl) (by kernel_rfl) (by kernel_rfl) (fun _ _ _ h => h) (Or.inl ⟨by rfl, fun x hx => by go_simp⟩) hHeld ?_
  simp only [Act.put, List.setIfInBounds_toArray, List.set_cons_zero, List.set_cons_succ]
  refine wpAnyH_ready (rs := [2]) (by kernel_rfl) (by simp) ?_
  refine AllReadyH.cons rfl (fun K hK => ?_) AllReadyH.nil
  go_simp
  go_wp2_with (go_at_call 97; refine (RefNum_calls n _ h0 h1).mono ?_; rintro e w8 ⟨rfl, b8⟩)
  have hR8 := HR0.out.drew.below b8 HR0.out.drew.lt
  refine hK.out _ _ ⟨hHeld.1.below b8 hHeld.1.lt, hHeld.2.trans (b8.mono hHeld.2.size)⟩ (fun hHeld2 => ?_)
  clear hK K hHeld
  refine wpAnyH_ready (rs := [3]) (by kernel_rfl) (by simp) ?_
  refine AllReadyH.cons rfl (fun K hK => ?_) AllReadyH.nil
  go_simp
  go_wp2_with (go_at_call 93; refine (RefDerive_calls a [97, 112, 112] (numB n.toNat) _ HA.out (by simp) (by omega)).mono ?_; rintro e w9 ⟨rfl, b9⟩)
  have hR9 := hR8.below b9 hR8.lt
  refine hK.out _ _ ⟨hHeld2.1.below b9 hHeld2.1.lt, hHeld2.2.trans (b9.mono hHeld2.2.size)⟩ (fun hHeld3 => ?_)
  clear hK K hHeld2
  have hst9 := store32 (P := Try.prog) (h := appT a n.toNat) (hmac_len _ _) hR9
  refine wpAnyH_ready (rs := [4]) (by kernel_rfl) (by simp) ?_
  refine AllReadyH.cons rfl (fun K hK => ?_) AllReadyH.nil
  rw [show derive a [97, 112, 112] (numB n.toNat) = appT a n.toNat from rfl]
  go_simp
  rw [if_pos (show (appT a n.toNat).length = 32 from hmac_len _ _)]
  go_simp
  have g9 := grown_row w9 (w.heap.size + 1) ((appT a n.toNat).map bv).toArray
  have hB9 := Blk.setRow hR9 ((appT a n.toNat).map bv).toArray
  have h9 := hHeld3.2.trans (grown_below g9 (by omega) hHeld3.2.size)
  have h32 : Hid ((appT a n.toNat).length = 32) := hmac_len _ _
  refine hK.out _ _ ⟨Blk.grown hHeld3.1 g9 (by simp), h9⟩ (fun hHeld4 => ?_)
  clear hK K hHeld3
  refine wpAnyH_done (by kernel_rfl) ?_ _
  go_wp2_with fail
  refine ret_blk rfl (w.heap.size + 1) _ _ _ (by rfl) hB9 Try.underlying22 rfl (by rw [bv_size, h32.out]; exact Try.sizeA32) rfl ?_
  exact ⟨rfl, h9⟩
end Go.Proofs.Ytnfegmcdljejnaa
