/-
  bevyref11.Context.
-/
import Derived.Test.YtnfegmcdljejnaaWireRefNum
import Derived.Test.YtnfegmcdljejnaaKeysContext
set_option linter.unusedSimpArgs false
set_option linter.unusedVariables false
namespace Go.Proofs.Ytnfegmcdljejnaa
open Go.RowKit

set_option maxHeartbeats 4000000 in
set_option maxRecDepth 100000 in
theorem RefContext_calls (a c d : List UInt8) (n : Int) (w : World) (ha : a.length = 32) (hc : c.length = 32) (hd : d.length = 32) (h0 : 0 ≤ n) (h1 : n ≤ 4611686018427387903) :
    Calls Try.prog 47 #[.agg (a.map bv).toArray, .int .i64 n, .agg (c.map bv).toArray, .agg (d.map bv).toArray] w fun e w' => e = .returned (.string (str (ctxT a n.toNat c d))) ∧ Below w.heap.size w w' := by
  have HA := Lib.hid ha
  have HC := Lib.hid hc
  have HD := Lib.hid hd
  clear ha hc hd
  have hA0 : Blk (((w.alloc (.cells (a.map bv).toArray 22)).alloc (.cells (c.map bv).toArray 22)).alloc (.cells (d.map bv).toArray 22)) w.heap.size (a.map bv).toArray 22 := ((Blk.new _ _ _).alloc _).alloc _
  have hC0 : Blk (((w.alloc (.cells (a.map bv).toArray 22)).alloc (.cells (c.map bv).toArray 22)).alloc (.cells (d.map bv).toArray 22)) (w.heap.size + 1) (c.map bv).toArray 22 := (blk_new1 _ _ _ _).alloc _
  have hD0 : Blk (((w.alloc (.cells (a.map bv).toArray 22)).alloc (.cells (c.map bv).toArray 22)).alloc (.cells (d.map bv).toArray 22)) (w.heap.size + 1 + 1) (d.map bv).toArray 22 := blk_new2 _ _ _ _ _ _ _
  have hb0 : Below w.heap.size w (((w.alloc (.cells (a.map bv).toArray 22)).alloc (.cells (c.map bv).toArray 22)).alloc (.cells (d.map bv).toArray 22)) := (((Below.refl _ _).alloc (Nat.le_refl _) _).alloc (by simp) _).alloc (by simp; omega) _
  go_enter Try.func47, Try.ntmps47
  go_wp2_with fail
  generalize ((w.alloc (.cells (a.map bv).toArray 22)).alloc (.cells (c.map bv).toArray 22)).alloc (.cells (d.map bv).toArray 22) = W0 at hA0 hC0 hD0 hb0 ⊢
  have lA := hA0.lt
  have lC := hC0.lt
  have lD := hD0.lt
  have HA0 := Lib.hid hA0
  have HC0 := Lib.hid hC0
  have HD0 := Lib.hid hD0
  have Hb0 := Lib.hid hb0
  clear hA0 hC0 hD0 hb0
  have hn8 := numB_len n.toNat
  refine wp_region_held_drew (S := fun x => Blk x w.heap.size (a.map bv).toArray 22 ∧ Blk x (w.heap.size + 1) (c.map bv).toArray 22 ∧ Blk x (w.heap.size + 1 + 1) (d.map bv).toArray 22 ∧ Below w.heap.size w x) (by kernel_rfl) ⟨HA0.out.drew, HC0.out.drew, HD0.out.drew, below_drewN Hb0.out 1⟩ (fun hHeld => ?_)
  refine wpAnyH_take (i := 0) rfl (by kernel_rfl) (by kernel_rfl) (by kernel_rfl) (fun _ _ _ h => h) (yieldsIf_load_mid (by rfl) 22 (.tmp 4) rfl w.heap.size 0 (by rfl) (a.map bv) _ (fun x hx => blk_range hx.1) Try.underlying22 rfl (by rw [List.length_map, HA.out]; exact Try.sizeA32)) hHeld ?_
  simp only [Act.put, List.setIfInBounds_toArray, List.set_cons_zero, List.set_cons_succ]
  refine wpAnyH_take (i := 5) rfl (by kernel_rfl) (by kernel_rfl) (by kernel_rfl) (fun _ _ _ h => h) (yieldsIf_load_mid (by rfl) 22 (.tmp 6) rfl (w.heap.size + 1) 0 (by rfl) (c.map bv) _ (fun x hx => blk_range hx.2.1) Try.underlying22 rfl (by rw [List.length_map, HC.out]; exact Try.sizeA32)) hHeld ?_
  simp only [Act.put, List.setIfInBounds_toArray, List.set_cons_zero, List.set_cons_succ]
  refine wpAnyH_take (i := 8) rfl (by kernel_rfl) (by kernel_rfl) (by kernel_rfl) (fun _ _ _ h => h) (yieldsIf_load_mid (by rfl) 22 (.tmp 7) rfl (w.heap.size + 1 + 1) 0 (by rfl) (d.map bv) _ (fun x hx => blk_range hx.2.2.1) Try.underlying22 rfl (by rw [List.length_map, HD.out]; exact Try.sizeA32)) hHeld ?_
  simp only [Act.put, List.setIfInBounds_toArray, List.set_cons_zero, List.set_cons_succ]
  refine wpAnyH_take (i := 2) (v := .int .i64 n) rfl (by kernel_rfl) (by kernel_rfl) (by kernel_rfl) (fun _ _ _ h => h) (Or.inl ⟨by rfl, fun x hx => by go_simp⟩) hHeld ?_
  simp only [Act.put, List.setIfInBounds_toArray, List.set_cons_zero, List.set_cons_succ]
  refine wpAnyH_ready (rs := [1]) (by kernel_rfl) (by simp) ?_
  refine AllReadyH.cons rfl (fun K hK => ?_) AllReadyH.nil
  go_simp
  go_wp2_with (go_at_call 90; refine (Text_calls a _ HA.out).mono ?_; rintro e w8 ⟨rfl, rfl⟩)
  refine hK.out _ _ ⟨hHeld.1.alloc _, hHeld.2.1.alloc _, hHeld.2.2.1.alloc _, hHeld.2.2.2.alloc hHeld.2.2.2.size _⟩ (fun hHeld2 => ?_)
  clear hK K hHeld
  refine wpAnyH_ready (rs := [3]) (by kernel_rfl) (by simp) ?_
  refine AllReadyH.cons rfl (fun K hK => ?_) AllReadyH.nil
  go_simp
  go_wp2_with (go_at_call 97; refine (RefNum_calls n _ h0 h1).mono ?_; rintro e w9 ⟨rfl, b9⟩)
  have s9 := hHeld2.2.2.2.size
  refine hK.out _ _ ⟨hHeld2.1.below b9 hHeld2.1.lt, hHeld2.2.1.below b9 hHeld2.2.1.lt, hHeld2.2.2.1.below b9 hHeld2.2.2.1.lt, hHeld2.2.2.2.trans (b9.mono s9)⟩ (fun hHeld3 => ?_)
  clear hK K hHeld2
  refine wpAnyH_take (i := 4) (v := .string (str (a ++ numB n.toNat))) rfl (by kernel_rfl) (by kernel_rfl) (by kernel_rfl) (fun _ _ _ h => h) (Or.inl ⟨by rfl, fun x hx => by go_simp; rw [HA.out]; omega⟩) hHeld3 ?_
  simp only [Act.put, List.setIfInBounds_toArray, List.set_cons_zero, List.set_cons_succ]
  refine wpAnyH_ready (rs := [6]) (by kernel_rfl) (by simp) ?_
  refine AllReadyH.cons rfl (fun K hK => ?_) AllReadyH.nil
  go_simp
  go_wp2_with (go_at_call 90; refine (Text_calls c _ HC.out).mono ?_; rintro e w10 ⟨rfl, rfl⟩)
  refine hK.out _ _ ⟨hHeld3.1.alloc _, hHeld3.2.1.alloc _, hHeld3.2.2.1.alloc _, hHeld3.2.2.2.alloc hHeld3.2.2.2.size _⟩ (fun hHeld4 => ?_)
  clear hK K hHeld3
  refine wpAnyH_take (i := 7) (v := .string (str (a ++ numB n.toNat ++ c))) rfl (by kernel_rfl) (by kernel_rfl) (by kernel_rfl) (fun _ _ _ h => h) (Or.inl ⟨by rfl, fun x hx => by go_simp; rw [HA.out, HC.out]; omega⟩) hHeld4 ?_
  simp only [Act.put, List.setIfInBounds_toArray, List.set_cons_zero, List.set_cons_succ]
  refine wpAnyH_ready (rs := [9]) (by kernel_rfl) (by simp) ?_
  refine AllReadyH.cons rfl (fun K hK => ?_) AllReadyH.nil
  go_simp
  go_wp2_with (go_at_call 90; refine (Text_calls d _ HD.out).mono ?_; rintro e w11 ⟨rfl, rfl⟩)
  refine hK.out _ _ ⟨hHeld4.1.alloc _, hHeld4.2.1.alloc _, hHeld4.2.2.1.alloc _, hHeld4.2.2.2.alloc hHeld4.2.2.2.size _⟩ (fun hHeld5 => ?_)
  clear hK K hHeld4
  refine wpAnyH_take (i := 10) (v := .string (str (ctxT a n.toNat c d))) rfl (by kernel_rfl) (by kernel_rfl) (by kernel_rfl) (fun _ _ _ h => h) (Or.inl ⟨by rfl, fun x hx => by go_simp; simp only [ctxT, List.append_assoc]; first | done | (rw [if_neg (by rw [HA.out, HC.out, HD.out]; omega)])⟩) hHeld5 ?_
  simp only [Act.put, List.setIfInBounds_toArray, List.set_cons_zero, List.set_cons_succ]
  refine wpAnyH_ready (rs := [11]) (by kernel_rfl) (by simp) ?_
  refine AllReadyH.cons rfl (fun K hK => ?_) AllReadyH.nil
  go_simp
  refine hK.out _ _ hHeld5 (fun hHeld6 => ?_)
  clear hK K hHeld5
  refine wpAnyH_done (by kernel_rfl) ?_ _
  go_wp2_with fail
  go_returns
  exact ⟨rfl, hHeld6.2.2.2⟩
end Go.Proofs.Ytnfegmcdljejnaa
