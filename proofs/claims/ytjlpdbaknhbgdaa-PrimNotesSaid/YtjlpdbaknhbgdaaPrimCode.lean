/-
  prim.code, Sign, Check.
-/
import Derived.Test.YtjlpdbaknhbgdaaRefPrim1
import Derived.Test.YtjlpdbaknhbgdaaRd
set_option linter.unusedSimpArgs false
set_option linter.unusedVariables false
namespace Go.Proofs.Ytjlpdbaknhbgdaa
open Go.RowKit

set_option maxHeartbeats 4000000 in
set_option maxRecDepth 100000 in
theorem code_calls (a s : List UInt8) (w : World) (ha : a.length = 32) (hs : s.length ≤ 5000) :
    Calls Try.prog 42 #[.agg (a.map bv).toArray, .string (str s)] w fun e w' => e = .returned (.agg ((signT a s).map bv).toArray) ∧ Below w.heap.size w w' := by
  have HA := Lib.hid ha
  clear ha
  have hA0 : Blk ((w.alloc (.cells (a.map bv).toArray 26)).alloc (.cells Z32 26)) w.heap.size (a.map bv).toArray 26 := (Blk.new _ _ _).alloc _
  have hR0 : Blk ((w.alloc (.cells (a.map bv).toArray 26)).alloc (.cells Z32 26)) (w.heap.size + 1) Z32 26 := blk_new1 _ _ _ _
  have hb0 : Below w.heap.size w ((w.alloc (.cells (a.map bv).toArray 26)).alloc (.cells Z32 26)) := ((Below.refl _ _).alloc (Nat.le_refl _) _).alloc (by simp) _
  have hcv := conv_blk HA.out hA0
  go_enter Try.func42, Try.ntmps42
  go_wp2_with fail
  generalize hW : (w.alloc (.cells (a.map bv).toArray 26)).alloc (.cells Z32 26) = W0 at hA0 hR0 hb0
  have hs0 : W0.heap.size = w.heap.size + 1 + 1 := by rw [← hW]; simp
  have hst : StrsAt (W0.alloc (.cells #[.string ⟨#[115, 105, 103, 110]⟩, .string (str s)] 9)) (some ⟨w.heap.size + 1 + 1, 0, none⟩) 2 [[115, 105, 103, 110], s] := by
    rw [← hs0]
    exact StrsAt.blk [[115, 105, 103, 110], s] (Blk.new W0 #[.string (str [115, 105, 103, 110]), .string (str s)] 9)
  refine (Code_calls a _ 0 2 2 [[115, 105, 103, 110], s] _ (by rw [HA.out]; omega) hst (by omega) (by simp; omega) (by omega)).mono ?_
  rintro e w2 ⟨rfl, b2⟩
  have hR2 := Blk.below (hR0.alloc (.cells #[.string ⟨#[115, 105, 103, 110]⟩, .string (str s)] 9)) b2 (Blk.lt (hR0.alloc _))
  have hb1 := hb0.alloc hb0.size (.cells #[.string ⟨#[115, 105, 103, 110]⟩, .string (str s)] 9)
  have hb2 := hb1.trans (b2.mono hb1.size)
  rw [show hmac a [[115, 105, 103, 110], s].flatten = signT a s from by simp only [signT, List.flatten_cons, List.flatten_nil, List.append_nil, List.append_assoc]]
  have h32 : Hid ((signT a s).length = 32) := signT_len _ _
  clear hR0 hb0 hA0 hb1 b2 hst hcv hs0 hW
  go_wp2_with ((with_reducible show wpList _ _ _ (⟨none, Op.store _ (.tmp 4) _, _, _, _, _⟩ :: _) _ _); refine wpList_storeBlk rfl 26 (.tmp 4) (.tmp 9) rfl (w.heap.size + 1) ((signT a s).map bv).toArray (by rfl) (by rfl) _ _ hR2 (by rw [bv_size, h32.out]; exact Try.sizeHash) (by rw [bv_size, h32.out, Z32_size]) (bv_all _) ?_; intro w9 hB9 g9; have h9 := hb2.trans (grown_below g9 (by omega) hb2.size))
  refine ret_blk rfl (w.heap.size + 1) _ _ _ (by rfl) hB9 Try.underlying26 rfl (by rw [bv_size, h32.out]; exact Try.sizeHash) rfl ?_
  exact ⟨rfl, h9⟩

set_option maxHeartbeats 4000000 in
set_option maxRecDepth 100000 in
theorem Sign_calls (a s : List UInt8) (w : World) (ha : a.length = 32) (hs : s.length ≤ 5000) :
    Calls Try.prog 24 #[.agg (a.map bv).toArray, .string (str s)] w fun e w' => e = .returned (.agg ((signT (verT a) s).map bv).toArray) ∧ Below w.heap.size w w' := by
  have HA := Lib.hid ha
  clear ha
  have hA0 : Blk ((w.alloc (.cells (a.map bv).toArray 26)).alloc (.cells Z32 26)) w.heap.size (a.map bv).toArray 26 := (Blk.new _ _ _).alloc _
  have hR0 : Blk ((w.alloc (.cells (a.map bv).toArray 26)).alloc (.cells Z32 26)) (w.heap.size + 1) Z32 26 := blk_new1 _ _ _ _
  have hb0 : Below w.heap.size w ((w.alloc (.cells (a.map bv).toArray 26)).alloc (.cells Z32 26)) := ((Below.refl _ _).alloc (Nat.le_refl _) _).alloc (by simp) _
  obtain ⟨v, hv⟩ : ∃ v, v = verT a := ⟨_, rfl⟩
  obtain ⟨t, ht⟩ : ∃ t, t = signT v s := ⟨_, rfl⟩
  have HV : Hid (v.length = 32) := by rw [hv]; exact verT_len _
  have h32 : Hid (t.length = 32) := by rw [ht]; exact signT_len _ _
  have c1 : ∀ x, Calls Try.prog 23 #[.agg (a.map bv).toArray] x fun e w' => e = .returned (.agg (v.map bv).toArray) ∧ Below x.heap.size x w' := by rw [hv]; exact fun x => Verify_calls a x HA.out
  have c2 : ∀ x, Calls Try.prog 42 #[.agg (v.map bv).toArray, .string (str s)] x fun e w' => e = .returned (.agg (t.map bv).toArray) ∧ Below x.heap.size x w' := by rw [ht]; exact fun x => code_calls v s x HV.out hs
  rw [← hv, ← ht]
  clear hv ht
  go_enter Try.func24, Try.ntmps24
  go_wp2_with ((with_reducible show wpList _ _ _ (⟨some 5, _, _, _, _, _⟩ :: _) _ _); refine wpList_loadBlk rfl 26 (.tmp 2) rfl w.heap.size (by rfl) _ _ _ hA0 Try.underlying26 rfl (by rw [bv_size, HA.out]; exact Try.sizeHash) ?_)
  generalize (w.alloc (.cells (a.map bv).toArray 26)).alloc (.cells Z32 26) = W0 at hA0 hR0 hb0 ⊢
  refine (c1 _).mono ?_
  rintro e w1 ⟨rfl, b1⟩
  have hR1 := hR0.below b1 hR0.lt
  have hb1 := hb0.trans (b1.mono hb0.size)
  clear hA0 hR0 hb0 b1
  go_wp2_with fail
  refine (c2 _).mono ?_
  rintro e w2 ⟨rfl, b2⟩
  have hR2 := hR1.below b2 hR1.lt
  have hb2 := hb1.trans (b2.mono hb1.size)
  clear hR1 hb1 b2 c1 c2
  go_wp2_with ((with_reducible show wpList _ _ _ (⟨none, Op.store _ (.tmp 4) _, _, _, _, _⟩ :: _) _ _); refine wpList_storeBlk rfl 26 (.tmp 4) (.tmp 8) rfl (w.heap.size + 1) (t.map bv).toArray (by rfl) (by rfl) _ _ hR2 (by rw [bv_size, h32.out]; exact Try.sizeHash) (by rw [bv_size, h32.out, Z32_size]) (bv_all _) ?_; intro w9 hB9 g9; have h9 := hb2.trans (grown_below g9 (by omega) hb2.size))
  refine ret_blk rfl (w.heap.size + 1) _ _ _ (by rfl) hB9 Try.underlying26 rfl (by rw [bv_size, h32.out]; exact Try.sizeHash) rfl ?_
  exact ⟨rfl, h9⟩

set_option maxHeartbeats 4000000 in
set_option maxRecDepth 100000 in
theorem Check_calls (a s c : List UInt8) (w : World) (ha : a.length = 32) (hs : s.length ≤ 5000) (hc : c.length = 32) :
    Calls Try.prog 22 #[.agg (a.map bv).toArray, .string (str s), .agg (c.map bv).toArray] w fun e w' => e = .returned (.bool (signT a s == c)) ∧ Below w.heap.size w w' := by
  have HA := Lib.hid ha
  have HC := Lib.hid hc
  clear ha hc
  have hA0 : Blk ((w.alloc (.cells (a.map bv).toArray 26)).alloc (.cells (c.map bv).toArray 26)) w.heap.size (a.map bv).toArray 26 := (Blk.new _ _ _).alloc _
  have hC0 : Blk ((w.alloc (.cells (a.map bv).toArray 26)).alloc (.cells (c.map bv).toArray 26)) (w.heap.size + 1) (c.map bv).toArray 26 := blk_new1 _ _ _ _
  have hb0 : Below w.heap.size w ((w.alloc (.cells (a.map bv).toArray 26)).alloc (.cells (c.map bv).toArray 26)) := ((Below.refl _ _).alloc (Nat.le_refl _) _).alloc (by simp) _
  obtain ⟨t, ht⟩ : ∃ t, t = signT a s := ⟨_, rfl⟩
  have htl : t.length = 32 := by rw [ht]; exact signT_len _ _
  have c1 : ∀ x, Calls Try.prog 42 #[.agg (a.map bv).toArray, .string (str s)] x fun e w' => e = .returned (.agg (t.map bv).toArray) ∧ Below x.heap.size x w' := by rw [ht]; exact fun x => code_calls a s x HA.out hs
  have hq : ∀ x, (Op.equalIn 10000 26 (.agg (t.map bv).toArray) (.agg (c.map bv).toArray)).run Try.prog x = .ok (t == c) x := fun x => run_eq_hash x t c htl HC.out
  rw [← ht]
  clear ht htl
  go_enter Try.func22, Try.ntmps22
  go_wp2_with fail
  generalize (w.alloc (.cells (a.map bv).toArray 26)).alloc (.cells (c.map bv).toArray 26) = W0 at hA0 hC0 hb0 ⊢
  refine wp_region_held_drew (S := fun x => Blk x (w.heap.size) (a.map bv).toArray 26 ∧ Blk x (w.heap.size + 1) (c.map bv).toArray 26 ∧ Below w.heap.size w x) (by kernel_rfl) ⟨hA0.drew, hC0.drew, below_drewN hb0 1⟩ (fun hHeld1x0 => ?_)
  refine wpAnyH_take (i := 0) rfl (by kernel_rfl) (by kernel_rfl) (by kernel_rfl) (fun _ _ _ h => h) (yieldsIf_load_mid (by rfl) 26 (.tmp 3) rfl (w.heap.size) 0 (by rfl) (a.map bv) _ (fun x hx => blk_range hx.1) Try.underlying26 rfl (by rw [List.length_map, HA.out]; exact Try.sizeHash)) hHeld1x0 ?_
  simp only [Act.put, List.getElem_toArray, List.getElem_cons_zero, List.getElem_cons_succ, List.setIfInBounds_toArray, List.set_cons_zero, List.set_cons_succ]
  refine wpAnyH_take (i := 1) (v := .string (str s)) rfl (by kernel_rfl) (by kernel_rfl) (by kernel_rfl) (fun _ _ _ h => h) (Or.inl ⟨by rfl, fun x hx => by go_simp⟩) hHeld1x0 ?_
  simp only [Act.put, List.getElem_toArray, List.getElem_cons_zero, List.getElem_cons_succ, List.setIfInBounds_toArray, List.set_cons_zero, List.set_cons_succ]
  refine wpAnyH_take (i := 3) rfl (by kernel_rfl) (by kernel_rfl) (by kernel_rfl) (fun _ _ _ h => h) (yieldsIf_load_mid (by rfl) 26 (.tmp 5) rfl (w.heap.size + 1) 0 (by rfl) (c.map bv) _ (fun x hx => blk_range hx.2.1) Try.underlying26 rfl (by rw [List.length_map, HC.out]; exact Try.sizeHash)) hHeld1x0 ?_
  simp only [Act.put, List.getElem_toArray, List.getElem_cons_zero, List.getElem_cons_succ, List.setIfInBounds_toArray, List.set_cons_zero, List.set_cons_succ]
  refine wpAnyH_ready (rs := [2]) (by kernel_rfl) (by simp) ?_
  refine AllReadyH.cons rfl (fun K hK => ?_) AllReadyH.nil
  go_simp
  go_wp2_with (go_at_call 42; refine (c1 _).mono ?_; rintro e y1x1 ⟨rfl, b1x1⟩)
  refine hK.out _ _ ⟨hHeld1x0.1.below b1x1 hHeld1x0.1.lt, hHeld1x0.2.1.below b1x1 hHeld1x0.2.1.lt, hHeld1x0.2.2.trans (b1x1.mono hHeld1x0.2.2.size)⟩ (fun hHeld1x1 => ?_)
  clear hK K hHeld1x0 b1x1
  refine wpAnyH_take (i := 4) (v := .bool (t == c)) rfl (by kernel_rfl) (by kernel_rfl) (by kernel_rfl) (fun _ _ _ h => h) (Or.inl ⟨by rfl, fun x hx => by go_simp⟩) hHeld1x1 ?_
  simp only [Act.put, List.getElem_toArray, List.getElem_cons_zero, List.getElem_cons_succ, List.setIfInBounds_toArray, List.set_cons_zero, List.set_cons_succ]
  refine wpAnyH_ready (rs := [5]) (by kernel_rfl) (by simp) ?_
  refine AllReadyH.cons rfl (fun K hK => ?_) AllReadyH.nil
  go_simp
  refine hK.out _ _ hHeld1x1 (fun hHeld1x2 => ?_)
  clear hK K hHeld1x1
  refine wpAnyH_done (by kernel_rfl) ?_ _
  go_wp2_with fail
  go_returns
  exact ⟨rfl, hHeld1x2.2.2⟩
end Go.Proofs.Ytjlpdbaknhbgdaa
