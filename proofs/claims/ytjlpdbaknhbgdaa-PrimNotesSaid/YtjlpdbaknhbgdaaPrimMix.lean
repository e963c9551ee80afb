/-
  mac.Mix, prim.Mix with a nil book: keys of two.
-/
import Derived.Test.YtjlpdbaknhbgdaaPrimPub
set_option linter.unusedSimpArgs false
set_option linter.unusedVariables false
namespace Go.Proofs.Ytjlpdbaknhbgdaa
open Go.RowKit

theorem blk_new2p (w : World) (o1 o2 : Obj) (cs : Array Value) (t : TypeId) : Blk (((w.alloc o1).alloc o2).alloc (.cells cs t)) (w.heap.size + 1 + 1) cs t := by
  have := Blk.new ((w.alloc o1).alloc o2) cs t
  rwa [show ((w.alloc o1).alloc o2).heap.size = w.heap.size + 1 + 1 by simp] at this
def mixT (a k : List UInt8) : List UInt8 := hmac a k
theorem mixT_len (a k : List UInt8) : (mixT a k).length = 32 := hmac_len _ _
set_option maxHeartbeats 4000000 in
set_option maxRecDepth 100000 in
theorem Mix_calls (a k : List UInt8) (w : World) (ha : a.length = 32) (hk : k.length = 32) :
    Calls Try.prog 27 #[.agg (a.map bv).toArray, .agg (k.map bv).toArray] w fun e w' => e = .returned (.agg ((mixT a k).map bv).toArray) ∧ Below w.heap.size w w' := by
  have HA := Lib.hid ha
  have HK := Lib.hid hk
  clear ha hk
  have hA0 : Blk (((w.alloc (.cells (a.map bv).toArray 26)).alloc (.cells (k.map bv).toArray 26)).alloc (.cells Z32 26)) w.heap.size (a.map bv).toArray 26 := ((Blk.new _ _ _).alloc _).alloc _
  have hK0 : Blk (((w.alloc (.cells (a.map bv).toArray 26)).alloc (.cells (k.map bv).toArray 26)).alloc (.cells Z32 26)) (w.heap.size + 1) (k.map bv).toArray 26 := (blk_new1 _ _ _ _).alloc _
  have hR0 : Blk (((w.alloc (.cells (a.map bv).toArray 26)).alloc (.cells (k.map bv).toArray 26)).alloc (.cells Z32 26)) (w.heap.size + 1 + 1) Z32 26 := blk_new2p _ _ _ _ _
  have hb0 : Below w.heap.size w (((w.alloc (.cells (a.map bv).toArray 26)).alloc (.cells (k.map bv).toArray 26)).alloc (.cells Z32 26)) := (((Below.refl _ _).alloc (Nat.le_refl _) _).alloc (by simp) _).alloc (by simp; omega) _
  obtain ⟨x, hx⟩ : ∃ x, x = mixT a k := ⟨_, rfl⟩
  have HX : Hid (x.length = 32) := by show _ = _; rw [hx]; exact mixT_len _ _
  have c2 : ∀ (g : Nat) y, Blk y g #[.string (str k)] 9 → Calls Try.prog 44 #[.string (str a), .slice (some ⟨g, 0, none⟩) 1 1] y fun e w' => e = .returned (.agg (x.map bv).toArray) ∧ Below y.heap.size y w' := fun g y hg => by
    have hst : StrsAt y (some ⟨g, 0, none⟩) 1 [k] := StrsAt.blk [k] hg
    have hf : mixT a k = hmac a [k].flatten := by simp [mixT]
    rw [hx, hf]
    exact Code_calls a g 0 1 1 [k] y (by rw [HA.out]; omega) hst (by omega) (by simp [HK.out]) (by omega)
  rw [← hx]
  clear hx
  go_enter Try.func27, Try.ntmps27
  go_wp2_with fail
  generalize (((w.alloc (.cells (a.map bv).toArray 26)).alloc (.cells (k.map bv).toArray 26)).alloc (.cells Z32 26)) = W0 at hA0 hK0 hR0 hb0 ⊢
  refine wp_region_held_drew (S := fun x => Blk x (w.heap.size) (a.map bv).toArray 26 ∧ Blk x (w.heap.size + 1) (k.map bv).toArray 26 ∧ Below w.heap.size w x) (by kernel_rfl) ⟨hA0.drew, hK0.drew, below_drewN hb0 1⟩ (fun hSq1 => ?_)
  have hEq2 := Blk.drew hR0
  refine wpAnyH_take (i := 0) (v := .slice (some ⟨w.heap.size, 0, none⟩) 32 32) rfl (by kernel_rfl) (by kernel_rfl) (by kernel_rfl) (fun _ _ _ h => h) (Or.inl ⟨by rfl, fun x hx => by go_simp⟩) hSq1 ?_
  simp only [Act.put, List.getElem_toArray, List.getElem_cons_zero, List.getElem_cons_succ, List.setIfInBounds_toArray, List.set_cons_zero, List.set_cons_succ]
  refine wpAnyH_take (i := 1) (v := .string (str a)) rfl (by kernel_rfl) (by kernel_rfl) (by kernel_rfl) (fun _ _ _ h => h) (Or.inl ⟨by rfl, fun x hx => by have hcv := conv_blk HA.out hx.1; go_simp⟩) hSq1 ?_
  simp only [Act.put, List.getElem_toArray, List.getElem_cons_zero, List.getElem_cons_succ, List.setIfInBounds_toArray, List.set_cons_zero, List.set_cons_succ]
  refine wpAnyH_take (i := 2) (v := .slice (some ⟨w.heap.size + 1, 0, none⟩) 32 32) rfl (by kernel_rfl) (by kernel_rfl) (by kernel_rfl) (fun _ _ _ h => h) (Or.inl ⟨by rfl, fun x hx => by go_simp⟩) hSq1 ?_
  simp only [Act.put, List.getElem_toArray, List.getElem_cons_zero, List.getElem_cons_succ, List.setIfInBounds_toArray, List.set_cons_zero, List.set_cons_succ]
  refine wpAnyH_take (i := 3) (v := .string (str k)) rfl (by kernel_rfl) (by kernel_rfl) (by kernel_rfl) (fun _ _ _ h => h) (Or.inl ⟨by rfl, fun x hx => by have hcv := conv_blk HK.out hx.2.1; go_simp⟩) hSq1 ?_
  simp only [Act.put, List.getElem_toArray, List.getElem_cons_zero, List.getElem_cons_succ, List.setIfInBounds_toArray, List.set_cons_zero, List.set_cons_succ]
  refine wpAnyH_ready (rs := [4]) (by kernel_rfl) (by simp) ?_
  refine AllReadyH.cons rfl (fun K hK => ?_) AllReadyH.nil
  rw [if_pos (by rfl)]
  refine wp_bsStr 98 9 (.tmp 8) rfl (str k) (by rfl) Try.underlying98 (str []) (by kernel_rfl) ?_
  intro gq6 yq4 egq7 ezq8 bq3 hEq5
  have lgq9 : w.heap.size ≤ gq6 := by rw [egq7]; exact hSq1.2.2.size
  have lbq10 : w.heap.size < gq6 := by rw [egq7]; exact hSq1.1.lt
  have lbq11 : w.heap.size + 1 < gq6 := by rw [egq7]; exact hSq1.2.1.lt
  have hEq12 := hEq2.below bq3 hEq2.lt
  refine hK.out _ _ ⟨hSq1.1.below bq3 hSq1.1.lt, hSq1.2.1.below bq3 hSq1.2.1.lt, hSq1.2.2.trans (bq3.mono hSq1.2.2.size)⟩ (fun hSq13 => ?_)
  clear hK K hSq1 bq3 egq7 ezq8
  refine wpAnyH_ready (rs := [5]) (by kernel_rfl) (by simp) ?_
  refine AllReadyH.cons rfl (fun K hK => ?_) AllReadyH.nil
  go_simp
  go_wp2_with (go_at_call 44; refine (c2 _ _ hEq5).mono ?_; rintro e yq14 ⟨rfl, bq15⟩)
  have hEq16 := hEq12.below bq15 hEq12.lt
  have hEq17 := hEq5.below bq15 hEq5.lt
  refine hK.out _ _ ⟨hSq13.1.below bq15 hSq13.1.lt, hSq13.2.1.below bq15 hSq13.2.1.lt, hSq13.2.2.trans (bq15.mono hSq13.2.2.size)⟩ (fun hSq18 => ?_)
  clear hK K hSq13 bq15
  refine wpAnyH_ready (rs := [6]) (by kernel_rfl) (by simp) ?_
  refine AllReadyH.cons rfl (fun K hK => ?_) AllReadyH.nil
  rw [if_pos (by rfl)]
  refine wp_storeBlk 26 (.tmp 4) (.tmp 10) rfl (w.heap.size + 1 + 1) (x.map bv).toArray (by rfl) (by rfl) _ _ hEq16 (by rw [bv_size, HX.out]; exact Try.sizeHash) (by rw [bv_size, HX.out, Z32_size]) (bv_all _) ?_
  intro yq19 hEq20 grq21
  refine hK.out _ _ ⟨hSq18.1.grown grq21 (by first | (simp; done) | (simp; omega)), hSq18.2.1.grown grq21 (by first | (simp; done) | (simp; omega)), below_new hSq18.2.2 grq21 (by omega) hSq18.2.2.size⟩ (fun hSq22 => ?_)
  clear hK K hSq18
  refine wpAnyH_done (by kernel_rfl) ?_ _
  have hR9 := hEq20
  have hb9 := hSq22.2.2
  go_wp2_with fail
  refine ret_blk rfl (w.heap.size + 1 + 1) _ _ _ (by rfl) hR9 Try.underlying26 rfl (by rw [bv_size, HX.out]; exact Try.sizeHash) rfl ?_
  exact ⟨rfl, hb9⟩

set_option maxHeartbeats 4000000 in
set_option maxRecDepth 100000 in
theorem PMix_calls (a k : List UInt8) (w : World) (ha : a.length = 32) (hk : k.length = 32) :
    Calls Try.prog 8 #[.pointer none, .agg (a.map bv).toArray, .agg (k.map bv).toArray] w fun e w' => e = .returned (.agg ((mixT a k).map bv).toArray) ∧ Below w.heap.size w w' := by
  have HA := Lib.hid ha
  have HK := Lib.hid hk
  clear ha hk
  have hA0 : Blk (((w.alloc (.cells (a.map bv).toArray 26)).alloc (.cells (k.map bv).toArray 26)).alloc (.cells Z32 26)) w.heap.size (a.map bv).toArray 26 := ((Blk.new _ _ _).alloc _).alloc _
  have hK0 : Blk (((w.alloc (.cells (a.map bv).toArray 26)).alloc (.cells (k.map bv).toArray 26)).alloc (.cells Z32 26)) (w.heap.size + 1) (k.map bv).toArray 26 := (blk_new1 _ _ _ _).alloc _
  have hR0 : Blk (((w.alloc (.cells (a.map bv).toArray 26)).alloc (.cells (k.map bv).toArray 26)).alloc (.cells Z32 26)) (w.heap.size + 1 + 1) Z32 26 := blk_new2p _ _ _ _ _
  have hb0 : Below w.heap.size w (((w.alloc (.cells (a.map bv).toArray 26)).alloc (.cells (k.map bv).toArray 26)).alloc (.cells Z32 26)) := (((Below.refl _ _).alloc (Nat.le_refl _) _).alloc (by simp) _).alloc (by simp; omega) _
  obtain ⟨y, hy⟩ : ∃ x, x = mixT a k := ⟨_, rfl⟩
  have H32 : Hid (y.length = 32) := by show _ = _; rw [hy]; exact mixT_len _ _
  have c1 : ∀ x, Calls Try.prog 27 #[.agg (a.map bv).toArray, .agg (k.map bv).toArray] x fun e w' => e = .returned (.agg (y.map bv).toArray) ∧ Below x.heap.size x w' := by rw [hy]; exact fun x => Mix_calls a k x HA.out HK.out
  rw [← hy]
  clear hy
  go_enter Try.func8, Try.ntmps8
  go_wp2_with (first | ((with_reducible show wpList _ _ _ (⟨some 8, _, _, _, _, _⟩ :: _) _ _); refine wpList_loadBlk rfl 26 (.tmp 4) rfl w.heap.size (by rfl) _ _ _ hA0 Try.underlying26 rfl (by rw [bv_size, HA.out]; exact Try.sizeHash) ?_) | ((with_reducible show wpList _ _ _ (⟨some 9, _, _, _, _, _⟩ :: _) _ _); refine wpList_loadBlk rfl 26 (.tmp 5) rfl (w.heap.size + 1) (by rfl) _ _ _ hK0 Try.underlying26 rfl (by rw [bv_size, HK.out]; exact Try.sizeHash) ?_))
  generalize (((w.alloc (.cells (a.map bv).toArray 26)).alloc (.cells (k.map bv).toArray 26)).alloc (.cells Z32 26)) = W0 at hA0 hK0 hR0 hb0 ⊢
  refine (c1 _).mono ?_
  rintro e w1 ⟨rfl, b1⟩
  have hA1 := (Blk.below hA0 b1 (Blk.lt hA0)).alloc (.cells Z32 26)
  have hK1 := (Blk.below hK0 b1 (Blk.lt hK0)).alloc (.cells Z32 26)
  have hR1 := (Blk.below hR0 b1 (Blk.lt hR0)).alloc (.cells Z32 26)
  have hs1 : w.heap.size + 1 + 1 < w1.heap.size := (Blk.below hR0 b1 (Blk.lt hR0)).lt
  have hb1 : Below w.heap.size w w1 := hb0.trans (b1.mono hb0.size)
  have hN := Blk.new w1 Z32 26
  have hb2 : Below w.heap.size w (w1.alloc (.cells Z32 26)) := hb1.alloc hb1.size _
  clear b1 hA0 hK0 hR0 hb0 hb1 c1
  go_wp2_with (first | ((with_reducible show wpList _ _ _ (⟨none, Op.store _ (.tmp 7) _, _, _, _, _⟩ :: _) _ _); refine wpList_storeBlk rfl 26 (.tmp 7) (.tmp 10) rfl w1.heap.size (y.map bv).toArray (by rfl) (by rfl) _ _ hN (by rw [bv_size, H32.out]; exact Try.sizeHash) (by rw [bv_size, H32.out, Z32_size]) (bv_all _) ?_; intro w2 hD2 g2; have hA3 := Blk.grown hA1 g2 (by simp; omega); have hK3 := Blk.grown hK1 g2 (by simp; omega); have hR3 := Blk.grown hR1 g2 (by simp; omega); have hb3 : Below w.heap.size w w2 := below_new hb2 g2 (by omega) (by simp; omega); clear hN hA1 hK1 hR1 hb2 g2) | ((with_reducible show wpList _ _ _ (⟨some 12, _, _, _, _, _⟩ :: _) _ _); refine wpList_loadBlk rfl 26 (.tmp 4) rfl w.heap.size (by rfl) _ _ _ hA3 Try.underlying26 rfl (by rw [bv_size, HA.out]; exact Try.sizeHash) ?_) | ((with_reducible show wpList _ _ _ (⟨some 13, _, _, _, _, _⟩ :: _) _ _); refine wpList_loadBlk rfl 26 (.tmp 5) rfl (w.heap.size + 1) (by rfl) _ _ _ hK3 Try.underlying26 rfl (by rw [bv_size, HK.out]; exact Try.sizeHash) ?_) | ((with_reducible show wpList _ _ _ (⟨some 14, _, _, _, _, _⟩ :: _) _ _); refine wpList_bs64 rfl 23 26 (.tmp 12) (.tmp 13) rfl a k HA.out HK.out (by rfl) (by rfl) Try.underlying23 (by kernel_rfl) ?_) | ((with_reducible show wpList _ _ _ (⟨some 15, _, _, _, _, _⟩ :: _) _ _); refine wpList_loadBlk rfl 26 (.tmp 7) rfl w1.heap.size (by rfl) _ _ _ (Blk.alloc hD2 _) Try.underlying26 rfl (by rw [bv_size, H32.out]; exact Try.sizeHash) ?_; have hy1 : y.length = 32 := H32.out))
  refine (NoteNil_calls _ _ 1 1 (by omega) rfl _).mono ?_
  rintro e w5 ⟨rfl, b5⟩
  have hD5 := Blk.below (Blk.alloc (Blk.alloc hD2 _) _) b5 (Blk.lt (Blk.alloc (Blk.alloc hD2 _) _))
  have hR5 := Blk.below (Blk.alloc (Blk.alloc hR3 _) _) b5 (Blk.lt (Blk.alloc (Blk.alloc hR3 _) _))
  have hb5 : Below w.heap.size w w5 := ((hb3.alloc hb3.size _).alloc (by simp; have := hb3.size; omega) _).trans (b5.mono (by simp; have := hb3.size; omega))
  clear b5 hy1 hD2 hR3 hA3 hK3 hb3
  go_wp2_with (first | ((with_reducible show wpList _ _ _ (⟨some 19, _, _, _, _, _⟩ :: _) _ _); refine wpList_loadBlk rfl 26 (.tmp 7) rfl w1.heap.size (by rfl) _ _ _ hD5 Try.underlying26 rfl (by rw [bv_size, H32.out]; exact Try.sizeHash) ?_) | ((with_reducible show wpList _ _ _ (⟨none, Op.store _ (.tmp 6) _, _, _, _, _⟩ :: _) _ _); refine wpList_storeBlk rfl 26 (.tmp 6) (.tmp 19) rfl (w.heap.size + 1 + 1) (y.map bv).toArray (by rfl) (by rfl) _ _ hR5 (by rw [bv_size, H32.out]; exact Try.sizeHash) (by rw [bv_size, H32.out, Z32_size]) (bv_all _) ?_; intro w9 hB9 g9; have h9 := hb5.trans (grown_below g9 (by omega) hb5.size)))
  refine ret_blk rfl (w.heap.size + 1 + 1) _ _ _ (by rfl) hB9 Try.underlying26 rfl (by rw [bv_size, H32.out]; exact Try.sizeHash) rfl ?_
  exact ⟨rfl, h9⟩
end Go.Proofs.Ytjlpdbaknhbgdaa
