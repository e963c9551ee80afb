/-
  keys.Context.
-/
import Derived.Test.YtnfegmcdljejnaaWireWH
import Derived.Test.YtnfegmcdljejnaaKeysSaid
set_option linter.unusedSimpArgs false
set_option linter.unusedVariables false
namespace Go.Proofs.Ytnfegmcdljejnaa
open Go.RowKit

def ctxT (a : List UInt8) (n : Nat) (c d : List UInt8) : List UInt8 := a ++ numB n ++ c ++ d
theorem ctxT_len (a c d : List UInt8) (n : Nat) (ha : a.length = 32) (hc : c.length = 32) (hd : d.length = 32) : (ctxT a n c d).length ≤ 104 := by
  have := numB_len n
  simp [ctxT]; omega

theorem blk_new2 (w : World) (A B C : Array Value) (t u v : TypeId) : Blk (((w.alloc (.cells A t)).alloc (.cells B u)).alloc (.cells C v)) (w.heap.size + 1 + 1) C v := by
  have := Blk.new ((w.alloc (.cells A t)).alloc (.cells B u)) C v
  rwa [show ((w.alloc (.cells A t)).alloc (.cells B u)).heap.size = w.heap.size + 1 + 1 by simp] at this

set_option maxHeartbeats 4000000 in
set_option maxRecDepth 100000 in
theorem Context_calls (a c d : List UInt8) (n : Int) (w : World) (ha : a.length = 32) (hc : c.length = 32) (hd : d.length = 32) (h0 : 0 ≤ n) (h1 : n ≤ 4611686018427387903) :
    Calls Try.prog 46 #[.agg (a.map bv).toArray, .int .i64 n, .agg (c.map bv).toArray, .agg (d.map bv).toArray] w fun e w' => e = .returned (.string (str (ctxT a n.toNat c d))) ∧ Below w.heap.size w w' := by
  have HA := Lib.hid ha
  have HC := Lib.hid hc
  have HD := Lib.hid hd
  clear ha hc hd
  have hA0 : Blk (((w.alloc (.cells (a.map bv).toArray 23)).alloc (.cells (c.map bv).toArray 23)).alloc (.cells (d.map bv).toArray 23)) w.heap.size (a.map bv).toArray 23 := ((Blk.new _ _ _).alloc _).alloc _
  have hC0 : Blk (((w.alloc (.cells (a.map bv).toArray 23)).alloc (.cells (c.map bv).toArray 23)).alloc (.cells (d.map bv).toArray 23)) (w.heap.size + 1) (c.map bv).toArray 23 := (blk_new1 _ _ _ _).alloc _
  have hD0 : Blk (((w.alloc (.cells (a.map bv).toArray 23)).alloc (.cells (c.map bv).toArray 23)).alloc (.cells (d.map bv).toArray 23)) (w.heap.size + 1 + 1) (d.map bv).toArray 23 := blk_new2 _ _ _ _ _ _ _
  have hb0 : Below w.heap.size w (((w.alloc (.cells (a.map bv).toArray 23)).alloc (.cells (c.map bv).toArray 23)).alloc (.cells (d.map bv).toArray 23)) := (((Below.refl _ _).alloc (Nat.le_refl _) _).alloc (by simp) _).alloc (by simp; omega) _
  go_enter Try.func46, Try.ntmps46
  go_wp2_with fail
  generalize ((w.alloc (.cells (a.map bv).toArray 23)).alloc (.cells (c.map bv).toArray 23)).alloc (.cells (d.map bv).toArray 23) = W0 at hA0 hC0 hD0 hb0 ⊢
  have lA := hA0.lt
  have lC := hC0.lt
  have lD := hD0.lt
  refine (New_calls _).mono ?_
  rintro e w1 ⟨rfl, k1, b1⟩
  have hA1 := hA0.below b1 lA
  have hC1 := hC0.below b1 lC
  have hD1 := hD0.below b1 lD
  clear hA0 hC0 hD0
  go_wp2_with ((with_reducible show wpList _ _ _ (⟨some 14, _, _, _, _, _⟩ :: _) _ _); refine wpList_loadBlk rfl 23 (.tmp 4) rfl w.heap.size (by rfl) _ _ _ hA1 Try.underlying23 rfl (by rw [bv_size, HA.out]; exact Try.sizeHash) ?_)
  refine (hash_calls W0.heap.size _ _ _ _ _ k1 b1.size (by simp) HA.out).mono ?_
  rintro e w2 ⟨rfl, k2, b2⟩
  have s2 := Nat.le_trans b1.size b2.size
  have hC2 := hC1.below b2.below lC
  have hD2 := hD1.below b2.below lD
  have bb2 := b1.trans b2.below
  clear hC1 hD1 hA1 k1
  go_wp2_with fail
  refine (num_calls W0.heap.size _ _ _ n _ k2 s2 (by simp [HA.out]) h0 h1).mono ?_
  rintro e w3 ⟨rfl, k3, b3⟩
  have s3 := Nat.le_trans s2 b3.size
  have hC3 := hC2.below b3.below lC
  have hD3 := hD2.below b3.below lD
  have bb3 := bb2.trans b3.below
  clear hC2 hD2 k2
  have hn8 := numB_len n.toNat
  go_wp2_with ((with_reducible show wpList _ _ _ (⟨some 20, _, _, _, _, _⟩ :: _) _ _); refine wpList_loadBlk rfl 23 (.tmp 6) rfl (w.heap.size + 1) (by rfl) _ _ _ hC3 Try.underlying23 rfl (by rw [bv_size, HC.out]; exact Try.sizeHash) ?_)
  refine (hash_calls W0.heap.size _ _ _ _ _ k3 s3 (by simp [HA.out]; omega) HC.out).mono ?_
  rintro e w4 ⟨rfl, k4, b4⟩
  have s4 := Nat.le_trans s3 b4.size
  have hD4 := hD3.below b4.below lD
  have bb4 := bb3.trans b4.below
  clear hC3 hD3 k3
  go_wp2_with ((with_reducible show wpList _ _ _ (⟨some 23, _, _, _, _, _⟩ :: _) _ _); refine wpList_loadBlk rfl 23 (.tmp 7) rfl (w.heap.size + 1 + 1) (by rfl) _ _ _ hD4 Try.underlying23 rfl (by rw [bv_size, HD.out]; exact Try.sizeHash) ?_)
  refine (hash_calls W0.heap.size _ _ _ _ _ k4 s4 (by simp [HA.out, HC.out]; omega) HD.out).mono ?_
  rintro e w5 ⟨rfl, k5, b5⟩
  have bb5 := bb4.trans b5.below
  go_wp2_with fail
  refine (endOk_calls W0.heap.size _ _ _ k5).mono ?_
  rintro e w6 ⟨rfl, rfl⟩
  go_wp2_with fail
  go_returns
  exact ⟨by simp only [ctxT, List.append_assoc]; rfl, hb0.trans (bb5.mono hb0.size)⟩

set_option maxHeartbeats 4000000 in
set_option maxRecDepth 100000 in
theorem ContextBad_calls (a c d : List UInt8) (n : Int) (w : World) (ha : a.length = 32) (hc : c.length = 32) (hd : d.length = 32) (hn : n < 0 ∨ 4611686018427387903 < n) :
    Calls Try.prog 46 #[.agg (a.map bv).toArray, .int .i64 n, .agg (c.map bv).toArray, .agg (d.map bv).toArray] w fun e w' => e = .returned (.string (str [])) ∧ Below w.heap.size w w' := by
  have HA := Lib.hid ha
  have HC := Lib.hid hc
  have HD := Lib.hid hd
  have HN := Lib.hid hn
  clear ha hc hd hn
  have hA0 : Blk (((w.alloc (.cells (a.map bv).toArray 23)).alloc (.cells (c.map bv).toArray 23)).alloc (.cells (d.map bv).toArray 23)) w.heap.size (a.map bv).toArray 23 := ((Blk.new _ _ _).alloc _).alloc _
  have hC0 : Blk (((w.alloc (.cells (a.map bv).toArray 23)).alloc (.cells (c.map bv).toArray 23)).alloc (.cells (d.map bv).toArray 23)) (w.heap.size + 1) (c.map bv).toArray 23 := (blk_new1 _ _ _ _).alloc _
  have hD0 : Blk (((w.alloc (.cells (a.map bv).toArray 23)).alloc (.cells (c.map bv).toArray 23)).alloc (.cells (d.map bv).toArray 23)) (w.heap.size + 1 + 1) (d.map bv).toArray 23 := blk_new2 _ _ _ _ _ _ _
  have hb0 : Below w.heap.size w (((w.alloc (.cells (a.map bv).toArray 23)).alloc (.cells (c.map bv).toArray 23)).alloc (.cells (d.map bv).toArray 23)) := (((Below.refl _ _).alloc (Nat.le_refl _) _).alloc (by simp) _).alloc (by simp; omega) _
  go_enter Try.func46, Try.ntmps46
  go_wp2_with fail
  generalize ((w.alloc (.cells (a.map bv).toArray 23)).alloc (.cells (c.map bv).toArray 23)).alloc (.cells (d.map bv).toArray 23) = W0 at hA0 hC0 hD0 hb0 ⊢
  have lA := hA0.lt
  have lC := hC0.lt
  have lD := hD0.lt
  refine (New_calls _).mono ?_
  rintro e w1 ⟨rfl, k1, b1⟩
  have hA1 := hA0.below b1 lA
  have hC1 := hC0.below b1 lC
  have hD1 := hD0.below b1 lD
  clear hA0 hC0 hD0
  go_wp2_with ((with_reducible show wpList _ _ _ (⟨some 14, _, _, _, _, _⟩ :: _) _ _); refine wpList_loadBlk rfl 23 (.tmp 4) rfl w.heap.size (by rfl) _ _ _ hA1 Try.underlying23 rfl (by rw [bv_size, HA.out]; exact Try.sizeHash) ?_)
  refine (hash_calls W0.heap.size _ _ _ _ _ k1 b1.size (by simp) HA.out).mono ?_
  rintro e w2 ⟨rfl, k2, b2⟩
  have s2 := Nat.le_trans b1.size b2.size
  have hC2 := hC1.below b2.below lC
  have hD2 := hD1.below b2.below lD
  have bb2 := b1.trans b2.below
  clear hC1 hD1 hA1 k1
  go_wp2_with fail
  refine (numBad_calls W0.heap.size _ _ _ n _ k2 HN.out).mono ?_
  rintro e w3 ⟨rfl, k3, b3⟩
  have s3 := Nat.le_trans s2 b3.size
  have hC3 := hC2.below b3.below lC
  have hD3 := hD2.below b3.below lD
  have bb3 := bb2.trans b3.below
  clear hC2 hD2 k2
  go_wp2_with ((with_reducible show wpList _ _ _ (⟨some 20, _, _, _, _, _⟩ :: _) _ _); refine wpList_loadBlk rfl 23 (.tmp 6) rfl (w.heap.size + 1) (by rfl) _ _ _ hC3 Try.underlying23 rfl (by rw [bv_size, HC.out]; exact Try.sizeHash) ?_)
  refine (hash_calls W0.heap.size _ _ _ _ _ k3 s3 (by simp [HA.out]) HC.out).mono ?_
  rintro e w4 ⟨rfl, k4, b4⟩
  have s4 := Nat.le_trans s3 b4.size
  have hD4 := hD3.below b4.below lD
  have bb4 := bb3.trans b4.below
  clear hC3 hD3 k3
  go_wp2_with ((with_reducible show wpList _ _ _ (⟨some 23, _, _, _, _, _⟩ :: _) _ _); refine wpList_loadBlk rfl 23 (.tmp 7) rfl (w.heap.size + 1 + 1) (by rfl) _ _ _ hD4 Try.underlying23 rfl (by rw [bv_size, HD.out]; exact Try.sizeHash) ?_)
  refine (hash_calls W0.heap.size _ _ _ _ _ k4 s4 (by simp [HA.out, HC.out]) HD.out).mono ?_
  rintro e w5 ⟨rfl, k5, b5⟩
  have bb5 := bb4.trans b5.below
  go_wp2_with fail
  refine (endBad_calls W0.heap.size _ _ _ k5).mono ?_
  rintro e w6 ⟨rfl, rfl⟩
  go_wp2_with fail
  go_returns
  exact ⟨rfl, hb0.trans (bb5.mono hb0.size)⟩
end Go.Proofs.Ytnfegmcdljejnaa
