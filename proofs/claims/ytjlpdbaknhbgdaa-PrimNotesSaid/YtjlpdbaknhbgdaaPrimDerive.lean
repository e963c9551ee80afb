/-
  A nil book notes nothing; prim.Derive with a nil book.
-/
import Derived.Test.YtjlpdbaknhbgdaaFour
set_option linter.unusedSimpArgs false
set_option linter.unusedVariables false
namespace Go.Proofs.Ytjlpdbaknhbgdaa
open Go.RowKit

theorem blk_range {w : World} {b : Nat} {cs : List Value} {t : TypeId} (h : Blk w b cs.toArray t) : w.rangeAt b 0 cs := fun j v hj => by
  rw [Nat.zero_add]
  exact h.cell j v (by rw [List.getElem?_toArray]; exact hj)

theorem NoteNil_calls (i : Value) (ao : Option Addr) (n c : Nat) (hn : 0 < n) (hi : i.oneCell' = true) (w : World) :
    Calls Try.prog 26 #[.pointer none, .agg #[i, .slice ao n c]] w fun e w' => e = .returned (.int .i64 0) ∧ Below w.heap.size w w' := by
  have hb : Blk (w.alloc (.cells #[i, .slice ao n c] 68)) w.heap.size #[i, .slice ao n c] 68 := Blk.new _ _ _
  have hc := hb.cell 1 _ rfl
  have h0 : ((n : Int) == 0) = false := by simp; omega
  go_enter Try.func26, Try.ntmps26
  go_wp2_with fail
  go_returns
  exact ⟨rfl, (Below.refl _ _).alloc (Nat.le_refl _) _⟩

set_option maxHeartbeats 4000000 in
set_option maxRecDepth 100000 in
theorem PDerive_calls (key label context : List UInt8) (w : World) (hk : key.length = 32) (hl : label.length ≤ 68719476736) (hc : context.length ≤ 68719476736) :
    Calls Try.prog 7 #[.pointer none, .agg (key.map bv).toArray, .string (str label), .string (str context)] w fun e w' => e = .returned (.agg ((derive key label context).map bv).toArray) ∧ Below w.heap.size w w' := by
  have HK := Lib.hid hk
  clear hk
  have hB0 : Blk ((w.alloc (.cells (key.map bv).toArray 26)).alloc (.cells Z32 26)) w.heap.size (key.map bv).toArray 26 := (Blk.new _ _ _).alloc _
  have hR0 : Blk ((w.alloc (.cells (key.map bv).toArray 26)).alloc (.cells Z32 26)) (w.heap.size + 1) Z32 26 := blk_new1 _ _ _ _
  have hb0 : Below w.heap.size w ((w.alloc (.cells (key.map bv).toArray 26)).alloc (.cells Z32 26)) := ((Below.refl _ _).alloc (Nat.le_refl _) _).alloc (by simp) _
  go_enter Try.func7, Try.ntmps7
  go_wp2_with ((with_reducible show wpList _ _ _ (⟨some 10, _, _, _, _, _⟩ :: _) _ _); refine wpList_loadBlk rfl 26 (.tmp 5) rfl w.heap.size (by rfl) _ _ _ hB0 Try.underlying26 rfl (by rw [bv_size, HK.out]; exact Try.sizeHash) ?_)
  generalize (w.alloc (.cells (key.map bv).toArray 26)).alloc (.cells Z32 26) = W0 at hB0 hR0 hb0 ⊢
  refine (Derive_calls key label context _ HK.out hl hc).mono ?_
  rintro e w1 ⟨rfl, b1⟩
  have hB1 := Blk.below hB0 b1 (Blk.lt hB0)
  have hR1 := Blk.below hR0 b1 (Blk.lt hR0)
  have hb1 : Below w.heap.size w w1 := hb0.trans (b1.mono hb0.size)
  have h32 := Lib.hid (hmac_len key (four4 label.length ++ (label ++ context)))
  obtain ⟨y, hy⟩ : ∃ y, y = derive key label context := ⟨_, rfl⟩
  have HY := Lib.hid hy
  have H32 : Hid (y.length = 32) := by show _ = _; rw [hy]; exact h32.out
  rw [← hy]
  have hN := Blk.new w1 Z32 26
  have hB2 := Blk.alloc hB1 (.cells Z32 26)
  have hR2 := Blk.alloc hR1 (.cells Z32 26)
  have hb2 : Below w.heap.size w (w1.alloc (.cells Z32 26)) := hb1.alloc hb1.size _
  have hs1 : w.heap.size + 1 < w1.heap.size := Blk.lt hR1
  clear hy h32 b1 hB0 hR0 hb0 hB1 hR1 hb1
  go_wp2_with (first | ((with_reducible show wpList _ _ _ (⟨none, Op.store _ (.tmp 9) _, _, _, _, _⟩ :: _) _ _); refine wpList_storeBlk rfl 26 (.tmp 9) (.tmp 13) rfl w1.heap.size (y.map bv).toArray (by rfl) (by rfl) _ _ hN (by rw [bv_size, H32.out]; exact Try.sizeHash) (by rw [bv_size, H32.out, Z32_size]) (bv_all _) ?_; intro w2 hD2 g2; have hB3 := Blk.grown hB2 g2 (by simp; omega); have hR3 := Blk.grown hR2 g2 (by simp; omega); have hb3 : Below w.heap.size w w2 := below_new hb2 g2 (by omega) (by simp; omega); clear hN hB2 hR2 hb2 g2) | ((with_reducible show wpList _ _ _ (⟨some 15, _, _, _, _, _⟩ :: _) _ _); refine wpList_loadBlk rfl 26 (.tmp 5) rfl w.heap.size (by rfl) _ _ _ hB3 Try.underlying26 rfl (by rw [bv_size, HK.out]; exact Try.sizeHash) ?_; have hk1 : key.length = 32 := HK.out) | ((with_reducible show wpList _ _ _ (⟨some 17, _, _, _, _, _⟩ :: _) _ _); refine wpList_loadBlk rfl 26 (.tmp 9) rfl w1.heap.size (by rfl) _ _ _ (Blk.alloc hD2 _) Try.underlying26 rfl (by rw [bv_size, H32.out]; exact Try.sizeHash) ?_; have hy1 : y.length = 32 := H32.out))
  refine (NoteNil_calls _ _ 1 1 (by omega) rfl _).mono ?_
  rintro e w5 ⟨rfl, b5⟩
  have hD5 := Blk.below (Blk.alloc (Blk.alloc hD2 _) _) b5 (Blk.lt (Blk.alloc (Blk.alloc hD2 _) _))
  have hR5 := Blk.below (Blk.alloc (Blk.alloc hR3 _) _) b5 (Blk.lt (Blk.alloc (Blk.alloc hR3 _) _))
  have hb5 : Below w.heap.size w w5 := ((hb3.alloc hb3.size _).alloc (by simp; have := hb3.size; omega) _).trans (b5.mono (by simp; have := hb3.size; omega))
  clear b5 hk1 hy1 hD2 hR3 hB3 hb3
  go_wp2_with (first | ((with_reducible show wpList _ _ _ (⟨some 21, _, _, _, _, _⟩ :: _) _ _); refine wpList_loadBlk rfl 26 (.tmp 9) rfl w1.heap.size (by rfl) _ _ _ hD5 Try.underlying26 rfl (by rw [bv_size, H32.out]; exact Try.sizeHash) ?_) | ((with_reducible show wpList _ _ _ (⟨none, Op.store _ (.tmp 8) _, _, _, _, _⟩ :: _) _ _); refine wpList_storeBlk rfl 26 (.tmp 8) (.tmp 21) rfl (w.heap.size + 1) (y.map bv).toArray (by rfl) (by rfl) _ _ hR5 (by rw [bv_size, H32.out]; exact Try.sizeHash) (by rw [bv_size, H32.out, Z32_size]) (bv_all _) ?_; intro w9 hB9 g9; have h9 := hb5.trans (grown_below g9 (by omega) hb5.size)))
  refine ret_blk rfl (w.heap.size + 1) _ _ _ (by rfl) hB9 Try.underlying26 rfl (by rw [bv_size, H32.out]; exact Try.sizeHash) rfl ?_
  rw [← HY.out]
  exact ⟨rfl, h9⟩
end Go.Proofs.Ytjlpdbaknhbgdaa
