/-
  bevyref11.Said.
-/
import Derived.Test.YtnfegmcdljejnaaKeysSpot
set_option linter.unusedSimpArgs false
set_option linter.unusedVariables false
namespace Go.Proofs.Ytnfegmcdljejnaa
open Go.RowKit

/-- Said, with a core behind it. -/
def saidT (a core : List UInt8) : List UInt8 := sha ([115, 97, 105, 100] ++ a ++ core)
theorem saidT_len (a core : List UInt8) : (saidT a core).length = 32 := sha_len _
set_option maxHeartbeats 4000000 in
set_option maxRecDepth 100000 in
theorem RefSaid_calls (a c : List UInt8) (w : World) (ha : a.length = 32) (hc : c.length ≤ 5000) :
    Calls Try.prog 45 #[.agg (a.map bv).toArray, .string (str c)] w fun e w' => e = .returned (.agg ((saidT a c).map bv).toArray) ∧ Below w.heap.size w w' := by
  have HA := Lib.hid ha
  clear ha
  have hA0 : Blk ((w.alloc (.cells (a.map bv).toArray 22)).alloc (.cells Z32 22)) w.heap.size (a.map bv).toArray 22 := (Blk.new _ _ _).alloc _
  have hR0 : Blk ((w.alloc (.cells (a.map bv).toArray 22)).alloc (.cells Z32 22)) (w.heap.size + 1) Z32 22 := blk_new1 _ _ _ _
  have hb0 : Below w.heap.size w ((w.alloc (.cells (a.map bv).toArray 22)).alloc (.cells Z32 22)) := ((Below.refl _ _).alloc (Nat.le_refl _) _).alloc (by simp) _
  go_enter Try.func45, Try.ntmps45
  go_wp2_with ((with_reducible show wpList _ _ _ (⟨some 5, _, _, _, _, _⟩ :: _) _ _); refine wpList_loadBlk rfl 22 (.tmp 2) rfl w.heap.size (by rfl) _ _ _ hA0 Try.underlying22 rfl (by rw [bv_size, HA.out]; exact Try.sizeA32) ?_)
  refine (Text_calls a _ HA.out).mono ?_
  rintro e w1 ⟨rfl, hw1⟩
  have hR1 : Blk w1 (w.heap.size + 1) Z32 22 := by rw [hw1]; exact hR0.alloc _
  have hb1 : Below w.heap.size w w1 := by rw [hw1]; exact hb0.alloc hb0.size _
  clear hw1 hA0 hR0 hb0
  have ha := HA.out
  have hstr : ((⟨#[115, 97, 105, 100]⟩ : ByteArray) ++ str a) = str ([115, 97, 105, 100] ++ a) := by
    rw [← str_append]; rfl
  go_wp2_with fail
  refine (RefSum_calls (115 :: 97 :: 105 :: 100 :: (a ++ c)) _ (by simp; omega)).mono ?_
  rintro e w2 ⟨rfl, b2⟩
  have hR2 := Blk.below hR1 b2 (Blk.lt hR1)
  have hb2 := hb1.trans (b2.mono hb1.size)
  rw [show sha (115 :: 97 :: 105 :: 100 :: (a ++ c)) = saidT a c from by simp only [saidT, List.cons_append, List.nil_append]]
  have h32 : Hid ((saidT a c).length = 32) := saidT_len _ _
  clear hR1 hb1 b2 hstr ha
  go_wp2_with ((with_reducible show wpList _ _ _ (⟨none, Op.store _ (.tmp 4) _, _, _, _, _⟩ :: _) _ _); refine wpList_storeBlk rfl 22 (.tmp 4) (.tmp 10) rfl (w.heap.size + 1) ((saidT a c).map bv).toArray (by rfl) (by rfl) _ _ hR2 (by rw [bv_size, h32.out]; exact Try.sizeA32) (by rw [bv_size, h32.out, Z32_size]) (bv_all _) ?_; intro w9 hB9 g9; have h9 := hb2.trans (grown_below g9 (by omega) hb2.size))
  refine ret_blk rfl (w.heap.size + 1) _ _ _ (by rfl) hB9 Try.underlying22 rfl (by rw [bv_size, h32.out]; exact Try.sizeA32) rfl ?_
  exact ⟨rfl, h9⟩
end Go.Proofs.Ytnfegmcdljejnaa
