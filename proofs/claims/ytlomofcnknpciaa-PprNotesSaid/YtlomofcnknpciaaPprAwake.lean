/-
  Plain facts for the document's example of rows (awake of bevylaw06).
  The document's example of rows (awake of bevylaw06).
-/
import Derived.Test.YtlomofcnknpciaaPprTake
import Derived.Test.YtlomofcnknpciaaPprSeeds
set_option linter.unusedSimpArgs false
set_option linter.unusedVariables false
namespace Go.Proofs.Ytlomofcnknpciaa
open Go.RowKit

theorem stK_example (D : Bool → List UInt8 → List UInt8) (h : List UInt8) : wayT 2 1 0 = 0 ∧ wayT 2 1 1 = 1 := by decide
theorem stK_two (h : List UInt8) : stK 2 1 ⟨0, 0, h⟩ 2 = (⟨2, 1, downT true (downT false h)⟩, [⟨2, 0, downT false (downT false h)⟩], [⟨1, 1, downT true h⟩]) := by
  have w0 : wayT 2 1 0 = 0 := by decide
  have w1 : wayT 2 1 1 = 1 := by decide
  simp [stK, Sd.child, w0, w1]
theorem find_first (h : List UInt8) : findT 2 1 [⟨0, 0, h⟩] = some 0 := by simp [findT]
theorem take_first (h : List UInt8) : takeT 2 1 [⟨0, 0, h⟩] = [⟨2, 0, downT false (downT false h)⟩, ⟨1, 1, downT true h⟩] := by
  have hw : withinT 2 1 = true := by decide
  have hf := find_first h
  have hs := stK_two h
  rw [takeT, if_pos hw]
  simp [hf, hs]
theorem look_first (h : List UInt8) : (lookT 2 1 [⟨0, 0, h⟩]).2 = 0 := by
  have hw : withinT 2 1 = true := by decide
  have hf := find_first h
  rw [lookT, if_pos hw]
  simp [hf]
theorem find_second (a b : List UInt8) : findT 2 1 [⟨2, 0, a⟩, ⟨1, 1, b⟩] = none := by simp [findT, List.findIdx?_cons]
theorem find_third (a b : List UInt8) : findT 2 2 [⟨2, 0, a⟩, ⟨1, 1, b⟩] = some 1 := by simp [findT, List.findIdx?_cons]
theorem look_second (a b : List UInt8) : lookT 2 1 [⟨2, 0, a⟩, ⟨1, 1, b⟩] = (zh32, 10) := by
  have hw : withinT 2 1 = true := by decide
  rw [lookT, if_pos hw]
  simp [find_second a b]
theorem take_second (a b : List UInt8) : takeT 2 1 [⟨2, 0, a⟩, ⟨1, 1, b⟩] = [⟨2, 0, a⟩, ⟨1, 1, b⟩] := by
  have hw : withinT 2 1 = true := by decide
  rw [takeT, if_pos hw]
  simp [find_second a b]
theorem gone_one (a b : List UInt8) : goneT 2 1 [⟨2, 0, a⟩, ⟨1, 1, b⟩] = true := by
  rw [goneT]; simp [find_second a b]
theorem gone_two (a b : List UInt8) : goneT 2 2 [⟨2, 0, a⟩, ⟨1, 1, b⟩] = false := by
  have hw : withinT 2 2 = true := by decide
  rw [goneT, hw]; simp [find_third a b]
end Go.Proofs.Ytlomofcnknpciaa
set_option linter.unusedSimpArgs false
set_option linter.unusedVariables false
namespace Go.Proofs.Ytlomofcnknpciaa
open Go.RowKit

def rk1 : List UInt8 := 1 :: List.replicate 31 0
theorem Try.builtR1 : Try.prog.built 23 [(0, .int .u8 1)] = some (rk1.map bv).toArray := by kernel_rfl
theorem RowAt.grownR {w w' : World} {r B : Nat} {l : List Sd} (h : RowAt w r B l) (b : Below w.heap.size w w') : RowAt w' r B l := h.below b

set_option maxHeartbeats 4000000 in
set_option maxRecDepth 100000 in
theorem awake6_calls (w : World) : Calls Try.prog 16 #[] w fun e w' => e = .returned (.bool true) ∧ Below w.heap.size w w' := by
  obtain ⟨h1, hh1⟩ : ∃ h, h = downT false (downT false rk1) := ⟨_, rfl⟩
  obtain ⟨h2, hh2⟩ : ∃ h, h = downT true rk1 := ⟨_, rfl⟩
  obtain ⟨k0, hk0⟩ : ∃ k, k = (lookT 2 1 [⟨0, 0, rk1⟩]).1 := ⟨_, rfl⟩
  have HK0 : Hid (k0.length = 32) := by show _ = _; rw [hk0]; exact lookT_len _ _ _
  have ok0 : RowOk 2 [⟨0, 0, rk1⟩] := ⟨by simp, by simp⟩
  have ok1 : RowOk 2 [⟨2, 0, h1⟩, ⟨1, 1, h2⟩] := ⟨by simp, by simp⟩
  have hl0 : lookT 2 1 [⟨0, 0, rk1⟩] = (k0, 0) := by rw [hk0, ← look_first rk1]
  have ht0 := take_first rk1
  rw [← hh1, ← hh2] at ht0
  have c1 : ∀ r y, RowAt y r 2 [⟨0, 0, rk1⟩] → Calls Try.prog 19 #[.pointer (some ⟨r, 0, none⟩), .pointer none, .int .i64 1] y fun e w' => e = .returned (.tuple #[.agg (k0.map bv).toArray, .int .i64 0]) ∧ RowAt w' r 2 [⟨2, 0, h1⟩, ⟨1, 1, h2⟩] ∧ y.grownBy w' (some r) := fun r y hy => by
    have := Take_calls r 2 1 _ y hy (by omega) ok0 (by omega) (by omega)
    rw [hl0, ht0] at this
    exact this
  have c2 : ∀ r y, RowAt y r 2 [⟨2, 0, h1⟩, ⟨1, 1, h2⟩] → Calls Try.prog 19 #[.pointer (some ⟨r, 0, none⟩), .pointer none, .int .i64 1] y fun e w' => e = .returned (.tuple #[.agg (zh32.map bv).toArray, .int .i64 10]) ∧ RowAt w' r 2 [⟨2, 0, h1⟩, ⟨1, 1, h2⟩] ∧ y.grownBy w' (some r) := fun r y hy => by
    have := Take_calls r 2 1 _ y hy (by omega) ok1 (by omega) (by omega)
    rw [look_second, take_second] at this
    exact this
  clear hk0 hl0 ht0 hh1 hh2
  go_enter Try.func16, Try.ntmps16
  go_wp2_with ((with_reducible show wpList _ _ _ (⟨some 8, _, _, _, _, _⟩ :: _) _ _); refine wpList_buildCells rfl 23 #[(0, .const (.int .u8 1))] rfl _ Try.builtR1 ?_)
  refine (New6_calls rk1 2 _ rfl (by omega) (by omega)).mono ?_
  rintro e w1 ⟨r, rfl, hr, hR1, b1⟩
  go_wp2_with fail
  refine (c1 r _ hR1).mono ?_
  rintro e w2 ⟨rfl, hR2, g2⟩
  have b2 : Below w.heap.size w w2 := b1.grown g2 b1.size (fun q e => by cases e; exact hr)
  have hN := Blk.new w2 Z32 23
  have b3 := b2.alloc b2.size (.cells Z32 23)
  have HR2 := Lib.hid hR2
  have hz2 := b2.size
  clear hR1 hR2 g2 b1 b3 c1
  go_wp2_with ((with_reducible show wpList _ _ _ (⟨none, Op.store _ (.tmp 3) _, _, _, _, _⟩ :: _) _ _); refine wpList_storeBlk rfl 23 (.tmp 3) (.tmp 17) rfl w2.heap.size (k0.map bv).toArray (by rfl) (by rfl) _ _ hN (by rw [bv_size, HK0.out]; exact Try.sizeHash) (by rw [bv_size, HK0.out, Z32_size]) (bv_all _) ?_; intro w4 hK4 g4; have b24 := below_new (below_alloc1 w2 (.cells Z32 23)) g4 (Nat.le_refl _) (below_alloc1 w2 (.cells Z32 23)).size; clear hN g4 hK4)
  have hR4 := HR2.out.below b24
  have b4 := b2.trans (b24.mono b2.size)
  clear HR2 b24 b2
  refine (c2 r _ hR4).mono ?_
  rintro e w5 ⟨rfl, hR5, g5⟩
  have b5 : Below w.heap.size w w5 := b4.grown g5 b4.size (fun q e => by cases e; exact hr)
  have hN5 := Blk.new w5 Z32 23
  have HR5 := Lib.hid hR5
  clear hR4 hR5 g5 b4 c2
  go_wp2_with ((with_reducible show wpList _ _ _ (⟨none, Op.store _ (.tmp 5) _, _, _, _, _⟩ :: _) _ _); refine wpList_storeBlk rfl 23 (.tmp 5) (.tmp 22) rfl w5.heap.size (zh32.map bv).toArray (by rfl) (by rfl) _ _ hN5 Try.sizeHash rfl (bv_all _) ?_; intro w6 hK6 g6; have b56 := below_new (below_alloc1 w5 (.cells Z32 23)) g6 (Nat.le_refl _) (below_alloc1 w5 (.cells Z32 23)).size; clear hN5 g6 hK6)
  have hR6 := HR5.out.below b56
  have b6 := b5.trans (b56.mono b5.size)
  clear HR5 b56 b5
  refine (Seeds_calls r 2 _ _ hR6 (by simp)).mono ?_
  rintro e w7 ⟨v, rfl, hv, b7⟩
  obtain ⟨ao, c, rfl⟩ := own_slice hv
  have hR7 := hR6.below b7
  have b8 := b6.trans (b7.mono b6.size)
  clear hR6 b6 b7 hv
  go_wp2_with fail
  have hg1 := fun y hy => Gone_calls r 2 1 [⟨2, 0, h1⟩, ⟨1, 1, h2⟩] y hy (by omega) (by simp) (by simp) (by omega) (by omega)
  have hg2 := fun y hy => Gone_calls r 2 2 [⟨2, 0, h1⟩, ⟨1, 1, h2⟩] y hy (by omega) (by simp) (by simp) (by omega) (by omega)
  rw [gone_one] at hg1
  rw [gone_two] at hg2
  refine (hg1 _ hR7).mono ?_
  rintro e w9 ⟨rfl, b9⟩
  have hR9 := hR7.below b9
  have b10 := b8.trans (b9.mono b8.size)
  clear hR7 b8 b9 hg1
  go_wp2_with fail
  refine (hg2 _ hR9).mono ?_
  rintro e w11 ⟨rfl, b11⟩
  have b12 := b10.trans (b11.mono b10.size)
  clear hR9 b10 b11 hg2
  go_wp2_with fail
  go_returns
  exact ⟨rfl, b12⟩
end Go.Proofs.Ytlomofcnknpciaa
