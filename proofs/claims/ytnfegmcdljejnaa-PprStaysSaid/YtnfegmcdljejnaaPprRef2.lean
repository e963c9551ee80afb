/-
  The document's rows: Key, Within.
-/
import Derived.Test.YtnfegmcdljejnaaPprRef
set_option linter.unusedSimpArgs false
set_option linter.unusedVariables false
namespace Go.Proofs.Ytnfegmcdljejnaa
open Go.RowKit

theorem Try.sizeR6 : (Try.prog.info? 54).map (·.size) = some 34 := by kernel_rfl
theorem rcells_len (root : List UInt8) (B : Nat) (v : Value) (h : root.length = 32) : (rcells root B v).length = 34 := by simp [rcells, h]
theorem rcells_bits (root : List UInt8) (B : Nat) (v : Value) (h : root.length = 32) : (rcells root B v).toArray[32]? = some (.int .i64 B) := by
  rw [List.getElem?_toArray, rcells, List.getElem?_append_right (by simp [h])]
  simp [h]
theorem rcells_taken (root : List UInt8) (B : Nat) (v : Value) (h : root.length = 32) : (rcells root B v).toArray[33]? = some v := by
  rw [List.getElem?_toArray, rcells, List.getElem?_append_right (by simp [h])]
  simp [h]
set_option maxHeartbeats 4000000 in
set_option maxRecDepth 100000 in
theorem RKey_calls (root : List UInt8) (B : Nat) (v : Value) (p : Nat) (w : World) (hh : root.length = 32) (hl : B ≤ 36) (hp : p ≤ 68719476736) : Calls Try.prog 42 #[.agg (rcells root B v).toArray, .int .i64 p] w fun e w' => e = .returned (.agg ((keyT (atD p B root)).map bv).toArray) ∧ Below w.heap.size w w' := by
  have HA := Lib.hid hh
  have hA0 : Blk ((w.alloc (.cells (rcells root B v).toArray 54)).alloc (.cells Z32 22)) w.heap.size (rcells root B v).toArray 54 := (Blk.new _ _ _).alloc _
  have hR0 : Blk ((w.alloc (.cells (rcells root B v).toArray 54)).alloc (.cells Z32 22)) (w.heap.size + 1) Z32 22 := blk_new1 _ _ _ _
  have hb0 : Below w.heap.size w ((w.alloc (.cells (rcells root B v).toArray 54)).alloc (.cells Z32 22)) := ((Below.refl _ _).alloc (Nat.le_refl _) _).alloc (by simp) _
  have hcb := hA0.cell 32 _ (rcells_bits root B v hh)
  obtain ⟨x, hx⟩ : ∃ x, x = atD p B root := ⟨_, rfl⟩
  have HX : Hid (x.length = 32) := by show _ = _; rw [hx]; exact atD_len _ _ _ hh
  obtain ⟨k, hk⟩ : ∃ k, k = keyT x := ⟨_, rfl⟩
  have HK : Hid (k.length = 32) := by show _ = _; rw [hk]; exact keyT_len _
  have c1 : ∀ z, Calls Try.prog 103 #[.agg (rcells root B v).toArray, .int .i64 B, .int .i64 p] z fun e w' => e = .returned (.agg (x.map bv).toArray) ∧ Below z.heap.size z w' := by rw [hx]; exact fun z => at_calls root B v B p z hh hl hp
  have c2 : ∀ z, Calls Try.prog 92 #[.string (str (lKey ++ x))] z fun e w' => e = .returned (.agg (k.map bv).toArray) ∧ Below z.heap.size z w' := fun z => by
    rw [hk]
    exact RefSum_calls (lKey ++ x) z (by simp [HX.out, lKey])
  have hstr : ((⟨#[107, 101, 121]⟩ : ByteArray) ++ str x) = str (lKey ++ x) := by rw [← str_append]; rfl
  have hxl : x.length ≤ 32 := by rw [HX.out]; omega
  rw [← hx, ← hk]
  clear hx hk hh
  go_enter Try.func42, Try.ntmps42
  go_wp2_with ((with_reducible show wpList _ _ _ (⟨some 6, _, _, _, _, _⟩ :: _) _ _); refine wpList_load_mid rfl 54 (.tmp 2) rfl w.heap.size 0 (by rfl) (rcells root B v) _ (blk_rangeR hA0) Try.underlying54 rfl (by rw [rcells_len _ _ _ HA.out]; exact Try.sizeR6) ?_)
  generalize (w.alloc (.cells (rcells root B v).toArray 54)).alloc (.cells Z32 22) = W0 at hA0 hR0 hb0 hcb ⊢
  refine (c1 _).mono ?_
  rintro e w1 ⟨rfl, b1⟩
  have hR1 := (hR0.below b1 hR0.lt).alloc (.cells Z32 22)
  have hb1 := hb0.trans (b1.mono hb0.size)
  have hN := Blk.new w1 Z32 22
  have hb2 := hb1.alloc hb1.size (.cells Z32 22)
  have hs1 : w.heap.size + 1 < w1.heap.size := (hR0.below b1 hR0.lt).lt
  clear b1 hR0 hb0 hb1 hcb hA0 c1
  go_wp2_with (first | ((with_reducible show wpList _ _ _ (⟨none, Op.store _ (.tmp 5) _, _, _, _, _⟩ :: _) _ _); refine wpList_storeBlk rfl 22 (.tmp 5) (.tmp 10) rfl w1.heap.size (x.map bv).toArray (by rfl) (by rfl) _ _ hN (by rw [bv_size, HX.out]; exact Try.sizeA32) (by rw [bv_size, HX.out, Z32_size]) (bv_all _) ?_; intro w2 hX2 g2; have hR2 := hR1.grown g2 (by simp; omega); have hb3 := below_new hb2 g2 (by omega) hb2.size; have hcv := conv_blk HX.out hX2; clear hN hR1 hb2 g2))
  refine (c2 _).mono ?_
  rintro e w3 ⟨rfl, b3⟩
  have hR3 := hR2.below b3 hR2.lt
  have hb4 := hb3.trans (b3.mono hb3.size)
  clear hR2 hb3 b3 hcv c2
  go_wp2_with ((with_reducible show wpList _ _ _ (⟨none, Op.store _ (.tmp 4) _, _, _, _, _⟩ :: _) _ _); refine wpList_storeBlk rfl 22 (.tmp 4) (.tmp 14) rfl (w.heap.size + 1) (k.map bv).toArray (by rfl) (by rfl) _ _ hR3 (by rw [bv_size, HK.out]; exact Try.sizeA32) (by rw [bv_size, HK.out, Z32_size]) (bv_all _) ?_; intro w9 hB9 g9; have h9 := hb4.trans (grown_below g9 (by omega) hb4.size))
  refine ret_blk rfl (w.heap.size + 1) _ _ _ (by rfl) hB9 Try.underlying22 rfl (by rw [bv_size, HK.out]; exact Try.sizeA32) rfl ?_
  exact ⟨rfl, h9⟩
set_option maxHeartbeats 4000000 in
set_option maxRecDepth 100000 in
theorem RWithin_calls (root : List UInt8) (B : Nat) (v : Value) (p : Int) (w : World) (hh : root.length = 32) (hl : B ≤ 32) : Calls Try.prog 41 #[.agg (rcells root B v).toArray, .int .i64 p] w fun e w' => e = .returned (.bool (withinT B p)) ∧ Below w.heap.size w w' := by
  have hA0 : Blk (w.alloc (.cells (rcells root B v).toArray 54)) w.heap.size (rcells root B v).toArray 54 := Blk.new _ _ _
  have hb0 : Below w.heap.size w (w.alloc (.cells (rcells root B v).toArray 54)) := below_alloc1 _ _
  have hcb := hA0.cell 32 _ (rcells_bits root B v hh)
  obtain ⟨P, hP⟩ : ∃ P, P = 2 ^ B := ⟨_, rfl⟩
  have c1 : ∀ z, Calls Try.prog 102 #[.int .i64 B] z fun e w' => e = .returned (.int .i64 (P : Nat)) ∧ Below z.heap.size z w' := by rw [hP]; exact fun z => power_calls B z (by omega)
  by_cases h0 : 0 ≤ p
  · have hf : Hid (withinT B p = decide (p < (P : Int))) := by show _ = _; rw [withinT, hP]; simp [h0]
    clear hP hA0
    go_enter Try.func41, Try.ntmps41
    go_wp2_with fail
    generalize w.alloc (.cells (rcells root B v).toArray 54) = W0 at hb0 hcb ⊢
    refine (c1 _).mono ?_
    rintro e w1 ⟨rfl, b1⟩
    have hb1 := hb0.trans (b1.mono hb0.size)
    go_wp2_with fail
    go_returns
    rw [hf.out]
    exact ⟨rfl, hb1⟩
  · have h3 : p < 0 := by omega
    have hf : Hid (withinT B p = false) := decide_eq_false (by omega)
    clear hP hA0
    go_enter Try.func41, Try.ntmps41
    go_wp2_with fail
    go_returns
    rw [hf.out]
    exact ⟨rfl, hb0⟩
end Go.Proofs.Ytnfegmcdljejnaa
