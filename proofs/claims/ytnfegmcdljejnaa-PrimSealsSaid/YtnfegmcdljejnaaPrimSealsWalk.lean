/-
  PrimSeals: the seal of any text, about any other one, is the document's, and is opened as it was: for every digest and every two texts.
-/
import Derived.Test.YtnfegmcdljejnaaAwakePrim
set_option linter.unusedSimpArgs false
set_option linter.unusedVariables false
namespace Go.Proofs.Ytnfegmcdljejnaa
open Go.RowKit

set_option maxHeartbeats 4000000 in
set_option maxRecDepth 100000 in
theorem walkPrimSeals (a : List UInt8) (ha : a.length = 32) (s : List UInt8) (hm1 : s.length ≤ maxLen) (t : List UInt8) (hm2 : t.length ≤ maxLen) (w : World) :
    Calls Try.prog 10 #[.agg (a.map bv).toArray, .string (str s), .string (str t)] w fun e w' => e = .returned (.bool true) ∧ Below w.heap.size w w' := by
  have HA := Lib.hid ha
  clear ha
  unfold maxLen at hm1 hm2
  have hA0 : Blk (w.alloc (.cells (a.map bv).toArray 23)) w.heap.size (a.map bv).toArray 23 := Blk.new _ _ _
  have hb0 : Below w.heap.size w (w.alloc (.cells (a.map bv).toArray 23)) := (Below.refl _ _).alloc (Nat.le_refl _) _
  by_cases hs : 3000 < s.length
  · skip
    go_enter Try.func10, Try.ntmps10
    go_wp2_with fail
    generalize w.alloc (.cells (a.map bv).toArray 23) = W0 at hA0 hb0 ⊢
    refine (awake5_calls _).mono ?_
    rintro e w1 ⟨rfl, b1⟩
    have hA01 := hA0.below b1 hA0.lt
    have hb01 := hb0.trans (b1.mono hb0.size)
    clear b1 hA0 hb0
    go_wp2_with fail
    refine (awake5_calls _).mono ?_
    rintro e w2 ⟨rfl, b2⟩
    have hb2 := hb01.trans (b2.mono hb01.size)
    go_wp2_with fail
    go_returns
    exact ⟨rfl, hb2⟩
  by_cases ht : 3000 < t.length ∧ t.length ≤ 65536
  · obtain ⟨ht1, ht2⟩ := ht
    go_enter Try.func10, Try.ntmps10
    go_wp2_with fail
    generalize w.alloc (.cells (a.map bv).toArray 23) = W0 at hA0 hb0 ⊢
    refine (awake5_calls _).mono ?_
    rintro e w1 ⟨rfl, b1⟩
    have hA01 := hA0.below b1 hA0.lt
    have hb01 := hb0.trans (b1.mono hb0.size)
    clear b1 hA0 hb0
    go_wp2_with fail
    refine (awake5_calls _).mono ?_
    rintro e w2 ⟨rfl, b2⟩
    have hb2 := hb01.trans (b2.mono hb01.size)
    go_wp2_with fail
    go_returns
    exact ⟨rfl, hb2⟩
  by_cases ht3 : 65536 < t.length
  · have hm3 : t.length ≤ maxLen := by unfold maxLen; omega
    clear ht
    go_enter Try.func10, Try.ntmps10
    go_wp2_with fail
    generalize w.alloc (.cells (a.map bv).toArray 23) = W0 at hA0 hb0 ⊢
    refine (awake5_calls _).mono ?_
    rintro e w1 ⟨rfl, b1⟩
    have hA01 := hA0.below b1 hA0.lt
    have hb01 := hb0.trans (b1.mono hb0.size)
    clear b1 hA0 hb0
    go_wp2_with ((with_reducible show wpList _ _ _ (⟨some 28, _, _, _, _, _⟩ :: _) _ _); refine wpList_load_mid rfl 23 (.tmp 3) rfl (w.heap.size) 0 (by rfl) (a.map bv) _ (blk_range hA01) Try.underlying23 rfl (by rw [List.length_map, HA.out]; exact Try.sizeHash) ?_)
    refine (SealLong_calls a s t _ ht3 hm3).mono ?_
    rintro e wq35 ⟨rfl, bq36⟩
    have hBq37 := hA01.below bq36 hA01.lt
    have hbq38 := hb01.trans (bq36.mono hb01.size)
    clear hA01 hb01 bq36
    go_wp2_with fail
    go_returns
    exact ⟨rfl, hbq38⟩
  have ht4 : t.length ≤ 3000 := by omega
  obtain ⟨x, hx⟩ : ∃ x, x = sealT a s t := ⟨_, rfl⟩
  have hxl : x.length = t.length + 16 := by rw [hx]; exact sealT_len _ _ _
  have c1 : ∀ y, Calls Try.prog 49 #[.pointer none, .agg (a.map bv).toArray, .string (str s), .string (str t), .slice none 0 0] y fun e w' => e = .returned (.string (str x)) ∧ Below y.heap.size y w' := by rw [hx]; exact fun y => Seal_calls a s t y HA.out (by omega) (by omega)
  have c2 : ∀ y, Calls Try.prog 51 #[.agg (a.map bv).toArray, .string (str s), .string (str t)] y fun e w' => e = .returned (.string (str x)) ∧ Below y.heap.size y w' := by rw [hx]; exact fun y => RefSeal_calls a s t y HA.out (by omega) (by omega)
  have c3 : ∀ y, Calls Try.prog 50 #[.agg (a.map bv).toArray, .string (str s), .string (str x)] y fun e w' => e = .returned (.tuple #[.string (str t), .int .i64 0]) ∧ Below y.heap.size y w' := by
    have h1 : openV a s x = (t, 0) := by rw [hx]; exact open_seal a s t (by omega)
    have h2 := fun y => Open_calls a s x y HA.out (by omega) (by unfold maxLen; omega)
    rw [h1] at h2
    exact h2
  clear hx ht ht3
  go_enter Try.func10, Try.ntmps10
  go_wp2_with fail
  generalize w.alloc (.cells (a.map bv).toArray 23) = W0 at hA0 hb0 ⊢
  refine (awake5_calls _).mono ?_
  rintro e w1 ⟨rfl, b1⟩
  have hA01 := hA0.below b1 hA0.lt
  have hb01 := hb0.trans (b1.mono hb0.size)
  clear b1 hA0 hb0
  go_wp2_with ((with_reducible show wpList _ _ _ (⟨some 28, _, _, _, _, _⟩ :: _) _ _); refine wpList_load_mid rfl 23 (.tmp 3) rfl (w.heap.size) 0 (by rfl) (a.map bv) _ (blk_range hA01) Try.underlying23 rfl (by rw [List.length_map, HA.out]; exact Try.sizeHash) ?_)
  refine (c1 _).mono ?_
  rintro e wq39 ⟨rfl, bq40⟩
  have hBq41 := hA01.below bq40 hA01.lt
  have hbq42 := hb01.trans (bq40.mono hb01.size)
  clear hA01 hb01 bq40
  go_wp2_with ((with_reducible show wpList _ _ _ (⟨some 38, _, _, _, _, _⟩ :: _) _ _); refine wpList_load_mid rfl 23 (.tmp 3) rfl (w.heap.size) 0 (by rfl) (a.map bv) _ (blk_range hBq41) Try.underlying23 rfl (by rw [List.length_map, HA.out]; exact Try.sizeHash) ?_)
  refine (c3 _).mono ?_
  rintro e wq43 ⟨rfl, bq44⟩
  have hBq45 := hBq41.below bq44 hBq41.lt
  have hbq46 := hbq42.trans (bq44.mono hbq42.size)
  clear hBq41 hbq42 bq44
  go_wp2_with ((with_reducible show wpList _ _ _ (⟨some 45, _, _, _, _, _⟩ :: _) _ _); refine wpList_load_mid rfl 23 (.tmp 3) rfl (w.heap.size) 0 (by rfl) (a.map bv) _ (blk_range hBq45) Try.underlying23 rfl (by rw [List.length_map, HA.out]; exact Try.sizeHash) ?_)
  refine (c2 _).mono ?_
  rintro e wq47 ⟨rfl, bq48⟩
  have hBq49 := hBq45.below bq48 hBq45.lt
  have hbq50 := hbq46.trans (bq48.mono hbq46.size)
  clear hBq45 hbq46 bq48
  go_wp2_with fail
  go_returns
  exact ⟨rfl, hbq50⟩

end Go.Proofs.Ytnfegmcdljejnaa
