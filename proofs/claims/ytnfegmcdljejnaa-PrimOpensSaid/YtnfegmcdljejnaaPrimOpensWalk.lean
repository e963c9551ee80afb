/-
  PrimOpens: any bytes are opened, or refused, as the document says: for every digest and every two texts.
-/
import Derived.Test.YtnfegmcdljejnaaAwakePrim
set_option linter.unusedSimpArgs false
set_option linter.unusedVariables false
namespace Go.Proofs.Ytnfegmcdljejnaa
open Go.RowKit

set_option maxHeartbeats 4000000 in
set_option maxRecDepth 100000 in
theorem walkPrimOpens (a : List UInt8) (ha : a.length = 32) (s : List UInt8) (hm1 : s.length ≤ maxLen) (t : List UInt8) (hm2 : t.length ≤ maxLen) (w : World) :
    Calls Try.prog 11 #[.agg (a.map bv).toArray, .string (str s), .string (str t)] w fun e w' => e = .returned (.bool true) ∧ Below w.heap.size w w' := by
  have HA := Lib.hid ha
  clear ha
  unfold maxLen at hm1 hm2
  have hA0 : Blk (w.alloc (.cells (a.map bv).toArray 23)) w.heap.size (a.map bv).toArray 23 := Blk.new _ _ _
  have hb0 : Below w.heap.size w (w.alloc (.cells (a.map bv).toArray 23)) := (Below.refl _ _).alloc (Nat.le_refl _) _
  by_cases hs : 3000 < s.length
  · skip
    go_enter Try.func11, Try.ntmps11
    go_wp2_with fail
    generalize w.alloc (.cells (a.map bv).toArray 23) = W0 at hA0 hb0 ⊢
    refine (awake5_calls _).mono ?_
    rintro e w1 ⟨rfl, b1⟩
    have hA01 := hA0.below b1 hA0.lt
    have hb01 := hb0.trans (b1.mono hb0.size)
    clear b1 hA0 hb0
    go_wp2_with fail
    refine (awake5_calls _).mono ?_
    rintro e w2 ⟨rfl, b2⟩
    have hb2 := hb01.trans (b2.mono hb01.size)
    go_wp2_with fail
    go_returns
    exact ⟨rfl, hb2⟩
  by_cases ht : 3000 < t.length ∧ t.length ≤ 65584
  · obtain ⟨ht1, ht2⟩ := ht
    go_enter Try.func11, Try.ntmps11
    go_wp2_with fail
    generalize w.alloc (.cells (a.map bv).toArray 23) = W0 at hA0 hb0 ⊢
    refine (awake5_calls _).mono ?_
    rintro e w1 ⟨rfl, b1⟩
    have hA01 := hA0.below b1 hA0.lt
    have hb01 := hb0.trans (b1.mono hb0.size)
    clear b1 hA0 hb0
    go_wp2_with fail
    refine (awake5_calls _).mono ?_
    rintro e w2 ⟨rfl, b2⟩
    have hb2 := hb01.trans (b2.mono hb01.size)
    go_wp2_with fail
    go_returns
    exact ⟨rfl, hb2⟩
  by_cases ht3 : 65584 < t.length
  · have c1 : ∀ y, Calls Try.prog 50 #[.agg (a.map bv).toArray, .string (str s), .string (str t)] y fun e w' => e = .returned (.tuple #[.string (str []), .int .i64 5]) ∧ Below y.heap.size y w' := fun y => OpenLong_calls a s t y (by omega) (by unfold maxLen; omega)
    have c2 : ∀ y, Calls Try.prog 52 #[.agg (a.map bv).toArray, .string (str s), .string (str t)] y fun e w' => e = .returned (.tuple #[.string (str []), .int .i64 5]) ∧ Below y.heap.size y w' := by
      have h1 : unwrapV a s t = ([], 5) := by rw [unwrapV, if_neg (by omega), openV, if_neg (by rw [List.length_drop]; omega), if_pos (by rw [List.length_drop]; omega)]
      have h2 := fun y => Unwrap_calls a s t y HA.out (by omega) (by unfold maxLen; omega)
      rw [h1] at h2
      exact h2
    clear ht
    go_enter Try.func11, Try.ntmps11
    go_wp2_with fail
    generalize w.alloc (.cells (a.map bv).toArray 23) = W0 at hA0 hb0 ⊢
    refine (awake5_calls _).mono ?_
    rintro e w1 ⟨rfl, b1⟩
    have hA01 := hA0.below b1 hA0.lt
    have hb01 := hb0.trans (b1.mono hb0.size)
    clear b1 hA0 hb0
    go_wp2_with ((with_reducible show wpList _ _ _ (⟨some 41, _, _, _, _, _⟩ :: _) _ _); refine wpList_load_mid rfl 23 (.tmp 3) rfl (w.heap.size) 0 (by rfl) (a.map bv) _ (blk_range hA01) Try.underlying23 rfl (by rw [List.length_map, HA.out]; exact Try.sizeHash) ?_)
    refine (c1 _).mono ?_
    rintro e wq51 ⟨rfl, bq52⟩
    have hBq53 := hA01.below bq52 hA01.lt
    have hbq54 := hb01.trans (bq52.mono hb01.size)
    clear hA01 hb01 bq52
    go_wp2_with ((with_reducible show wpList _ _ _ (⟨some 48, _, _, _, _, _⟩ :: _) _ _); refine wpList_load_mid rfl 23 (.tmp 3) rfl (w.heap.size) 0 (by rfl) (a.map bv) _ (blk_range hBq53) Try.underlying23 rfl (by rw [List.length_map, HA.out]; exact Try.sizeHash) ?_)
    refine (c2 _).mono ?_
    rintro e wq55 ⟨rfl, bq56⟩
    have hBq57 := hBq53.below bq56 hBq53.lt
    have hbq58 := hbq54.trans (bq56.mono hbq54.size)
    clear hBq53 hbq54 bq56
    go_wp2_with fail
    go_returns
    exact ⟨rfl, hbq58⟩
  have ht4 : t.length ≤ 3000 := by omega
  obtain ⟨x1, hx1⟩ : ∃ x, x = (openV a s t).1 := ⟨_, rfl⟩
  obtain ⟨x2, hx2⟩ : ∃ x, x = (openV a s t).2 := ⟨_, rfl⟩
  obtain ⟨y1, hy1⟩ : ∃ x, x = (unwrapV a s t).1 := ⟨_, rfl⟩
  obtain ⟨y2, hy2⟩ : ∃ x, x = (unwrapV a s t).2 := ⟨_, rfl⟩
  have c1 : ∀ y, Calls Try.prog 50 #[.agg (a.map bv).toArray, .string (str s), .string (str t)] y fun e w' => e = .returned (.tuple #[.string (str x1), .int .i64 x2]) ∧ Below y.heap.size y w' := by rw [hx1, hx2]; exact fun y => Open_calls a s t y HA.out (by omega) (by unfold maxLen; omega)
  have c2 : ∀ y, Calls Try.prog 52 #[.agg (a.map bv).toArray, .string (str s), .string (str t)] y fun e w' => e = .returned (.tuple #[.string (str y1), .int .i64 y2]) ∧ Below y.heap.size y w' := by rw [hy1, hy2]; exact fun y => Unwrap_calls a s t y HA.out (by omega) (by unfold maxLen; omega)
  have c3 : ∀ y, Calls Try.prog 53 #[.agg (a.map bv).toArray, .string (str s), .string (str t)] y fun e w' => e = .returned (.tuple #[.string (str x1), .int .i64 x2]) ∧ Below y.heap.size y w' := by rw [hx1, hx2]; exact fun y => RefOpen_calls a s t y HA.out (by omega) (by unfold maxLen; omega)
  have c4 : ∀ y, Calls Try.prog 54 #[.agg (a.map bv).toArray, .string (str s), .string (str t)] y fun e w' => e = .returned (.tuple #[.string (str y1), .int .i64 y2]) ∧ Below y.heap.size y w' := by rw [hy1, hy2]; exact fun y => RefUnwrap_calls a s t y HA.out (by omega) (by unfold maxLen; omega)
  clear hx1 hx2 hy1 hy2 ht ht3
  go_enter Try.func11, Try.ntmps11
  go_wp2_with fail
  generalize w.alloc (.cells (a.map bv).toArray 23) = W0 at hA0 hb0 ⊢
  refine (awake5_calls _).mono ?_
  rintro e w1 ⟨rfl, b1⟩
  have hA01 := hA0.below b1 hA0.lt
  have hb01 := hb0.trans (b1.mono hb0.size)
  clear b1 hA0 hb0
  go_wp2_with ((with_reducible show wpList _ _ _ (⟨some 69, _, _, _, _, _⟩ :: _) _ _); refine wpList_load_mid rfl 23 (.tmp 3) rfl (w.heap.size) 0 (by rfl) (a.map bv) _ (blk_range hA01) Try.underlying23 rfl (by rw [List.length_map, HA.out]; exact Try.sizeHash) ?_)
  refine (c1 _).mono ?_
  rintro e wq59 ⟨rfl, bq60⟩
  have hBq61 := hA01.below bq60 hA01.lt
  have hbq62 := hb01.trans (bq60.mono hb01.size)
  clear hA01 hb01 bq60
  go_wp2_with ((with_reducible show wpList _ _ _ (⟨some 76, _, _, _, _, _⟩ :: _) _ _); refine wpList_load_mid rfl 23 (.tmp 3) rfl (w.heap.size) 0 (by rfl) (a.map bv) _ (blk_range hBq61) Try.underlying23 rfl (by rw [List.length_map, HA.out]; exact Try.sizeHash) ?_)
  refine (c2 _).mono ?_
  rintro e wq63 ⟨rfl, bq64⟩
  have hBq65 := hBq61.below bq64 hBq61.lt
  have hbq66 := hbq62.trans (bq64.mono hbq62.size)
  clear hBq61 hbq62 bq64
  go_wp2_with ((with_reducible show wpList _ _ _ (⟨some 83, _, _, _, _, _⟩ :: _) _ _); refine wpList_load_mid rfl 23 (.tmp 3) rfl (w.heap.size) 0 (by rfl) (a.map bv) _ (blk_range hBq65) Try.underlying23 rfl (by rw [List.length_map, HA.out]; exact Try.sizeHash) ?_)
  refine (c3 _).mono ?_
  rintro e wq67 ⟨rfl, bq68⟩
  have hBq69 := hBq65.below bq68 hBq65.lt
  have hbq70 := hbq66.trans (bq68.mono hbq66.size)
  clear hBq65 hbq66 bq68
  go_wp2_with ((with_reducible show wpList _ _ _ (⟨some 90, _, _, _, _, _⟩ :: _) _ _); refine wpList_load_mid rfl 23 (.tmp 3) rfl (w.heap.size) 0 (by rfl) (a.map bv) _ (blk_range hBq69) Try.underlying23 rfl (by rw [List.length_map, HA.out]; exact Try.sizeHash) ?_)
  refine (c4 _).mono ?_
  rintro e wq71 ⟨rfl, bq72⟩
  have hBq73 := hBq69.below bq72 hBq69.lt
  have hbq74 := hbq70.trans (bq72.mono hbq70.size)
  clear hBq69 hbq70 bq72
  go_wp2_with fail
  go_returns
  exact ⟨rfl, hbq74⟩

end Go.Proofs.Ytnfegmcdljejnaa
