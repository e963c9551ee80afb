/-
  PprKeys: the key at any place of any row is the document's.
-/
import Derived.Test.YtnfegmcdljejnaaPprLaw
import Derived.Test.YtnfegmcdljejnaaPprAwake
import Derived.Test.YtnfegmcdljejnaaPprRowLit
import Derived.Test.YtnfegmcdljejnaaHashEq
import Derived.Test.YtnfegmcdljejnaaOpenHash
set_option linter.unusedSimpArgs false
set_option linter.unusedVariables false
namespace Go.Proofs.Ytnfegmcdljejnaa
open Go.RowKit

set_option maxHeartbeats 4000000 in
set_option maxRecDepth 100000 in
theorem walkPprKeys (a : List UInt8) (ha : a.length = 32) (b : Int) (hwb : (Lit.int .i64 b).wf = true) (p : Int) (hwp : (Lit.int .i64 p).wf = true) (w : World) :
    Calls Try.prog 8 #[.agg (a.map bv).toArray, .int .i64 b, .int .i64 p] w fun e w' => e = .returned (.bool true) ∧ Below w.heap.size w w' := by
  have HA := Lib.hid ha
  obtain ⟨hp1, hp2⟩ := bounds_i64 hwp
  clear hwp hwb
  have hA0 : Blk (w.alloc (.cells (a.map bv).toArray 23)) w.heap.size (a.map bv).toArray 23 := Blk.new _ _ _
  have hb0 : Below w.heap.size w (w.alloc (.cells (a.map bv).toArray 23)) := below_alloc1 _ _
  by_cases h1 : b < 1
  · clear ha
    go_enter Try.func8, Try.ntmps8
    go_wp2_with ((with_reducible show wpList _ _ _ (⟨some 12, _, _, _, _, _⟩ :: _) _ _); refine wpList_load_mid rfl 23 (.tmp 3) rfl (w.heap.size) 0 (by rfl) (a.map bv) _ (blk_rangeP hA0) Try.underlying23 rfl (by rw [List.length_map, HA.out]; exact Try.sizeHash) ?_)
    generalize w.alloc (.cells (a.map bv).toArray 23) = W0 at hA0 hb0 ⊢
    have ltq3 : w.heap.size < W0.heap.size := hA0.lt
    refine (New6Bad_calls a b _ (by omega)).mono ?_
    rintro e wq1 ⟨rfl, bq2⟩
    have hCq4 := hA0.below bq2 hA0.lt
    have hBq5 := hb0.trans (bq2.mono hb0.size)
    clear hA0 hb0
    clear bq2
    go_wp2_with fail
    have ltq8 : w.heap.size < wq1.heap.size := hCq4.lt
    refine (awake6_calls _).mono ?_
    rintro e wq6 ⟨rfl, bq7⟩
    have hCq9 := hCq4.below bq7 hCq4.lt
    have hBq10 := hBq5.trans (bq7.mono hBq5.size)
    clear hCq4 hBq5
    clear bq7
    go_wp2_with fail
    go_returns
    exact ⟨rfl, hBq10⟩
  by_cases h2 : 32 < b
  · clear ha
    go_enter Try.func8, Try.ntmps8
    go_wp2_with ((with_reducible show wpList _ _ _ (⟨some 12, _, _, _, _, _⟩ :: _) _ _); refine wpList_load_mid rfl 23 (.tmp 3) rfl (w.heap.size) 0 (by rfl) (a.map bv) _ (blk_rangeP hA0) Try.underlying23 rfl (by rw [List.length_map, HA.out]; exact Try.sizeHash) ?_)
    generalize w.alloc (.cells (a.map bv).toArray 23) = W0 at hA0 hb0 ⊢
    have ltq13 : w.heap.size < W0.heap.size := hA0.lt
    refine (New6Bad_calls a b _ (by omega)).mono ?_
    rintro e wq11 ⟨rfl, bq12⟩
    have hCq14 := hA0.below bq12 hA0.lt
    have hBq15 := hb0.trans (bq12.mono hb0.size)
    clear hA0 hb0
    clear bq12
    go_wp2_with fail
    have ltq18 : w.heap.size < wq11.heap.size := hCq14.lt
    refine (awake6_calls _).mono ?_
    rintro e wq16 ⟨rfl, bq17⟩
    have hCq19 := hCq14.below bq17 hCq14.lt
    have hBq20 := hBq15.trans (bq17.mono hBq15.size)
    clear hCq14 hBq15
    clear bq17
    go_wp2_with fail
    go_returns
    exact ⟨rfl, hBq20⟩
  obtain ⟨B, rfl⟩ : ∃ B : Nat, b = B := ⟨b.toNat, by omega⟩
  have hB1 : 1 ≤ B := by omega
  have hB2 : B ≤ 32 := by omega
  clear h1 h2
  have hrn := row_new a B ha
  have hok : RowOk B [⟨0, 0, a⟩] := ⟨by simp, by simp⟩
  have hpow : (2 ^ B : Nat) ≤ 4294967296 := Nat.pow_le_pow_right (n := 2) (by omega) hB2
  have hbu := Try.builtR6 B a ha
  have HBU := Lib.hid hbu
  clear hbu
  by_cases hw : withinT B p = true
  · have hw2 : 0 ≤ p ∧ p < ((2 ^ B : Nat) : Int) := by simpa [withinT] using hw
    obtain ⟨q, rfl⟩ : ∃ q : Nat, p = q := ⟨p.toNat, by omega⟩
    have hq : q < 4294967296 := by omega
    obtain ⟨-, e2, e3⟩ := row_take a B q [] hw (by simp)
    rw [hrn] at e2 e3
    rw [show (q : Int).toNat = q from rfl] at e2
    obtain ⟨k, hk⟩ : ∃ k, k = keyT (atD q B a) := ⟨_, rfl⟩
    have HK : Hid (k.length = 32) := by show _ = _; rw [hk]; exact keyT_len _
    rw [← hk] at e2
    have c1 : ∀ r y, RowAt y r B [⟨0, 0, a⟩] → Calls Try.prog 36 #[.pointer (some ⟨r, 0, none⟩), .pointer none, .int .i64 q] y fun e w' => e = .returned (.tuple #[.agg (k.map bv).toArray, .int .i64 0]) ∧ Below y.heap.size y w' := fun r y hy => by
      have := Look_calls r B q _ y hy hB2 hok hp1 hp2
      rw [e2] at this
      exact this
    have c3 : ∀ y, Calls Try.prog 41 #[.agg (rcells a B (.slice none 0 0)).toArray, .int .i64 q] y fun e w' => e = .returned (.bool true) ∧ Below y.heap.size y w' := fun y => by
      have := RWithin_calls a B (.slice none 0 0) q y HA.out hB2
      rw [hw] at this
      exact this
    have c4 : ∀ r y, RowAt y r B [⟨0, 0, a⟩] → Calls Try.prog 40 #[.pointer (some ⟨r, 0, none⟩), .int .i64 q] y fun e w' => e = .returned (.bool false) ∧ Below y.heap.size y w' := fun r y hy => by
      have := Gone_calls r B q _ y hy hB2 (fun s hs => (hok.1 s hs).1) hok.2 hp1 hp2
      rw [e3] at this
      exact this
    have hqe : ∀ x, (Op.equalIn 10000 23 (.agg (k.map bv).toArray) (.agg (k.map bv).toArray)).run Try.prog x = .ok true x := fun x => by rw [run_eq_hash x _ _ HK.out HK.out, beq_self_eq_true]
    have c2 : ∀ y, Calls Try.prog 42 #[.agg (rcells a B (.slice none 0 0)).toArray, .int .i64 q] y fun e w' => e = .returned (.agg (k.map bv).toArray) ∧ Below y.heap.size y w' := fun y => by
      rw [hk]; exact RKey_calls a B _ q y HA.out (by omega) (by omega)
    clear hrn hok hpow hw hw2 e2 e3 hk ha
    go_enter Try.func8, Try.ntmps8
    go_wp2_with ((with_reducible show wpList _ _ _ (⟨some 12, _, _, _, _, _⟩ :: _) _ _); refine wpList_load_mid rfl 23 (.tmp 3) rfl (w.heap.size) 0 (by rfl) (a.map bv) _ (blk_rangeP hA0) Try.underlying23 rfl (by rw [List.length_map, HA.out]; exact Try.sizeHash) ?_)
    generalize w.alloc (.cells (a.map bv).toArray 23) = W0 at hA0 hb0 ⊢
    have ltq23 : w.heap.size < W0.heap.size := hA0.lt
    refine (New6_calls a B _ HA.out hB1 hB2).mono ?_
    rintro e wq21 ⟨r, rfl, hr, hR1, bq22⟩
    have hCq24 := hA0.below bq22 hA0.lt
    have hBq25 := hb0.trans (bq22.mono hb0.size)
    clear hA0 hb0
    clear bq22
    have hHq26 := Lib.hid hR1
    clear hR1
    go_wp2_with (first | ((with_reducible show wpList _ _ _ (⟨some 32, _, _, _, _, _⟩ :: _) _ _); refine wpList_load_mid rfl 23 (.tmp 3) rfl (w.heap.size) 0 (by rfl) (a.map bv) _ (blk_rangeP hCq24) Try.underlying23 rfl (by rw [List.length_map, HA.out]; exact Try.sizeHash) ?_) | ((with_reducible show wpList _ _ _ (⟨some 34, _, _, _, _, _⟩ :: _) _ _); refine wpList_buildCells rfl 54 #[(0, .tmp 32), (1, .tmp 33)] rfl ((rcells a B (.slice none 0 0)).toArray) HBU.out ?_) | ((with_reducible show wpList _ _ _ (⟨some 9, _, _, _, _, _⟩ :: _) _ _); refine wpList_allocZ rfl 54 rfl _ Try.zeroR6 ?_; intro wq27 hsq28 baq29 hNq30) | ((with_reducible show wpList _ _ _ (⟨none, Op.store _ (.tmp 9) _, _, _, _, _⟩ :: _) _ _); refine wpList_storeBlk rfl 54 (.tmp 9) (.tmp 34) rfl (wq21.heap.size) ((rcells a B (.slice none 0 0)).toArray) (by rfl) (by rfl) _ _ hNq30 (by rw [List.size_toArray, rcells_len _ _ _ HA.out]; exact Try.sizeR6) (by simp [rcells, HA.out]) (rcells_all _ _ _ _ _) ?_; intro wq31 hKq32 gq33; have bbq34 := below_new baq29 gq33 (Nat.le_refl _) baq29.size; have ltq35 : w.heap.size < wq21.heap.size := hCq24.lt; have ltq36 : r < wq21.heap.size := hHq26.out.lt; have hCq37 := hCq24.below bbq34 hCq24.lt; have hCq38 := Lib.hid (hHq26.out.below bbq34); have hBq39 := hBq25.trans (bbq34.mono hBq25.size); clear hCq24 hHq26 hBq25; clear bbq34 baq29 hNq30 gq33 hsq28))
    have ltq42 : w.heap.size < wq31.heap.size := hCq37.lt
    have ltq43 : r < wq31.heap.size := hCq38.out.lt
    have ltq44 : wq21.heap.size < wq31.heap.size := hKq32.lt
    refine (c1 r _ hCq38.out).mono ?_
    rintro e wq40 ⟨rfl, bq41⟩
    have hCq45 := hCq37.below bq41 hCq37.lt
    have hCq46 := Lib.hid (hCq38.out.below bq41)
    have hCq47 := hKq32.below bq41 hKq32.lt
    have hBq48 := hBq39.trans (bq41.mono hBq39.size)
    clear hCq37 hCq38 hKq32 hBq39
    clear bq41
    go_wp2_with (first | ((with_reducible show wpList _ _ _ (⟨some 10, _, _, _, _, _⟩ :: _) _ _); refine wpList_allocZ rfl 23 rfl _ Try.zeroHash ?_; intro wq49 hsq50 baq51 hNq52) | ((with_reducible show wpList _ _ _ (⟨none, Op.store _ (.tmp 10) _, _, _, _, _⟩ :: _) _ _); refine wpList_storeBlk rfl 23 (.tmp 10) (.tmp 39) rfl (wq40.heap.size) ((k.map bv).toArray) (by rfl) (by rfl) _ _ hNq52 (by rw [bv_size, HK.out]; exact Try.sizeHash) (by rw [bv_size, HK.out, Z32_size]) (bv_all _) ?_; intro wq53 hKq54 gq55; have bbq56 := below_new baq51 gq55 (Nat.le_refl _) baq51.size; have ltq57 : w.heap.size < wq40.heap.size := hCq45.lt; have ltq58 : r < wq40.heap.size := hCq46.out.lt; have ltq59 : wq21.heap.size < wq40.heap.size := hCq47.lt; have hCq60 := hCq45.below bbq56 hCq45.lt; have hCq61 := Lib.hid (hCq46.out.below bbq56); have hCq62 := hCq47.below bbq56 hCq47.lt; have hBq63 := hBq48.trans (bbq56.mono hBq48.size); clear hCq45 hCq46 hCq47 hBq48; clear bbq56 baq51 hNq52 gq55 hsq50) | ((with_reducible show wpList _ _ _ (⟨some 41, _, _, _, _, _⟩ :: _) _ _); refine wpList_load_mid rfl 54 (.tmp 9) rfl (wq21.heap.size) 0 (by rfl) (rcells a B (.slice none 0 0)) _ (blk_rangeP hCq62) Try.underlying54 rfl (by rw [rcells_len _ _ _ HA.out]; exact Try.sizeR6) ?_))
    have ltq66 : w.heap.size < wq53.heap.size := hCq60.lt
    have ltq67 : r < wq53.heap.size := hCq61.out.lt
    have ltq68 : wq21.heap.size < wq53.heap.size := hCq62.lt
    have ltq69 : wq40.heap.size < wq53.heap.size := hKq54.lt
    refine (c3 _).mono ?_
    rintro e wq64 ⟨rfl, bq65⟩
    have hCq70 := hCq60.below bq65 hCq60.lt
    have hCq71 := Lib.hid (hCq61.out.below bq65)
    have hCq72 := hCq62.below bq65 hCq62.lt
    have hCq73 := hKq54.below bq65 hKq54.lt
    have hBq74 := hBq63.trans (bq65.mono hBq63.size)
    clear hCq60 hCq61 hCq62 hKq54 hBq63
    clear bq65
    go_wp2_with fail
    refine wp_region_held_drew (S := fun x => Blk x (wq40.heap.size) (k.map bv).toArray 23 ∧ Blk x (wq21.heap.size) (rcells a B (.slice none 0 0)).toArray 54 ∧ RowAt x r B [⟨0, 0, a⟩] ∧ Below w.heap.size w x) (by kernel_rfl) ⟨hCq73.drew, hCq72.drew, hCq71.out.below (below_drewN (Below.refl _ _) 1), below_drewN hBq74 1⟩ (fun hSq75 => ?_)
    refine wpAnyH_ready (rs := [0]) (by kernel_rfl) (by simp) ?_
    refine AllReadyH.cons rfl (fun K hK => ?_) AllReadyH.nil
    go_simp
    go_wp2_with (go_at_call 34; refine (awake6_calls _).mono ?_; rintro e yq76 ⟨rfl, bq77⟩)
    refine hK.out _ _ ⟨hSq75.1.below bq77 hSq75.1.lt, hSq75.2.1.below bq77 hSq75.2.1.lt, hSq75.2.2.1.below bq77, hSq75.2.2.2.trans (bq77.mono hSq75.2.2.2.size)⟩ (fun hSq78 => ?_)
    clear hK K hSq75 bq77
    refine wpAnyH_take (i := 1) (v := .bool true) rfl (by kernel_rfl) (by kernel_rfl) (by kernel_rfl) (fun _ _ _ h => h) (Or.inl ⟨by rfl, fun x hx => by go_simp⟩) hSq78 ?_
    simp only [Act.put, List.getElem_toArray, List.getElem_cons_zero, List.getElem_cons_succ, List.setIfInBounds_toArray, List.set_cons_zero, List.set_cons_succ]
    refine wpAnyH_take (i := 2) (v := .int .i64 0) rfl (by kernel_rfl) (by kernel_rfl) (by kernel_rfl) (fun _ _ _ h => h) (Or.inl ⟨by rfl, fun x hx => by go_simp⟩) hSq78 ?_
    simp only [Act.put, List.getElem_toArray, List.getElem_cons_zero, List.getElem_cons_succ, List.setIfInBounds_toArray, List.set_cons_zero, List.set_cons_succ]
    refine wpAnyH_take (i := 3) (v := .bool true) rfl (by kernel_rfl) (by kernel_rfl) (by kernel_rfl) (fun _ _ _ h => h) (Or.inl ⟨by rfl, fun x hx => by go_simp⟩) hSq78 ?_
    simp only [Act.put, List.getElem_toArray, List.getElem_cons_zero, List.getElem_cons_succ, List.setIfInBounds_toArray, List.set_cons_zero, List.set_cons_succ]
    refine wpAnyH_take (i := 4) (v := .bool true) rfl (by kernel_rfl) (by kernel_rfl) (by kernel_rfl) (fun _ _ _ h => h) (Or.inl ⟨by rfl, fun x hx => by go_simp⟩) hSq78 ?_
    simp only [Act.put, List.getElem_toArray, List.getElem_cons_zero, List.getElem_cons_succ, List.setIfInBounds_toArray, List.set_cons_zero, List.set_cons_succ]
    refine wpAnyH_take (i := 5) (v := .bool true) rfl (by kernel_rfl) (by kernel_rfl) (by kernel_rfl) (fun _ _ _ h => h) (Or.inl ⟨by rfl, fun x hx => by go_simp⟩) hSq78 ?_
    simp only [Act.put, List.getElem_toArray, List.getElem_cons_zero, List.getElem_cons_succ, List.setIfInBounds_toArray, List.set_cons_zero, List.set_cons_succ]
    refine wpAnyH_take (i := 6) rfl (by kernel_rfl) (by kernel_rfl) (by kernel_rfl) (fun _ _ _ h => h) (yieldsIf_load_mid (by rfl) 23 (.tmp 10) rfl (wq40.heap.size) 0 (by rfl) (k.map bv) _ (fun x hx => blk_rangeP hx.1) Try.underlying23 rfl (by rw [List.length_map, HK.out]; exact Try.sizeHash)) hSq78 ?_
    simp only [Act.put, List.getElem_toArray, List.getElem_cons_zero, List.getElem_cons_succ, List.setIfInBounds_toArray, List.set_cons_zero, List.set_cons_succ]
    refine wpAnyH_take (i := 7) rfl (by kernel_rfl) (by kernel_rfl) (by kernel_rfl) (fun _ _ _ h => h) (yieldsIf_load_mid (by rfl) 54 (.tmp 9) rfl (wq21.heap.size) 0 (by rfl) (rcells a B (.slice none 0 0)) _ (fun x hx => blk_rangeP hx.2.1) Try.underlying54 rfl (by rw [rcells_len _ _ _ HA.out]; exact Try.sizeR6)) hSq78 ?_
    simp only [Act.put, List.getElem_toArray, List.getElem_cons_zero, List.getElem_cons_succ, List.setIfInBounds_toArray, List.set_cons_zero, List.set_cons_succ]
    refine wpAnyH_take (i := 8) (v := .int .i64 q) rfl (by kernel_rfl) (by kernel_rfl) (by kernel_rfl) (fun _ _ _ h => h) (Or.inl ⟨by rfl, fun x hx => by go_simp⟩) hSq78 ?_
    simp only [Act.put, List.getElem_toArray, List.getElem_cons_zero, List.getElem_cons_succ, List.setIfInBounds_toArray, List.set_cons_zero, List.set_cons_succ]
    refine wpAnyH_ready (rs := [9]) (by kernel_rfl) (by simp) ?_
    refine AllReadyH.cons rfl (fun K hK => ?_) AllReadyH.nil
    go_simp
    go_wp2_with (go_at_call 42; refine (c2 _).mono ?_; rintro e yq79 ⟨rfl, bq80⟩)
    refine hK.out _ _ ⟨hSq78.1.below bq80 hSq78.1.lt, hSq78.2.1.below bq80 hSq78.2.1.lt, hSq78.2.2.1.below bq80, hSq78.2.2.2.trans (bq80.mono hSq78.2.2.2.size)⟩ (fun hSq81 => ?_)
    clear hK K hSq78 bq80
    refine wpAnyH_take (i := 10) (v := .bool true) rfl (by kernel_rfl) (by kernel_rfl) (by kernel_rfl) (fun _ _ _ h => h) (Or.inl ⟨by rfl, fun x hx => by go_simp⟩) hSq81 ?_
    simp only [Act.put, List.getElem_toArray, List.getElem_cons_zero, List.getElem_cons_succ, List.setIfInBounds_toArray, List.set_cons_zero, List.set_cons_succ]
    refine wpAnyH_take (i := 11) (v := .bool true) rfl (by kernel_rfl) (by kernel_rfl) (by kernel_rfl) (fun _ _ _ h => h) (Or.inl ⟨by rfl, fun x hx => by go_simp⟩) hSq81 ?_
    simp only [Act.put, List.getElem_toArray, List.getElem_cons_zero, List.getElem_cons_succ, List.setIfInBounds_toArray, List.set_cons_zero, List.set_cons_succ]
    refine wpAnyH_take (i := 12) (v := .bool true) rfl (by kernel_rfl) (by kernel_rfl) (by kernel_rfl) (fun _ _ _ h => h) (Or.inl ⟨by rfl, fun x hx => by go_simp⟩) hSq81 ?_
    simp only [Act.put, List.getElem_toArray, List.getElem_cons_zero, List.getElem_cons_succ, List.setIfInBounds_toArray, List.set_cons_zero, List.set_cons_succ]
    refine wpAnyH_take (i := 13) (v := .pointer (some ⟨r, 0, none⟩)) rfl (by kernel_rfl) (by kernel_rfl) (by kernel_rfl) (fun _ _ _ h => h) (Or.inl ⟨by rfl, fun x hx => by go_simp⟩) hSq81 ?_
    simp only [Act.put, List.getElem_toArray, List.getElem_cons_zero, List.getElem_cons_succ, List.setIfInBounds_toArray, List.set_cons_zero, List.set_cons_succ]
    refine wpAnyH_take (i := 14) (v := .int .i64 q) rfl (by kernel_rfl) (by kernel_rfl) (by kernel_rfl) (fun _ _ _ h => h) (Or.inl ⟨by rfl, fun x hx => by go_simp⟩) hSq81 ?_
    simp only [Act.put, List.getElem_toArray, List.getElem_cons_zero, List.getElem_cons_succ, List.setIfInBounds_toArray, List.set_cons_zero, List.set_cons_succ]
    refine wpAnyH_ready (rs := [15]) (by kernel_rfl) (by simp) ?_
    refine AllReadyH.cons rfl (fun K hK => ?_) AllReadyH.nil
    go_simp
    go_wp2_with (go_at_call 40; refine (c4 r _ hSq81.2.2.1).mono ?_; rintro e yq82 ⟨rfl, bq83⟩)
    refine hK.out _ _ ⟨hSq81.1.below bq83 hSq81.1.lt, hSq81.2.1.below bq83 hSq81.2.1.lt, hSq81.2.2.1.below bq83, hSq81.2.2.2.trans (bq83.mono hSq81.2.2.2.size)⟩ (fun hSq84 => ?_)
    clear hK K hSq81 bq83
    refine wpAnyH_take (i := 16) (v := .bool true) rfl (by kernel_rfl) (by kernel_rfl) (by kernel_rfl) (fun _ _ _ h => h) (Or.inl ⟨by rfl, fun x hx => by go_simp⟩) hSq84 ?_
    simp only [Act.put, List.getElem_toArray, List.getElem_cons_zero, List.getElem_cons_succ, List.setIfInBounds_toArray, List.set_cons_zero, List.set_cons_succ]
    refine wpAnyH_take (i := 17) (v := .bool true) rfl (by kernel_rfl) (by kernel_rfl) (by kernel_rfl) (fun _ _ _ h => h) (Or.inl ⟨by rfl, fun x hx => by go_simp⟩) hSq84 ?_
    simp only [Act.put, List.getElem_toArray, List.getElem_cons_zero, List.getElem_cons_succ, List.setIfInBounds_toArray, List.set_cons_zero, List.set_cons_succ]
    refine wpAnyH_take (i := 18) (v := .bool true) rfl (by kernel_rfl) (by kernel_rfl) (by kernel_rfl) (fun _ _ _ h => h) (Or.inl ⟨by rfl, fun x hx => by go_simp⟩) hSq84 ?_
    simp only [Act.put, List.getElem_toArray, List.getElem_cons_zero, List.getElem_cons_succ, List.setIfInBounds_toArray, List.set_cons_zero, List.set_cons_succ]
    refine wpAnyH_take (i := 19) (v := .pointer (some ⟨r, 0, none⟩)) rfl (by kernel_rfl) (by kernel_rfl) (by kernel_rfl) (fun _ _ _ h => h) (Or.inl ⟨by rfl, fun x hx => by go_simp⟩) hSq84 ?_
    simp only [Act.put, List.getElem_toArray, List.getElem_cons_zero, List.getElem_cons_succ, List.setIfInBounds_toArray, List.set_cons_zero, List.set_cons_succ]
    refine wpAnyH_take (i := 21) (v := .int .i64 B) rfl (by kernel_rfl) (by kernel_rfl) (by kernel_rfl) (fun _ _ _ h => h) (Or.inl ⟨by rfl, fun x hx => by go_simp⟩) hSq84 ?_
    simp only [Act.put, List.getElem_toArray, List.getElem_cons_zero, List.getElem_cons_succ, List.setIfInBounds_toArray, List.set_cons_zero, List.set_cons_succ]
    refine wpAnyH_ready (rs := [20]) (by kernel_rfl) (by simp) ?_
    refine AllReadyH.cons rfl (fun K hK => ?_) AllReadyH.nil
    go_simp
    go_wp2_with (go_at_call 43; refine (Bits_calls r B _ _ hSq84.2.2.1).mono ?_; rintro e yq85 ⟨rfl, bq86⟩)
    refine hK.out _ _ ⟨hSq84.1.below bq86 hSq84.1.lt, hSq84.2.1.below bq86 hSq84.2.1.lt, hSq84.2.2.1.below bq86, hSq84.2.2.2.trans (bq86.mono hSq84.2.2.2.size)⟩ (fun hSq87 => ?_)
    clear hK K hSq84 bq86
    refine wpAnyH_take (i := 22) (v := .bool true) rfl (by kernel_rfl) (by kernel_rfl) (by kernel_rfl) (fun _ _ _ h => h) (Or.inl ⟨by rfl, fun x hx => by go_simp⟩) hSq87 ?_
    simp only [Act.put, List.getElem_toArray, List.getElem_cons_zero, List.getElem_cons_succ, List.setIfInBounds_toArray, List.set_cons_zero, List.set_cons_succ]
    refine wpAnyH_take (i := 23) (v := .bool true) rfl (by kernel_rfl) (by kernel_rfl) (by kernel_rfl) (fun _ _ _ h => h) (Or.inl ⟨by rfl, fun x hx => by go_simp⟩) hSq87 ?_
    simp only [Act.put, List.getElem_toArray, List.getElem_cons_zero, List.getElem_cons_succ, List.setIfInBounds_toArray, List.set_cons_zero, List.set_cons_succ]
    refine wpAnyH_ready (rs := [24]) (by kernel_rfl) (by simp) ?_
    refine AllReadyH.cons rfl (fun K hK => ?_) AllReadyH.nil
    go_simp
    refine hK.out _ _ hSq87 (fun hSq88 => ?_)
    clear hK K hSq87
    refine wpAnyH_done (by kernel_rfl) ?_ _
    go_wp2_with fail
    go_returns
    exact ⟨rfl, hSq88.2.2.2⟩
  · have hw2 : withinT B p = false := by simpa using hw
    clear hw
    have hw := hw2
    obtain ⟨-, e2, e3⟩ := row_out a B p [] hw
    rw [hrn] at e2 e3
    have c1 : ∀ r y, RowAt y r B [⟨0, 0, a⟩] → Calls Try.prog 36 #[.pointer (some ⟨r, 0, none⟩), .pointer none, .int .i64 p] y fun e w' => e = .returned (.tuple #[.agg (zh32.map bv).toArray, .int .i64 1]) ∧ Below y.heap.size y w' := fun r y hy => by
      have := Look_calls r B p _ y hy hB2 hok hp1 hp2
      rw [e2] at this
      exact this
    have c3 : ∀ y, Calls Try.prog 41 #[.agg (rcells a B (.slice none 0 0)).toArray, .int .i64 p] y fun e w' => e = .returned (.bool false) ∧ Below y.heap.size y w' := fun y => by
      have := RWithin_calls a B (.slice none 0 0) p y HA.out hB2
      rw [hw] at this
      exact this
    have c4 : ∀ r y, RowAt y r B [⟨0, 0, a⟩] → Calls Try.prog 40 #[.pointer (some ⟨r, 0, none⟩), .int .i64 p] y fun e w' => e = .returned (.bool true) ∧ Below y.heap.size y w' := fun r y hy => by
      have := Gone_calls r B p _ y hy hB2 (fun s hs => (hok.1 s hs).1) hok.2 hp1 hp2
      rw [e3] at this
      exact this
    have hqe : ∀ x, (Op.equalIn 10000 23 (.agg (zh32.map bv).toArray) (.agg (zh32.map bv).toArray)).run Try.prog x = .ok true x := fun x => by rw [run_eq_hash x _ _ rfl rfl, beq_self_eq_true]
    have HZ : Hid (zh32.length = 32) := Lib.hid rfl
    clear hrn hok hpow hw hw2 e2 e3 ha
    go_enter Try.func8, Try.ntmps8
    go_wp2_with ((with_reducible show wpList _ _ _ (⟨some 12, _, _, _, _, _⟩ :: _) _ _); refine wpList_load_mid rfl 23 (.tmp 3) rfl (w.heap.size) 0 (by rfl) (a.map bv) _ (blk_rangeP hA0) Try.underlying23 rfl (by rw [List.length_map, HA.out]; exact Try.sizeHash) ?_)
    generalize w.alloc (.cells (a.map bv).toArray 23) = W0 at hA0 hb0 ⊢
    have ltq91 : w.heap.size < W0.heap.size := hA0.lt
    refine (New6_calls a B _ HA.out hB1 hB2).mono ?_
    rintro e wq89 ⟨r, rfl, hr, hR1, bq90⟩
    have hCq92 := hA0.below bq90 hA0.lt
    have hBq93 := hb0.trans (bq90.mono hb0.size)
    clear hA0 hb0
    clear bq90
    have hHq94 := Lib.hid hR1
    clear hR1
    go_wp2_with (first | ((with_reducible show wpList _ _ _ (⟨some 32, _, _, _, _, _⟩ :: _) _ _); refine wpList_load_mid rfl 23 (.tmp 3) rfl (w.heap.size) 0 (by rfl) (a.map bv) _ (blk_rangeP hCq92) Try.underlying23 rfl (by rw [List.length_map, HA.out]; exact Try.sizeHash) ?_) | ((with_reducible show wpList _ _ _ (⟨some 34, _, _, _, _, _⟩ :: _) _ _); refine wpList_buildCells rfl 54 #[(0, .tmp 32), (1, .tmp 33)] rfl ((rcells a B (.slice none 0 0)).toArray) HBU.out ?_) | ((with_reducible show wpList _ _ _ (⟨some 9, _, _, _, _, _⟩ :: _) _ _); refine wpList_allocZ rfl 54 rfl _ Try.zeroR6 ?_; intro wq95 hsq96 baq97 hNq98) | ((with_reducible show wpList _ _ _ (⟨none, Op.store _ (.tmp 9) _, _, _, _, _⟩ :: _) _ _); refine wpList_storeBlk rfl 54 (.tmp 9) (.tmp 34) rfl (wq89.heap.size) ((rcells a B (.slice none 0 0)).toArray) (by rfl) (by rfl) _ _ hNq98 (by rw [List.size_toArray, rcells_len _ _ _ HA.out]; exact Try.sizeR6) (by simp [rcells, HA.out]) (rcells_all _ _ _ _ _) ?_; intro wq99 hKq100 gq101; have bbq102 := below_new baq97 gq101 (Nat.le_refl _) baq97.size; have ltq103 : w.heap.size < wq89.heap.size := hCq92.lt; have ltq104 : r < wq89.heap.size := hHq94.out.lt; have hCq105 := hCq92.below bbq102 hCq92.lt; have hCq106 := Lib.hid (hHq94.out.below bbq102); have hBq107 := hBq93.trans (bbq102.mono hBq93.size); clear hCq92 hHq94 hBq93; clear bbq102 baq97 hNq98 gq101 hsq96))
    have ltq110 : w.heap.size < wq99.heap.size := hCq105.lt
    have ltq111 : r < wq99.heap.size := hCq106.out.lt
    have ltq112 : wq89.heap.size < wq99.heap.size := hKq100.lt
    refine (c1 r _ hCq106.out).mono ?_
    rintro e wq108 ⟨rfl, bq109⟩
    have hCq113 := hCq105.below bq109 hCq105.lt
    have hCq114 := Lib.hid (hCq106.out.below bq109)
    have hCq115 := hKq100.below bq109 hKq100.lt
    have hBq116 := hBq107.trans (bq109.mono hBq107.size)
    clear hCq105 hCq106 hKq100 hBq107
    clear bq109
    go_wp2_with (first | ((with_reducible show wpList _ _ _ (⟨some 10, _, _, _, _, _⟩ :: _) _ _); refine wpList_allocZ rfl 23 rfl _ Try.zeroHash ?_; intro wq117 hsq118 baq119 hNq120) | ((with_reducible show wpList _ _ _ (⟨none, Op.store _ (.tmp 10) _, _, _, _, _⟩ :: _) _ _); refine wpList_storeBlk rfl 23 (.tmp 10) (.tmp 39) rfl (wq108.heap.size) ((zh32.map bv).toArray) (by rfl) (by rfl) _ _ hNq120 (by rw [bv_size, HZ.out]; exact Try.sizeHash) (by rw [bv_size, HZ.out, Z32_size]) (bv_all _) ?_; intro wq121 hKq122 gq123; have bbq124 := below_new baq119 gq123 (Nat.le_refl _) baq119.size; have ltq125 : w.heap.size < wq108.heap.size := hCq113.lt; have ltq126 : r < wq108.heap.size := hCq114.out.lt; have ltq127 : wq89.heap.size < wq108.heap.size := hCq115.lt; have hCq128 := hCq113.below bbq124 hCq113.lt; have hCq129 := Lib.hid (hCq114.out.below bbq124); have hCq130 := hCq115.below bbq124 hCq115.lt; have hBq131 := hBq116.trans (bbq124.mono hBq116.size); clear hCq113 hCq114 hCq115 hBq116; clear bbq124 baq119 hNq120 gq123 hsq118) | ((with_reducible show wpList _ _ _ (⟨some 41, _, _, _, _, _⟩ :: _) _ _); refine wpList_load_mid rfl 54 (.tmp 9) rfl (wq89.heap.size) 0 (by rfl) (rcells a B (.slice none 0 0)) _ (blk_rangeP hCq130) Try.underlying54 rfl (by rw [rcells_len _ _ _ HA.out]; exact Try.sizeR6) ?_))
    have ltq134 : w.heap.size < wq121.heap.size := hCq128.lt
    have ltq135 : r < wq121.heap.size := hCq129.out.lt
    have ltq136 : wq89.heap.size < wq121.heap.size := hCq130.lt
    have ltq137 : wq108.heap.size < wq121.heap.size := hKq122.lt
    refine (c3 _).mono ?_
    rintro e wq132 ⟨rfl, bq133⟩
    have hCq138 := hCq128.below bq133 hCq128.lt
    have hCq139 := Lib.hid (hCq129.out.below bq133)
    have hCq140 := hCq130.below bq133 hCq130.lt
    have hCq141 := hKq122.below bq133 hKq122.lt
    have hBq142 := hBq131.trans (bq133.mono hBq131.size)
    clear hCq128 hCq129 hCq130 hKq122 hBq131
    clear bq133
    go_wp2_with fail
    have ltq145 : w.heap.size < wq132.heap.size := hCq138.lt
    have ltq146 : r < wq132.heap.size := hCq139.out.lt
    have ltq147 : wq89.heap.size < wq132.heap.size := hCq140.lt
    have ltq148 : wq108.heap.size < wq132.heap.size := hCq141.lt
    refine (awake6_calls _).mono ?_
    rintro e wq143 ⟨rfl, bq144⟩
    have hCq149 := hCq138.below bq144 hCq138.lt
    have hCq150 := Lib.hid (hCq139.out.below bq144)
    have hCq151 := hCq140.below bq144 hCq140.lt
    have hCq152 := hCq141.below bq144 hCq141.lt
    have hBq153 := hBq142.trans (bq144.mono hBq142.size)
    clear hCq138 hCq139 hCq140 hCq141 hBq142
    clear bq144
    go_wp2_with (first | ((with_reducible show wpList _ _ _ (⟨some 51, _, _, _, _, _⟩ :: _) _ _); refine wpList_if (by rfl) (wp_load_mid 23 (.tmp 10) rfl (wq108.heap.size) 0 (by rfl) (zh32.map bv) _ (blk_rangeP hCq152) Try.underlying23 rfl (by rw [List.length_map, HZ.out]; exact Try.sizeHash) ?_)) | ((with_reducible show wpList _ _ _ (⟨some 52, _, _, _, _, _⟩ :: _) _ _); refine wpList_if (by rfl) (wp_buildCells 23 #[] rfl ((zh32.map bv).toArray) (by kernel_rfl) ?_)))
    go_wp2_with fail
    have ltq156 : w.heap.size < wq143.heap.size := hCq149.lt
    have ltq157 : r < wq143.heap.size := hCq150.out.lt
    have ltq158 : wq89.heap.size < wq143.heap.size := hCq151.lt
    have ltq159 : wq108.heap.size < wq143.heap.size := hCq152.lt
    refine (c4 r _ hCq150.out).mono ?_
    rintro e wq154 ⟨rfl, bq155⟩
    have hCq160 := hCq149.below bq155 hCq149.lt
    have hCq161 := Lib.hid (hCq150.out.below bq155)
    have hCq162 := hCq151.below bq155 hCq151.lt
    have hCq163 := hCq152.below bq155 hCq152.lt
    have hBq164 := hBq153.trans (bq155.mono hBq153.size)
    clear hCq149 hCq150 hCq151 hCq152 hBq153
    clear bq155
    go_wp2_with fail
    go_returns
    exact ⟨rfl, hBq164⟩
end Go.Proofs.Ytnfegmcdljejnaa
