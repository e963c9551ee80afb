/-
  PprTakes: behind one taking a row has just the seeds beside the way.
-/
import Derived.Test.YtnfegmcdljejnaaPprCells
import Derived.Test.YtnfegmcdljejnaaPprAwake
import Derived.Test.YtnfegmcdljejnaaOpenHash
set_option linter.unusedSimpArgs false
set_option linter.unusedVariables false
namespace Go.Proofs.Ytnfegmcdljejnaa
open Go.RowKit

set_option maxHeartbeats 4000000 in
set_option maxRecDepth 100000 in
theorem walkPprTakes (a : List UInt8) (ha : a.length = 32) (b : Int) (hwb : (Lit.int .u8 b).wf = true) (p : Int) (hwp : (Lit.int .i64 p).wf = true) (w : World) :
    Calls Try.prog 17 #[.agg (a.map bv).toArray, .int .u8 b, .int .i64 p] w fun e w' => e = .returned (.bool true) ∧ Below w.heap.size w w' := by
  have HA := Lib.hid ha
  obtain ⟨hp1, hp2⟩ := bounds_i64 hwp
  obtain ⟨hq1, hq2⟩ := bounds_u8 hwb
  clear hwp hwb
  have hA0 : Blk (w.alloc (.cells (a.map bv).toArray 23)) w.heap.size (a.map bv).toArray 23 := Blk.new _ _ _
  have hb0 : Below w.heap.size w (w.alloc (.cells (a.map bv).toArray 23)) := below_alloc1 _ _
  obtain ⟨B, hB⟩ : ∃ B : Nat, (B : Int) = 1 + b % 32 := ⟨(1 + b % 32).toNat, by omega⟩
  have hB1 : 1 ≤ B := by omega
  have hB2 : B ≤ 32 := by omega
  have hbu := Try.builtR6 B a ha
  have HBU := Lib.hid hbu
  clear hbu
  obtain ⟨P, hP⟩ : ∃ P : Nat, P = 2 ^ B := ⟨_, rfl⟩
  have hP1 : 1 ≤ P := by rw [hP]; exact Nat.one_le_two_pow
  have hP2 : P ≤ 4294967296 := by rw [hP]; exact Nat.pow_le_pow_right (n := 2) (by omega) hB2
  have hsh : IntKind.u64.wrap ((2 : Int) ^ B) = (P : Int) := by rw [hP]; exact shl1 B hB2
  obtain ⟨u, hu, hu2⟩ := u64_nat p
  obtain ⟨q, hq⟩ : ∃ q : Nat, q = u % P := ⟨_, rfl⟩
  have hqP : q < P := by rw [hq]; exact Nat.mod_lt _ hP1
  have hmod : (u : Int) % (P : Int) = (q : Int) := by rw [hq]; simp
  have hrn := row_new a B ha
  have hok : RowOk B [⟨0, 0, a⟩] := ⟨by simp, by simp⟩
  have hq64 : q < 4294967296 := by omega
  have hwi : withinT B (q : Int) = true := by rw [withinT, ← hP]; exact decide_eq_true ⟨by omega, by omega⟩
  obtain ⟨e1, e2, -⟩ := row_take a B q [] hwi (by simp)
  rw [hrn, show (q : Int).toNat = q from rfl] at e1 e2
  rw [List.nil_append] at e1
  have hln := row_one a B q (by rw [← hP]; exact hqP)
  obtain ⟨k, hk⟩ : ∃ k, k = keyT (atD q B a) := ⟨_, rfl⟩
  have HK : Hid (k.length = 32) := by show _ = _; rw [hk]; exact keyT_len _
  rw [← hk] at e2
  have c1 : ∀ r y, RowAt y r B [⟨0, 0, a⟩] → Calls Try.prog 38 #[.pointer (some ⟨r, 0, none⟩), .pointer none, .int .i64 q] y fun e w' => e = .returned (.tuple #[.agg (k.map bv).toArray, .int .i64 0]) ∧ RowAt w' r B (rowT a B [q]) ∧ y.grownBy w' (some r) := fun r y hy => by
    have := Take_calls r B q _ y hy hB2 hok (by omega) (by omega)
    rw [e1, e2] at this
    exact this
  have c2 : ∀ v y, Calls Try.prog 42 #[.agg (rcells a B v).toArray, .int .i64 q] y fun e w' => e = .returned (.agg (k.map bv).toArray) ∧ Below y.heap.size y w' := fun v y => by
    rw [hk]; exact RKey_calls a B v q y HA.out (by omega) (by omega)
  have c3 : ∀ v r y, IntsAt y v [q] → RowAt y r B (rowT a B [q]) → Calls Try.prog 77 #[.pointer (some ⟨r, 0, none⟩), .agg (rcells a B v).toArray] y fun e w' => e = .returned (.bool true) ∧ Below y.heap.size y w' := fun v r y hi hy =>
    same_calls a B v [q] r ha hB2 (by simp) (by simpa using hq64) y hi (by omega) hy
  have hqe : ∀ x, (Op.equalIn 10000 23 (.agg (k.map bv).toArray) (.agg (k.map bv).toArray)).run Try.prog x = .ok true x := fun x => by rw [run_eq_hash x _ _ HK.out HK.out, beq_self_eq_true]
  have HLN := Lib.hid hln
  have HP := Lib.hid hP
  clear hq hP hrn hok hwi e1 e2 hln hk ha hqP
  obtain ⟨L, hL⟩ : ∃ L, L = rowT a B [q] := ⟨_, rfl⟩
  rw [← hL] at HLN c1 c3
  clear hL
  go_enter Try.func17, Try.ntmps17
  go_wp2_with ((with_reducible show wpList _ _ _ (⟨some 19, _, _, _, _, _⟩ :: _) _ _); refine wpList_load_mid rfl 23 (.tmp 3) rfl (w.heap.size) 0 (by rfl) (a.map bv) _ (blk_rangeP hA0) Try.underlying23 rfl (by rw [List.length_map, HA.out]; exact Try.sizeHash) ?_)
  generalize w.alloc (.cells (a.map bv).toArray 23) = W0 at hA0 hb0 ⊢
  rw [← hB]
  have ltq3 : w.heap.size < W0.heap.size := hA0.lt
  refine (New6_calls a B _ HA.out hB1 hB2).mono ?_
  rintro e wq1 ⟨r, rfl, hr, hR1, bq2⟩
  have hCq4 := hA0.below bq2 hA0.lt
  have hBq5 := hb0.trans (bq2.mono hb0.size)
  clear hA0 hb0
  clear bq2
  have hHq6 := Lib.hid hR1
  clear hR1
  clear hB
  go_wp2_with (first | ((with_reducible show wpList _ _ _ (⟨some 24, _, _, _, _, _⟩ :: _) _ _); refine wpList_load_mid rfl 23 (.tmp 3) rfl (w.heap.size) 0 (by rfl) (a.map bv) _ (blk_rangeP hCq4) Try.underlying23 rfl (by rw [List.length_map, HA.out]; exact Try.sizeHash) ?_) | ((with_reducible show wpList _ _ _ (⟨some 26, _, _, _, _, _⟩ :: _) _ _); refine wpList_buildCells rfl 54 #[(0, .tmp 24), (1, .tmp 25)] rfl ((rcells a B (.slice none 0 0)).toArray) HBU.out ?_) | ((with_reducible show wpList _ _ _ (⟨some 10, _, _, _, _, _⟩ :: _) _ _); refine wpList_allocZ rfl 54 rfl _ Try.zeroR6 ?_; intro wq7 hsq8 baq9 hNq10) | ((with_reducible show wpList _ _ _ (⟨none, Op.store _ (.tmp 10) _, _, _, _, _⟩ :: _) _ _); refine wpList_storeBlk rfl 54 (.tmp 10) (.tmp 26) rfl (wq1.heap.size) ((rcells a B (.slice none 0 0)).toArray) (by rfl) (by rfl) _ _ hNq10 (by rw [List.size_toArray, rcells_len _ _ _ HA.out]; exact Try.sizeR6) (by simp [rcells, HA.out]) (rcells_all _ _ _ _ _) ?_; intro wq11 hKq12 gq13; have bbq14 := below_new baq9 gq13 (Nat.le_refl _) baq9.size; have ltq15 : w.heap.size < wq1.heap.size := hCq4.lt; have ltq16 : r < wq1.heap.size := hHq6.out.lt; have hCq17 := hCq4.below bbq14 hCq4.lt; have hCq18 := Lib.hid (hHq6.out.below bbq14); have hBq19 := hBq5.trans (bbq14.mono hBq5.size); clear hCq4 hHq6 hBq5; clear bbq14 baq9 hNq10 gq13 hsq8))
  have ltq23 : w.heap.size < wq11.heap.size := hCq17.lt
  have ltq24 : r < wq11.heap.size := hCq18.out.lt
  have ltq25 : wq1.heap.size < wq11.heap.size := hKq12.lt
  refine (c1 r _ hCq18.out).mono ?_
  rintro e wq20 ⟨rfl, hRq21, gq22⟩
  have hCq26 := hCq17.grown gq22 (by simp; omega)
  have hCq27 := hKq12.grown gq22 (by simp; omega)
  have hBq28 := hBq19.grown gq22 hBq19.size (fun q e => by cases e; omega)
  have hHq29 := Lib.hid hRq21
  clear hRq21 gq22 hCq17 hKq12 hBq19 hCq18
  go_wp2_with (first | ((with_reducible show wpList _ _ _ (⟨some 12, _, _, _, _, _⟩ :: _) _ _); refine wpList_allocZ rfl 23 rfl _ Try.zeroHash ?_; intro wq30 hsq31 baq32 hNq33) | ((with_reducible show wpList _ _ _ (⟨none, Op.store _ (.tmp 12) _, _, _, _, _⟩ :: _) _ _); refine wpList_storeBlk rfl 23 (.tmp 12) (.tmp 38) rfl (wq20.heap.size) ((k.map bv).toArray) (by rfl) (by rfl) _ _ hNq33 (by rw [bv_size, HK.out]; exact Try.sizeHash) (by rw [bv_size, HK.out, Z32_size]) (bv_all _) ?_; intro wq34 hKq35 gq36; have bbq37 := below_new baq32 gq36 (Nat.le_refl _) baq32.size; have ltq38 : w.heap.size < wq20.heap.size := hCq26.lt; have ltq39 : r < wq20.heap.size := hHq29.out.lt; have ltq40 : wq1.heap.size < wq20.heap.size := hCq27.lt; have hCq41 := hCq26.below bbq37 hCq26.lt; have hCq42 := Lib.hid (hHq29.out.below bbq37); have hCq43 := hCq27.below bbq37 hCq27.lt; have hBq44 := hBq28.trans (bbq37.mono hBq28.size); clear hCq26 hHq29 hCq27 hBq28; clear bbq37 baq32 hNq33 gq36 hsq31) | ((with_reducible show wpList _ _ _ (⟨none, Op.store _ (.tmp 42) _, _, _, _, _⟩ :: _) _ _); refine wpList_store1 rfl 40 (.tmp 42) (.tmp 41) rfl (wq1.heap.size) 33 (.slice (some ⟨wq34.heap.size, 0, none⟩) 1 1) (by rfl) (by rfl) _ _ (hCq43.alloc _) (by simp [rcells, HA.out]) Try.sizeInts rfl rfl ?_; intro wS hS gS))
  have hlz := hCq43.lt
  have bA := below_alloc1 wq34 (.cells #[.int .i64 (q : Int)] 3)
  have hI1 := IntsAt.one wq34 q 3
  have hI2 : IntsAt wS (.slice (some ⟨wq34.heap.size, 0, none⟩) 1 1) [q] := hI1.grown gS (hCq43.alloc _) (fun g o c e => by simp only [Value.slice.injEq, Option.some.injEq, Addr.mk.injEq] at e; omega)
  have hR2 : RowAt wS r B L := (hCq42.out.below bA).other gS (hCq43.alloc _) (rcells_first _ _ _ HA.out)
  have hK2 := (hKq35.alloc (.cells #[.int .i64 (q : Int)] 3)).grown gS (by have := hKq35.lt; simp; omega)
  rw [rcells_set _ _ _ _ HA.out] at hS
  have hb2 : Below w.heap.size w wS := (hBq44.alloc hBq44.size _).grown gS (by have := hBq44.size; simp; omega) (fun z e => by cases e; omega)
  have HI2 := Lib.hid hI2
  have HR2 := Lib.hid hR2
  clear hI1 hI2 hR2 gS bA hCq42 hKq35 hCq43 hBq44 hCq41
  obtain ⟨V, hV⟩ : ∃ V : Value, V = .slice (some ⟨wq34.heap.size, 0, none⟩) 1 1 := ⟨_, rfl⟩
  rw [← hV] at hS HI2
  clear hV
  refine wp_region_held_drew (S := fun x => Blk x (wq20.heap.size) (k.map bv).toArray 23 ∧ Blk x (wq1.heap.size) (rcells a B V).toArray 54 ∧ IntsAt x V [q] ∧ RowAt x r B L ∧ Below w.heap.size w x) (by kernel_rfl) ⟨hK2.drew, hS.drew, HI2.out.below (below_drewN (Below.refl _ _) 1), HR2.out.below (below_drewN (Below.refl _ _) 1), below_drewN hb2 1⟩ (fun hSq45 => ?_)
  refine wpAnyH_ready (rs := [0]) (by kernel_rfl) (by simp) ?_
  refine AllReadyH.cons rfl (fun K hK => ?_) AllReadyH.nil
  go_simp
  go_wp2_with (go_at_call 34; refine (awake6_calls _).mono ?_; rintro e yq46 ⟨rfl, bq47⟩)
  refine hK.out _ _ ⟨hSq45.1.below bq47 hSq45.1.lt, hSq45.2.1.below bq47 hSq45.2.1.lt, hSq45.2.2.1.below bq47, hSq45.2.2.2.1.below bq47, hSq45.2.2.2.2.trans (bq47.mono hSq45.2.2.2.2.size)⟩ (fun hSq48 => ?_)
  clear hK K hSq45 bq47
  refine wpAnyH_take (i := 1) (v := .bool true) rfl (by kernel_rfl) (by kernel_rfl) (by kernel_rfl) (fun _ _ _ h => h) (Or.inl ⟨by rfl, fun x hx => by go_simp⟩) hSq48 ?_
  simp only [Act.put, List.getElem_toArray, List.getElem_cons_zero, List.getElem_cons_succ, List.setIfInBounds_toArray, List.set_cons_zero, List.set_cons_succ]
  refine wpAnyH_take (i := 2) (v := .int .i64 0) rfl (by kernel_rfl) (by kernel_rfl) (by kernel_rfl) (fun _ _ _ h => h) (Or.inl ⟨by rfl, fun x hx => by go_simp⟩) hSq48 ?_
  simp only [Act.put, List.getElem_toArray, List.getElem_cons_zero, List.getElem_cons_succ, List.setIfInBounds_toArray, List.set_cons_zero, List.set_cons_succ]
  refine wpAnyH_take (i := 3) (v := .bool true) rfl (by kernel_rfl) (by kernel_rfl) (by kernel_rfl) (fun _ _ _ h => h) (Or.inl ⟨by rfl, fun x hx => by go_simp⟩) hSq48 ?_
  simp only [Act.put, List.getElem_toArray, List.getElem_cons_zero, List.getElem_cons_succ, List.setIfInBounds_toArray, List.set_cons_zero, List.set_cons_succ]
  refine wpAnyH_take (i := 4) (v := .bool true) rfl (by kernel_rfl) (by kernel_rfl) (by kernel_rfl) (fun _ _ _ h => h) (Or.inl ⟨by rfl, fun x hx => by go_simp⟩) hSq48 ?_
  simp only [Act.put, List.getElem_toArray, List.getElem_cons_zero, List.getElem_cons_succ, List.setIfInBounds_toArray, List.set_cons_zero, List.set_cons_succ]
  refine wpAnyH_take (i := 5) (v := .bool true) rfl (by kernel_rfl) (by kernel_rfl) (by kernel_rfl) (fun _ _ _ h => h) (Or.inl ⟨by rfl, fun x hx => by go_simp⟩) hSq48 ?_
  simp only [Act.put, List.getElem_toArray, List.getElem_cons_zero, List.getElem_cons_succ, List.setIfInBounds_toArray, List.set_cons_zero, List.set_cons_succ]
  refine wpAnyH_take (i := 6) rfl (by kernel_rfl) (by kernel_rfl) (by kernel_rfl) (fun _ _ _ h => h) (yieldsIf_load_mid (by rfl) 23 (.tmp 12) rfl (wq20.heap.size) 0 (by rfl) (k.map bv) _ (fun x hx => blk_rangeP hx.1) Try.underlying23 rfl (by rw [List.length_map, HK.out]; exact Try.sizeHash)) hSq48 ?_
  simp only [Act.put, List.getElem_toArray, List.getElem_cons_zero, List.getElem_cons_succ, List.setIfInBounds_toArray, List.set_cons_zero, List.set_cons_succ]
  refine wpAnyH_take (i := 7) rfl (by kernel_rfl) (by kernel_rfl) (by kernel_rfl) (fun _ _ _ h => h) (yieldsIf_load_mid (by rfl) 54 (.tmp 10) rfl (wq1.heap.size) 0 (by rfl) (rcells a B V) _ (fun x hx => blk_rangeP hx.2.1) Try.underlying54 rfl (by rw [rcells_len _ _ _ HA.out]; exact Try.sizeR6)) hSq48 ?_
  simp only [Act.put, List.getElem_toArray, List.getElem_cons_zero, List.getElem_cons_succ, List.setIfInBounds_toArray, List.set_cons_zero, List.set_cons_succ]
  refine wpAnyH_take (i := 8) (v := .int .i64 q) rfl (by kernel_rfl) (by kernel_rfl) (by kernel_rfl) (fun _ _ _ h => h) (Or.inl ⟨by rfl, fun x hx => by go_simp⟩) hSq48 ?_
  simp only [Act.put, List.getElem_toArray, List.getElem_cons_zero, List.getElem_cons_succ, List.setIfInBounds_toArray, List.set_cons_zero, List.set_cons_succ]
  refine wpAnyH_ready (rs := [9]) (by kernel_rfl) (by simp) ?_
  refine AllReadyH.cons rfl (fun K hK => ?_) AllReadyH.nil
  go_simp
  go_wp2_with (go_at_call 42; refine (c2 _ _).mono ?_; rintro e yq49 ⟨rfl, bq50⟩)
  refine hK.out _ _ ⟨hSq48.1.below bq50 hSq48.1.lt, hSq48.2.1.below bq50 hSq48.2.1.lt, hSq48.2.2.1.below bq50, hSq48.2.2.2.1.below bq50, hSq48.2.2.2.2.trans (bq50.mono hSq48.2.2.2.2.size)⟩ (fun hSq51 => ?_)
  clear hK K hSq48 bq50
  refine wpAnyH_take (i := 10) (v := .bool true) rfl (by kernel_rfl) (by kernel_rfl) (by kernel_rfl) (fun _ _ _ h => h) (Or.inl ⟨by rfl, fun x hx => by go_simp⟩) hSq51 ?_
  simp only [Act.put, List.getElem_toArray, List.getElem_cons_zero, List.getElem_cons_succ, List.setIfInBounds_toArray, List.set_cons_zero, List.set_cons_succ]
  refine wpAnyH_take (i := 11) (v := .bool true) rfl (by kernel_rfl) (by kernel_rfl) (by kernel_rfl) (fun _ _ _ h => h) (Or.inl ⟨by rfl, fun x hx => by go_simp⟩) hSq51 ?_
  simp only [Act.put, List.getElem_toArray, List.getElem_cons_zero, List.getElem_cons_succ, List.setIfInBounds_toArray, List.set_cons_zero, List.set_cons_succ]
  refine wpAnyH_take (i := 12) (v := .bool true) rfl (by kernel_rfl) (by kernel_rfl) (by kernel_rfl) (fun _ _ _ h => h) (Or.inl ⟨by rfl, fun x hx => by go_simp⟩) hSq51 ?_
  simp only [Act.put, List.getElem_toArray, List.getElem_cons_zero, List.getElem_cons_succ, List.setIfInBounds_toArray, List.set_cons_zero, List.set_cons_succ]
  refine wpAnyH_take (i := 13) (v := .pointer (some ⟨r, 0, none⟩)) rfl (by kernel_rfl) (by kernel_rfl) (by kernel_rfl) (fun _ _ _ h => h) (Or.inl ⟨by rfl, fun x hx => by go_simp⟩) hSq51 ?_
  simp only [Act.put, List.getElem_toArray, List.getElem_cons_zero, List.getElem_cons_succ, List.setIfInBounds_toArray, List.set_cons_zero, List.set_cons_succ]
  refine wpAnyH_take (i := 14) rfl (by kernel_rfl) (by kernel_rfl) (by kernel_rfl) (fun _ _ _ h => h) (yieldsIf_load_mid (by rfl) 54 (.tmp 10) rfl (wq1.heap.size) 0 (by rfl) (rcells a B V) _ (fun x hx => blk_rangeP hx.2.1) Try.underlying54 rfl (by rw [rcells_len _ _ _ HA.out]; exact Try.sizeR6)) hSq51 ?_
  simp only [Act.put, List.getElem_toArray, List.getElem_cons_zero, List.getElem_cons_succ, List.setIfInBounds_toArray, List.set_cons_zero, List.set_cons_succ]
  refine wpAnyH_ready (rs := [15]) (by kernel_rfl) (by simp) ?_
  refine AllReadyH.cons rfl (fun K hK => ?_) AllReadyH.nil
  go_simp
  go_wp2_with (go_at_call 77; refine (c3 _ r _ hSq51.2.2.1 hSq51.2.2.2.1).mono ?_; rintro e yq52 ⟨rfl, bq53⟩)
  refine hK.out _ _ ⟨hSq51.1.below bq53 hSq51.1.lt, hSq51.2.1.below bq53 hSq51.2.1.lt, hSq51.2.2.1.below bq53, hSq51.2.2.2.1.below bq53, hSq51.2.2.2.2.trans (bq53.mono hSq51.2.2.2.2.size)⟩ (fun hSq54 => ?_)
  clear hK K hSq51 bq53
  refine wpAnyH_take (i := 16) (v := .bool true) rfl (by kernel_rfl) (by kernel_rfl) (by kernel_rfl) (fun _ _ _ h => h) (Or.inl ⟨by rfl, fun x hx => by go_simp⟩) hSq54 ?_
  simp only [Act.put, List.getElem_toArray, List.getElem_cons_zero, List.getElem_cons_succ, List.setIfInBounds_toArray, List.set_cons_zero, List.set_cons_succ]
  refine wpAnyH_take (i := 17) (v := .bool true) rfl (by kernel_rfl) (by kernel_rfl) (by kernel_rfl) (fun _ _ _ h => h) (Or.inl ⟨by rfl, fun x hx => by go_simp⟩) hSq54 ?_
  simp only [Act.put, List.getElem_toArray, List.getElem_cons_zero, List.getElem_cons_succ, List.setIfInBounds_toArray, List.set_cons_zero, List.set_cons_succ]
  refine wpAnyH_take (i := 18) (v := .pointer (some ⟨r, 0, none⟩)) rfl (by kernel_rfl) (by kernel_rfl) (by kernel_rfl) (fun _ _ _ h => h) (Or.inl ⟨by rfl, fun x hx => by go_simp⟩) hSq54 ?_
  simp only [Act.put, List.getElem_toArray, List.getElem_cons_zero, List.getElem_cons_succ, List.setIfInBounds_toArray, List.set_cons_zero, List.set_cons_succ]
  refine wpAnyH_take (i := 21) (v := .int .i64 B) rfl (by kernel_rfl) (by kernel_rfl) (by kernel_rfl) (fun _ _ _ h => h) (Or.inl ⟨by rfl, fun x hx => by go_simp⟩) hSq54 ?_
  simp only [Act.put, List.getElem_toArray, List.getElem_cons_zero, List.getElem_cons_succ, List.setIfInBounds_toArray, List.set_cons_zero, List.set_cons_succ]
  refine wpAnyH_ready (rs := [19]) (by kernel_rfl) (by simp) ?_
  refine AllReadyH.cons rfl (fun K hK => ?_) AllReadyH.nil
  go_simp
  go_wp2_with (go_at_call 39; refine (Seeds_calls r B L _ hSq54.2.2.2.1 (by rw [HLN.out]; omega)).mono ?_; rintro e yq55 ⟨x9, rfl, hx9, bq56⟩; rw [HLN.out] at hx9; obtain ⟨ao9, c9, rfl⟩ := own_slice hx9; clear hx9)
  refine hK.out _ _ ⟨hSq54.1.below bq56 hSq54.1.lt, hSq54.2.1.below bq56 hSq54.2.1.lt, hSq54.2.2.1.below bq56, hSq54.2.2.2.1.below bq56, hSq54.2.2.2.2.trans (bq56.mono hSq54.2.2.2.2.size)⟩ (fun hSq57 => ?_)
  clear hK K hSq54 bq56
  refine wpAnyH_take (i := 20) (v := .int .i64 B) rfl (by kernel_rfl) (by kernel_rfl) (by kernel_rfl) (fun _ _ _ h => h) (Or.inl ⟨by rfl, fun x hx => by go_simp⟩) hSq57 ?_
  simp only [Act.put, List.getElem_toArray, List.getElem_cons_zero, List.getElem_cons_succ, List.setIfInBounds_toArray, List.set_cons_zero, List.set_cons_succ]
  refine wpAnyH_take (i := 22) (v := .bool true) rfl (by kernel_rfl) (by kernel_rfl) (by kernel_rfl) (fun _ _ _ h => h) (Or.inl ⟨by rfl, fun x hx => by go_simp⟩) hSq57 ?_
  simp only [Act.put, List.getElem_toArray, List.getElem_cons_zero, List.getElem_cons_succ, List.setIfInBounds_toArray, List.set_cons_zero, List.set_cons_succ]
  refine wpAnyH_take (i := 23) (v := .bool true) rfl (by kernel_rfl) (by kernel_rfl) (by kernel_rfl) (fun _ _ _ h => h) (Or.inl ⟨by rfl, fun x hx => by go_simp⟩) hSq57 ?_
  simp only [Act.put, List.getElem_toArray, List.getElem_cons_zero, List.getElem_cons_succ, List.setIfInBounds_toArray, List.set_cons_zero, List.set_cons_succ]
  refine wpAnyH_ready (rs := [24]) (by kernel_rfl) (by simp) ?_
  refine AllReadyH.cons rfl (fun K hK => ?_) AllReadyH.nil
  go_simp
  refine hK.out _ _ hSq57 (fun hSq58 => ?_)
  clear hK K hSq57
  refine wpAnyH_done (by kernel_rfl) ?_ _
  go_wp2_with fail
  go_returns
  exact ⟨rfl, hSq58.2.2.2.2⟩
end Go.Proofs.Ytnfegmcdljejnaa
