/-
  The document's examples for prim (awake).
-/
import Derived.Test.YtjlpdbaknhbgdaaPrimMix
import Derived.Test.YtjlpdbaknhbgdaaWrap
import Derived.Test.YtjlpdbaknhbgdaaUnwrap
import Derived.Test.YtjlpdbaknhbgdaaRd
set_option linter.unusedSimpArgs false
set_option linter.unusedVariables false
namespace Go.Proofs.Ytjlpdbaknhbgdaa
open Go.RowKit

theorem unwrap_wrap (priv once about s : List UInt8) (ho : once.length = 32) (hl : s.length ≤ 65536) : unwrapV priv about (wrapT (pubT priv) once about s) = (s, 0) := by
  have h1 : (wrapT (pubT priv) once about s).length = 48 + s.length := by rw [wrapT, List.length_append, ho, sealT_len]; omega
  rw [unwrapV, if_neg (by omega), wrapT, List.take_left' ho, List.drop_left' ho]
  exact open_seal _ _ _ hl
def pk1 : List UInt8 := 1 :: List.replicate 31 0
def pk2 : List UInt8 := 2 :: List.replicate 31 0
theorem Try.builtP1 : Try.prog.built 26 [(0, .int .u8 1)] = some (pk1.map bv).toArray := by kernel_rfl
theorem Try.builtP2 : Try.prog.built 26 [(0, .int .u8 2)] = some (pk2.map bv).toArray := by kernel_rfl
def sX : List UInt8 := [120]
def sAb : List UInt8 := [97, 98]
def sT : List UInt8 := [116]
set_option maxHeartbeats 4000000 in
set_option maxRecDepth 100000 in
theorem awake5_calls (w : World) : Calls Try.prog 4 #[] w fun e w' => e = .returned (.bool true) ∧ Below w.heap.size w w' := by
  have H1 : Hid (pk1.length = 32) := rfl
  have H2 : Hid (pk2.length = 32) := rfl
  obtain ⟨p, hp⟩ : ∃ p, p = pubT pk1 := ⟨_, rfl⟩
  have HP : Hid (p.length = 32) := by show _ = _; rw [hp]; exact pubT_len _
  obtain ⟨x, hx⟩ : ∃ x, x = wrapT p pk2 sX sAb := ⟨_, rfl⟩
  obtain ⟨s, hs⟩ : ∃ s, s = sealT pk1 [] sAb := ⟨_, rfl⟩
  have hs18 : s.length = 18 := by rw [hs, sealT_len]; rfl
  obtain ⟨v, hv⟩ : ∃ v, v = verT pk1 := ⟨_, rfl⟩
  have HV : Hid (v.length = 32) := by show _ = _; rw [hv]; exact verT_len _
  obtain ⟨g, hg⟩ : ∃ g, g = signT v sT := ⟨_, rfl⟩
  have HG : Hid (g.length = 32) := by show _ = _; rw [hg]; exact signT_len _ _
  have c1 : ∀ y, Calls Try.prog 10 #[.pointer none, .agg (pk1.map bv).toArray] y fun e w' => e = .returned (.agg (p.map bv).toArray) ∧ Below y.heap.size y w' := by rw [hp]; exact fun y => Pub_calls pk1 y rfl
  have c2 : ∀ y, Calls Try.prog 14 #[.pointer none, .agg (p.map bv).toArray, .agg (pk2.map bv).toArray, .string (str sX), .string (str sAb), .slice none 0 0] y fun e w' => e = .returned (.string (str x)) ∧ Below y.heap.size y w' := by rw [hx]; exact fun y => Wrap_calls p pk2 sX sAb y HP.out rfl (by decide) (by decide)
  have hxl : x.length = 50 := by rw [hx, wrapT, List.length_append, sealT_len]; rfl
  have c3 : ∀ y, Calls Try.prog 21 #[.agg (pk1.map bv).toArray, .string (str sX), .string (str x)] y fun e w' => e = .returned (.tuple #[.string (str sAb), .int .i64 0]) ∧ Below y.heap.size y w' := by
    have h1 : unwrapV pk1 sX x = (sAb, 0) := by rw [hx, hp]; exact unwrap_wrap pk1 pk2 sX sAb rfl (by decide)
    have h2 := fun y => Unwrap_calls pk1 sX x y rfl (by decide) (by rw [hxl]; unfold maxLen; omega)
    rw [h1] at h2
    exact h2
  have c4 : ∀ y, Calls Try.prog 11 #[.pointer none, .agg (pk1.map bv).toArray, .string (str []), .string (str sAb), .slice none 0 0] y fun e w' => e = .returned (.string (str s)) ∧ Below y.heap.size y w' := by rw [hs]; exact fun y => Seal_calls pk1 [] sAb y rfl (by simp) (by decide)
  have c5 : ∀ y, Calls Try.prog 23 #[.agg (pk1.map bv).toArray] y fun e w' => e = .returned (.agg (v.map bv).toArray) ∧ Below y.heap.size y w' := by rw [hv]; exact fun y => Verify_calls pk1 y rfl
  have c6 : ∀ y, Calls Try.prog 24 #[.agg (pk1.map bv).toArray, .string (str sT)] y fun e w' => e = .returned (.agg (g.map bv).toArray) ∧ Below y.heap.size y w' := by rw [hg, hv]; exact fun y => Sign_calls pk1 sT y rfl (by decide)
  have c7 : ∀ y, Calls Try.prog 22 #[.agg (v.map bv).toArray, .string (str sT), .agg (g.map bv).toArray] y fun e w' => e = .returned (.bool true) ∧ Below y.heap.size y w' := fun y => by
    have h := Check_calls v sT g y HV.out (by decide) HG.out
    rw [← hg, beq_self_eq_true] at h
    exact h
  clear hp hx hs hv hg
  have hN0 := Blk.new w Z32 26
  have hb0 : Below w.heap.size w (w.alloc (.cells Z32 26)) := (Below.refl _ _).alloc (Nat.le_refl _) _
  go_enter Try.func4, Try.ntmps4
  go_wp2_with (first | ((with_reducible show wpList _ _ _ (⟨some 5, _, _, _, _, _⟩ :: _) _ _); refine wpList_buildCells rfl 26 #[(0, .const (.int .u8 1))] rfl _ Try.builtP1 ?_) | ((with_reducible show wpList _ _ _ (⟨none, Op.store _ (.tmp 1) _, _, _, _, _⟩ :: _) _ _); refine wpList_storeBlk rfl 26 (.tmp 1) (.tmp 5) rfl w.heap.size (pk1.map bv).toArray (by rfl) (by rfl) _ _ hN0 (by rw [bv_size, H1.out]; exact Try.sizeHash) (by rw [bv_size, H1.out, Z32_size]) (bv_all _) ?_; intro w1 hK1 g1; have hb1 : Below w.heap.size w w1 := below_new hb0 g1 (Nat.le_refl _) hb0.size; clear hN0 hb0 g1) | ((with_reducible show wpList _ _ _ (⟨some 6, _, _, _, _, _⟩ :: _) _ _); refine wpList_loadBlk rfl 26 (.tmp 1) rfl w.heap.size (by rfl) _ _ _ hK1 Try.underlying26 rfl (by rw [bv_size, H1.out]; exact Try.sizeHash) ?_))
  refine (c1 _).mono ?_
  rintro e w2 ⟨rfl, b2⟩
  have hK2 := (hK1.below b2 hK1.lt).alloc (.cells Z32 26)
  have hb2 : Below w.heap.size w w2 := hb1.trans (b2.mono hb1.size)
  have hN2 := Blk.new w2 Z32 26
  have hb3 := hb2.alloc hb2.size (.cells Z32 26)
  have hs2 : w.heap.size < w2.heap.size := (hK1.below b2 hK1.lt).lt
  clear hK1 hb1 b2 hb2
  go_wp2_with ((with_reducible show wpList _ _ _ (⟨none, Op.store _ (.tmp 2) _, _, _, _, _⟩ :: _) _ _); refine wpList_storeBlk rfl 26 (.tmp 2) (.tmp 7) rfl w2.heap.size (p.map bv).toArray (by rfl) (by rfl) _ _ hN2 (by rw [bv_size, HP.out]; exact Try.sizeHash) (by rw [bv_size, HP.out, Z32_size]) (bv_all _) ?_; intro w4 hP4 g4; have hK4 := Blk.grown hK2 g4 (by simp; omega); have hb4 : Below w.heap.size w w4 := below_new hb3 g4 (by omega) hb3.size; clear hN2 hK2 hb3 g4)
  generalize w2.heap.size = G at hP4 hs2 ⊢
  refine wp_region_held_drew (S := fun x => Blk x (w.heap.size) (pk1.map bv).toArray 26 ∧ Blk x (G) (p.map bv).toArray 26 ∧ Below w.heap.size w x) (by kernel_rfl) ⟨hK4.drew, hP4.drew, below_drewN hb4 1⟩ (fun hSq23 => ?_)
  refine wpAnyH_take (i := 0) rfl (by kernel_rfl) (by kernel_rfl) (by kernel_rfl) (fun _ _ _ h => h) (yieldsIf_load_mid (by rfl) 26 (.tmp 1) rfl (w.heap.size) 0 (by rfl) (pk1.map bv) _ (fun x hx => blk_range hx.1) Try.underlying26 rfl (by rw [List.length_map, H1.out]; exact Try.sizeHash)) hSq23 ?_
  simp only [Act.put, List.getElem_toArray, List.getElem_cons_zero, List.getElem_cons_succ, List.setIfInBounds_toArray, List.set_cons_zero, List.set_cons_succ]
  refine wpAnyH_take (i := 1) rfl (by kernel_rfl) (by kernel_rfl) (by kernel_rfl) (fun _ _ _ h => h) (yieldsIf_load_mid (by rfl) 26 (.tmp 2) rfl (G) 0 (by rfl) (p.map bv) _ (fun x hx => blk_range hx.2.1) Try.underlying26 rfl (by rw [List.length_map, HP.out]; exact Try.sizeHash)) hSq23 ?_
  simp only [Act.put, List.getElem_toArray, List.getElem_cons_zero, List.getElem_cons_succ, List.setIfInBounds_toArray, List.set_cons_zero, List.set_cons_succ]
  refine wpAnyH_take (i := 2) rfl (by kernel_rfl) (by kernel_rfl) (by kernel_rfl) (fun _ _ _ h => h) (yieldsIf_build (by rfl) 26 #[(0, .const (.int .u8 2))] rfl _ Try.builtP2) hSq23 ?_
  simp only [Act.put, List.getElem_toArray, List.getElem_cons_zero, List.getElem_cons_succ, List.setIfInBounds_toArray, List.set_cons_zero, List.set_cons_succ]
  refine wpAnyH_ready (rs := [3]) (by kernel_rfl) (by simp) ?_
  refine AllReadyH.cons rfl (fun K hK => ?_) AllReadyH.nil
  go_simp
  go_wp2_with (go_at_call 14; refine (c2 _).mono ?_; rintro e yq24 ⟨rfl, bq25⟩)
  refine hK.out _ _ ⟨hSq23.1.below bq25 hSq23.1.lt, hSq23.2.1.below bq25 hSq23.2.1.lt, hSq23.2.2.trans (bq25.mono hSq23.2.2.size)⟩ (fun hSq26 => ?_)
  clear hK K hSq23 bq25
  refine wpAnyH_ready (rs := [4]) (by kernel_rfl) (by simp) ?_
  refine AllReadyH.cons rfl (fun K hK => ?_) AllReadyH.nil
  go_simp
  go_wp2_with (go_at_call 21; refine (c3 _).mono ?_; rintro e yq27 ⟨rfl, bq28⟩)
  refine hK.out _ _ ⟨hSq26.1.below bq28 hSq26.1.lt, hSq26.2.1.below bq28 hSq26.2.1.lt, hSq26.2.2.trans (bq28.mono hSq26.2.2.size)⟩ (fun hSq29 => ?_)
  clear hK K hSq26 bq28
  refine wpAnyH_take (i := 5) (v := .tuple #[.string (str sAb), .int .i64 0]) rfl (by kernel_rfl) (by kernel_rfl) (by kernel_rfl) (fun _ _ _ h => h) (Or.inl ⟨by rfl, fun x hx => by go_simp⟩) hSq29 ?_
  simp only [Act.put, List.getElem_toArray, List.getElem_cons_zero, List.getElem_cons_succ, List.setIfInBounds_toArray, List.set_cons_zero, List.set_cons_succ]
  refine wpAnyH_take (i := 6) (v := .string (str sAb)) rfl (by kernel_rfl) (by kernel_rfl) (by kernel_rfl) (fun _ _ _ h => h) (Or.inl ⟨by rfl, fun x hx => by go_simp⟩) hSq29 ?_
  simp only [Act.put, List.getElem_toArray, List.getElem_cons_zero, List.getElem_cons_succ, List.setIfInBounds_toArray, List.set_cons_zero, List.set_cons_succ]
  refine wpAnyH_take (i := 7) (v := .int .i64 0) rfl (by kernel_rfl) (by kernel_rfl) (by kernel_rfl) (fun _ _ _ h => h) (Or.inl ⟨by rfl, fun x hx => by go_simp⟩) hSq29 ?_
  simp only [Act.put, List.getElem_toArray, List.getElem_cons_zero, List.getElem_cons_succ, List.setIfInBounds_toArray, List.set_cons_zero, List.set_cons_succ]
  refine wpAnyH_ready (rs := [8]) (by kernel_rfl) (by simp) ?_
  refine AllReadyH.cons rfl (fun K hK => ?_) AllReadyH.nil
  go_simp
  refine hK.out _ _ hSq29 (fun hSq30 => ?_)
  clear hK K hSq29
  refine wpAnyH_ready (rs := [9]) (by kernel_rfl) (by simp) ?_
  refine AllReadyH.cons rfl (fun K hK => ?_) AllReadyH.nil
  go_simp
  refine hK.out _ _ hSq30 (fun hSq31 => ?_)
  clear hK K hSq30
  refine wpAnyH_done (by kernel_rfl) ?_ _
  have hK5 := hSq31.1
  have hb5 := hSq31.2.2
  clear hSq31 hs2
  go_wp2_with fail
  refine wp_region_held_drew (S := fun x => Blk x (w.heap.size) (pk1.map bv).toArray 26 ∧ Below w.heap.size w x) (by kernel_rfl) ⟨hK5.drew, below_drewN hb5 1⟩ (fun hSq32 => ?_)
  refine wpAnyH_take (i := 0) rfl (by kernel_rfl) (by kernel_rfl) (by kernel_rfl) (fun _ _ _ h => h) (yieldsIf_load_mid (by rfl) 26 (.tmp 1) rfl (w.heap.size) 0 (by rfl) (pk1.map bv) _ (fun x hx => blk_range hx.1) Try.underlying26 rfl (by rw [List.length_map, H1.out]; exact Try.sizeHash)) hSq32 ?_
  simp only [Act.put, List.getElem_toArray, List.getElem_cons_zero, List.getElem_cons_succ, List.setIfInBounds_toArray, List.set_cons_zero, List.set_cons_succ]
  refine wpAnyH_ready (rs := [1]) (by kernel_rfl) (by simp) ?_
  refine AllReadyH.cons rfl (fun K hK => ?_) AllReadyH.nil
  go_simp
  go_wp2_with (go_at_call 11; refine (c4 _).mono ?_; rintro e yq33 ⟨rfl, bq34⟩)
  refine hK.out _ _ ⟨hSq32.1.below bq34 hSq32.1.lt, hSq32.2.trans (bq34.mono hSq32.2.size)⟩ (fun hSq35 => ?_)
  clear hK K hSq32 bq34
  refine wpAnyH_take (i := 2) (v := .int .i64 18) rfl (by kernel_rfl) (by kernel_rfl) (by kernel_rfl) (fun _ _ _ h => h) (Or.inl ⟨by rfl, fun x hx => by go_simp⟩) hSq35 ?_
  simp only [Act.put, List.getElem_toArray, List.getElem_cons_zero, List.getElem_cons_succ, List.setIfInBounds_toArray, List.set_cons_zero, List.set_cons_succ]
  refine wpAnyH_take (i := 3) (v := .bool true) rfl (by kernel_rfl) (by kernel_rfl) (by kernel_rfl) (fun _ _ _ h => h) (Or.inl ⟨by rfl, fun x hx => by go_simp⟩) hSq35 ?_
  simp only [Act.put, List.getElem_toArray, List.getElem_cons_zero, List.getElem_cons_succ, List.setIfInBounds_toArray, List.set_cons_zero, List.set_cons_succ]
  refine wpAnyH_take (i := 4) (v := .bool true) rfl (by kernel_rfl) (by kernel_rfl) (by kernel_rfl) (fun _ _ _ h => h) (Or.inl ⟨by rfl, fun x hx => by go_simp⟩) hSq35 ?_
  simp only [Act.put, List.getElem_toArray, List.getElem_cons_zero, List.getElem_cons_succ, List.setIfInBounds_toArray, List.set_cons_zero, List.set_cons_succ]
  refine wpAnyH_take (i := 5) (v := .string (str sAb)) rfl (by kernel_rfl) (by kernel_rfl) (by kernel_rfl) (fun _ _ _ h => h) (Or.inl ⟨by rfl, fun x hx => by go_simp⟩) hSq35 ?_
  simp only [Act.put, List.getElem_toArray, List.getElem_cons_zero, List.getElem_cons_succ, List.setIfInBounds_toArray, List.set_cons_zero, List.set_cons_succ]
  refine wpAnyH_take (i := 6) (v := .bool true) rfl (by kernel_rfl) (by kernel_rfl) (by kernel_rfl) (fun _ _ _ h => h) (Or.inl ⟨by rfl, fun x hx => by go_simp; rfl⟩) hSq35 ?_
  simp only [Act.put, List.getElem_toArray, List.getElem_cons_zero, List.getElem_cons_succ, List.setIfInBounds_toArray, List.set_cons_zero, List.set_cons_succ]
  refine wpAnyH_take (i := 7) (v := .bool true) rfl (by kernel_rfl) (by kernel_rfl) (by kernel_rfl) (fun _ _ _ h => h) (Or.inl ⟨by rfl, fun x hx => by go_simp⟩) hSq35 ?_
  simp only [Act.put, List.getElem_toArray, List.getElem_cons_zero, List.getElem_cons_succ, List.setIfInBounds_toArray, List.set_cons_zero, List.set_cons_succ]
  refine wpAnyH_take (i := 8) (v := .bool true) rfl (by kernel_rfl) (by kernel_rfl) (by kernel_rfl) (fun _ _ _ h => h) (Or.inl ⟨by rfl, fun x hx => by go_simp⟩) hSq35 ?_
  simp only [Act.put, List.getElem_toArray, List.getElem_cons_zero, List.getElem_cons_succ, List.setIfInBounds_toArray, List.set_cons_zero, List.set_cons_succ]
  refine wpAnyH_take (i := 9) (v := .int .i64 0) rfl (by kernel_rfl) (by kernel_rfl) (by kernel_rfl) (fun _ _ _ h => h) (Or.inl ⟨by rfl, fun x hx => by go_simp⟩) hSq35 ?_
  simp only [Act.put, List.getElem_toArray, List.getElem_cons_zero, List.getElem_cons_succ, List.setIfInBounds_toArray, List.set_cons_zero, List.set_cons_succ]
  refine wpAnyH_take (i := 10) (v := .bool true) rfl (by kernel_rfl) (by kernel_rfl) (by kernel_rfl) (fun _ _ _ h => h) (Or.inl ⟨by rfl, fun x hx => by go_simp⟩) hSq35 ?_
  simp only [Act.put, List.getElem_toArray, List.getElem_cons_zero, List.getElem_cons_succ, List.setIfInBounds_toArray, List.set_cons_zero, List.set_cons_succ]
  refine wpAnyH_take (i := 11) (v := .bool true) rfl (by kernel_rfl) (by kernel_rfl) (by kernel_rfl) (fun _ _ _ h => h) (Or.inl ⟨by rfl, fun x hx => by go_simp⟩) hSq35 ?_
  simp only [Act.put, List.getElem_toArray, List.getElem_cons_zero, List.getElem_cons_succ, List.setIfInBounds_toArray, List.set_cons_zero, List.set_cons_succ]
  refine wpAnyH_take (i := 12) (v := .bool true) rfl (by kernel_rfl) (by kernel_rfl) (by kernel_rfl) (fun _ _ _ h => h) (Or.inl ⟨by rfl, fun x hx => by go_simp⟩) hSq35 ?_
  simp only [Act.put, List.getElem_toArray, List.getElem_cons_zero, List.getElem_cons_succ, List.setIfInBounds_toArray, List.set_cons_zero, List.set_cons_succ]
  refine wpAnyH_take (i := 13) rfl (by kernel_rfl) (by kernel_rfl) (by kernel_rfl) (fun _ _ _ h => h) (yieldsIf_load_mid (by rfl) 26 (.tmp 1) rfl (w.heap.size) 0 (by rfl) (pk1.map bv) _ (fun x hx => blk_range hx.1) Try.underlying26 rfl (by rw [List.length_map, H1.out]; exact Try.sizeHash)) hSq35 ?_
  simp only [Act.put, List.getElem_toArray, List.getElem_cons_zero, List.getElem_cons_succ, List.setIfInBounds_toArray, List.set_cons_zero, List.set_cons_succ]
  refine wpAnyH_take (i := 15) rfl (by kernel_rfl) (by kernel_rfl) (by kernel_rfl) (fun _ _ _ h => h) (yieldsIf_load_mid (by rfl) 26 (.tmp 1) rfl (w.heap.size) 0 (by rfl) (pk1.map bv) _ (fun x hx => blk_range hx.1) Try.underlying26 rfl (by rw [List.length_map, H1.out]; exact Try.sizeHash)) hSq35 ?_
  simp only [Act.put, List.getElem_toArray, List.getElem_cons_zero, List.getElem_cons_succ, List.setIfInBounds_toArray, List.set_cons_zero, List.set_cons_succ]
  refine wpAnyH_ready (rs := [14]) (by kernel_rfl) (by simp) ?_
  refine AllReadyH.cons rfl (fun K hK => ?_) AllReadyH.nil
  go_simp
  go_wp2_with (go_at_call 23; refine (c5 _).mono ?_; rintro e yq36 ⟨rfl, bq37⟩)
  refine hK.out _ _ ⟨hSq35.1.below bq37 hSq35.1.lt, hSq35.2.trans (bq37.mono hSq35.2.size)⟩ (fun hSq38 => ?_)
  clear hK K hSq35 bq37
  refine wpAnyH_ready (rs := [16]) (by kernel_rfl) (by simp) ?_
  refine AllReadyH.cons rfl (fun K hK => ?_) AllReadyH.nil
  go_simp
  go_wp2_with (go_at_call 24; refine (c6 _).mono ?_; rintro e yq39 ⟨rfl, bq40⟩)
  refine hK.out _ _ ⟨hSq38.1.below bq40 hSq38.1.lt, hSq38.2.trans (bq40.mono hSq38.2.size)⟩ (fun hSq41 => ?_)
  clear hK K hSq38 bq40
  refine wpAnyH_ready (rs := [17]) (by kernel_rfl) (by simp) ?_
  refine AllReadyH.cons rfl (fun K hK => ?_) AllReadyH.nil
  go_simp
  go_wp2_with (go_at_call 22; refine (c7 _).mono ?_; rintro e yq42 ⟨rfl, bq43⟩)
  refine hK.out _ _ ⟨hSq41.1.below bq43 hSq41.1.lt, hSq41.2.trans (bq43.mono hSq41.2.size)⟩ (fun hSq44 => ?_)
  clear hK K hSq41 bq43
  refine wpAnyH_take (i := 18) (v := .bool true) rfl (by kernel_rfl) (by kernel_rfl) (by kernel_rfl) (fun _ _ _ h => h) (Or.inl ⟨by rfl, fun x hx => by go_simp⟩) hSq44 ?_
  simp only [Act.put, List.getElem_toArray, List.getElem_cons_zero, List.getElem_cons_succ, List.setIfInBounds_toArray, List.set_cons_zero, List.set_cons_succ]
  refine wpAnyH_ready (rs := [19]) (by kernel_rfl) (by simp) ?_
  refine AllReadyH.cons rfl (fun K hK => ?_) AllReadyH.nil
  go_simp
  refine hK.out _ _ hSq44 (fun hSq45 => ?_)
  clear hK K hSq44
  refine wpAnyH_done (by kernel_rfl) ?_ _
  go_wp2_with fail
  go_returns
  exact ⟨rfl, hSq45.2⟩
end Go.Proofs.Ytjlpdbaknhbgdaa
