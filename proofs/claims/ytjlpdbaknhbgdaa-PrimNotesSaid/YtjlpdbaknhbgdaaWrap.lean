/-
  Wraps: prim.Wrap with a nil book and no secrets, the document's Wrap.
-/
import Derived.Test.YtjlpdbaknhbgdaaPrimPub
import Derived.Test.YtjlpdbaknhbgdaaSeal
set_option linter.unusedSimpArgs false
set_option linter.unusedVariables false
namespace Go.Proofs.Ytjlpdbaknhbgdaa
open Go.RowKit

def wrapT (pub once about s : List UInt8) : List UInt8 := once ++ sealT (sharedT pub once) about s

set_option maxHeartbeats 4000000 in
set_option maxRecDepth 100000 in
theorem WrapLong_calls (p o about s : List UInt8) (w : World) (hl : 65536 < s.length) (hm : s.length ≤ maxLen) :
    Calls Try.prog 14 #[.pointer none, .agg (p.map bv).toArray, .agg (o.map bv).toArray, .string (str about), .string (str s), .slice none 0 0] w fun e w' => e = .returned (.string (str [])) ∧ Below w.heap.size w w' := by
  have hb0 : Below w.heap.size w ((w.alloc (.cells (p.map bv).toArray 26)).alloc (.cells (o.map bv).toArray 26)) := ((Below.refl _ _).alloc (Nat.le_refl _) _).alloc (by simp) _
  unfold maxLen at hm
  go_enter Try.func14, Try.ntmps14
  go_wp2_with fail
  go_returns
  exact ⟨rfl, hb0⟩
set_option maxHeartbeats 4000000 in
set_option maxRecDepth 100000 in
theorem Wrap_calls (p o about s : List UInt8) (w : World) (hp : p.length = 32) (ho : o.length = 32) (ha : about.length ≤ 68719476736) (hl : s.length ≤ 65536) :
    Calls Try.prog 14 #[.pointer none, .agg (p.map bv).toArray, .agg (o.map bv).toArray, .string (str about), .string (str s), .slice none 0 0] w fun e w' => e = .returned (.string (str (wrapT p o about s))) ∧ Below w.heap.size w w' := by
  have HP := Lib.hid hp
  have HO := Lib.hid ho
  clear hp ho
  have hP0 : Blk ((w.alloc (.cells (p.map bv).toArray 26)).alloc (.cells (o.map bv).toArray 26)) w.heap.size (p.map bv).toArray 26 := (Blk.new _ _ _).alloc _
  have hO0 : Blk ((w.alloc (.cells (p.map bv).toArray 26)).alloc (.cells (o.map bv).toArray 26)) (w.heap.size + 1) (o.map bv).toArray 26 := blk_new1 _ _ _ _
  have hb0 : Below w.heap.size w ((w.alloc (.cells (p.map bv).toArray 26)).alloc (.cells (o.map bv).toArray 26)) := ((Below.refl _ _).alloc (Nat.le_refl _) _).alloc (by simp) _
  obtain ⟨k, hk⟩ : ∃ k, k = sharedT p o := ⟨_, rfl⟩
  have HK : Hid (k.length = 32) := by show _ = _; rw [hk]; exact sharedT_len _ _
  obtain ⟨m, hm⟩ : ∃ m, m = markT p := ⟨_, rfl⟩
  have HM : Hid (m.length = 32) := by show _ = _; rw [hm]; exact markT_len _
  obtain ⟨q, hq⟩ : ∃ q, q = sealT k about s := ⟨_, rfl⟩
  have hql : q.length ≤ 65552 := by rw [hq, sealT_len]; omega
  have c1 : ∀ y, Calls Try.prog 35 #[.agg (p.map bv).toArray, .string (str o)] y fun e w' => e = .returned (.agg (k.map bv).toArray) ∧ Below y.heap.size y w' := by rw [hk]; exact fun y => shared_calls p o y HP.out (by rw [HO.out]; omega)
  have c2 : ∀ y, Calls Try.prog 31 #[.agg (p.map bv).toArray] y fun e w' => e = .returned (.agg (m.map bv).toArray) ∧ Below y.heap.size y w' := by rw [hm]; exact fun y => Mark_calls p y HP.out
  have c3 : ∀ y, Calls Try.prog 11 #[.pointer none, .agg (k.map bv).toArray, .string (str about), .string (str s), .slice none 0 0] y fun e w' => e = .returned (.string (str q)) ∧ Below y.heap.size y w' := by rw [hq]; exact fun y => Seal_calls k about s y HK.out ha hl
  have hfin : Hid (wrapT p o about s = o ++ q) := by show _ = _; rw [wrapT, hq, hk]
  clear hk hm hq
  go_enter Try.func14, Try.ntmps14
  go_wp2_with fail
  generalize (w.alloc (.cells (p.map bv).toArray 26)).alloc (.cells (o.map bv).toArray 26) = W0 at hP0 hO0 hb0 ⊢
  refine wp_region_held_drew (S := fun x => Blk x (w.heap.size) (p.map bv).toArray 26 ∧ Blk x (w.heap.size + 1) (o.map bv).toArray 26 ∧ Below w.heap.size w x) (by kernel_rfl) ⟨hP0.drew, hO0.drew, below_drewN hb0 1⟩ (fun hSq25 => ?_)
  refine wpAnyH_take (i := 0) rfl (by kernel_rfl) (by kernel_rfl) (by kernel_rfl) (fun _ _ _ h => h) (yieldsIf_load_mid (by rfl) 26 (.tmp 7) rfl (w.heap.size) 0 (by rfl) (p.map bv) _ (fun x hx => blk_range hx.1) Try.underlying26 rfl (by rw [List.length_map, HP.out]; exact Try.sizeHash)) hSq25 ?_
  simp only [Act.put, List.getElem_toArray, List.getElem_cons_zero, List.getElem_cons_succ, List.setIfInBounds_toArray, List.set_cons_zero, List.set_cons_succ]
  refine wpAnyH_take (i := 1) (v := .slice (some ⟨w.heap.size + 1, 0, none⟩) 32 32) rfl (by kernel_rfl) (by kernel_rfl) (by kernel_rfl) (fun _ _ _ h => h) (Or.inl ⟨by rfl, fun x hx => by go_simp⟩) hSq25 ?_
  simp only [Act.put, List.getElem_toArray, List.getElem_cons_zero, List.getElem_cons_succ, List.setIfInBounds_toArray, List.set_cons_zero, List.set_cons_succ]
  refine wpAnyH_take (i := 2) (v := .string (str o)) rfl (by kernel_rfl) (by kernel_rfl) (by kernel_rfl) (fun _ _ _ h => h) (Or.inl ⟨by rfl, fun x hx => by have hcv := conv_blk HO.out hx.2.1; go_simp⟩) hSq25 ?_
  simp only [Act.put, List.getElem_toArray, List.getElem_cons_zero, List.getElem_cons_succ, List.setIfInBounds_toArray, List.set_cons_zero, List.set_cons_succ]
  refine wpAnyH_ready (rs := [3, 4]) (by kernel_rfl) (by simp) ?_
  refine AllReadyH.cons rfl (fun K hK => ?_) ?_
  · go_simp
    go_wp2_with (go_at_call 35; refine (c1 _).mono ?_; rintro e yq26 ⟨rfl, bq27⟩)
    refine hK.out _ _ ⟨hSq25.1.below bq27 hSq25.1.lt, hSq25.2.1.below bq27 hSq25.2.1.lt, hSq25.2.2.trans (bq27.mono hSq25.2.2.size)⟩ (fun hSq28 => ?_)
    clear hK K hSq25 bq27
    refine wpAnyH_ready (rs := [4]) (by kernel_rfl) (by simp) ?_
    refine AllReadyH.cons rfl (fun K hK => ?_) AllReadyH.nil
    rw [if_pos (by rfl)]
    refine wp_allocZ 26 rfl Z32 (by kernel_rfl) ?_
    intro gq32 yq30 egq33 ezq34 bq29 hEq31
    have lgq35 : w.heap.size ≤ gq32 := by rw [egq33]; exact hSq28.2.2.size
    have lbq36 : w.heap.size < gq32 := by rw [egq33]; exact hSq28.1.lt
    have lbq37 : w.heap.size + 1 < gq32 := by rw [egq33]; exact hSq28.2.1.lt
    refine hK.out _ _ ⟨hSq28.1.below bq29 hSq28.1.lt, hSq28.2.1.below bq29 hSq28.2.1.lt, hSq28.2.2.trans (bq29.mono hSq28.2.2.size)⟩ (fun hSq38 => ?_)
    clear hK K hSq28 bq29 egq33 ezq34
    refine wpAnyH_ready (rs := [5]) (by kernel_rfl) (by simp) ?_
    refine AllReadyH.cons rfl (fun K hK => ?_) AllReadyH.nil
    rw [if_pos (by rfl)]
    refine wp_storeBlk 26 (.tmp 13) (.tmp 20) rfl gq32 (k.map bv).toArray (by rfl) (by rfl) _ _ hEq31 (by rw [bv_size, HK.out]; exact Try.sizeHash) (by rw [bv_size, HK.out, Z32_size]) (bv_all _) ?_
    intro yq39 hEq40 grq41
    refine hK.out _ _ ⟨hSq38.1.grown grq41 (by first | (simp; done) | (simp; omega)), hSq38.2.1.grown grq41 (by first | (simp; done) | (simp; omega)), below_new hSq38.2.2 grq41 lgq35 hSq38.2.2.size⟩ (fun hSq42 => ?_)
    clear hK K hSq38
    refine wpAnyH_done (by kernel_rfl) ?_ _
    have hP1 := hSq42.1
    have hO1 := hSq42.2.1
    have hb1 := hSq42.2.2
    have hk1 := hEq40
    clear hSq42
    generalize gq32 = G at *
    go_wp2_with fail
    refine wp_region_held_drew (S := fun x => Blk x (w.heap.size) (p.map bv).toArray 26 ∧ Blk x (w.heap.size + 1) (o.map bv).toArray 26 ∧ Blk x (G) (k.map bv).toArray 26 ∧ Below w.heap.size w x) (by kernel_rfl) ⟨hP1.drew, hO1.drew, hk1.drew, below_drewN hb1 1⟩ (fun hSq43 => ?_)
    refine wpAnyH_take (i := 0) (v := .pointer none) rfl (by kernel_rfl) (by kernel_rfl) (by kernel_rfl) (fun _ _ _ h => h) (Or.inl ⟨by rfl, fun x hx => by go_simp⟩) hSq43 ?_
    simp only [Act.put, List.getElem_toArray, List.getElem_cons_zero, List.getElem_cons_succ, List.setIfInBounds_toArray, List.set_cons_zero, List.set_cons_succ]
    refine wpAnyH_take (i := 1) rfl (by kernel_rfl) (by kernel_rfl) (by kernel_rfl) (fun _ _ _ h => h) (yieldsIf_load_mid (by rfl) 26 (.tmp 7) rfl (w.heap.size) 0 (by rfl) (p.map bv) _ (fun x hx => blk_range hx.1) Try.underlying26 rfl (by rw [List.length_map, HP.out]; exact Try.sizeHash)) hSq43 ?_
    simp only [Act.put, List.getElem_toArray, List.getElem_cons_zero, List.getElem_cons_succ, List.setIfInBounds_toArray, List.set_cons_zero, List.set_cons_succ]
    refine wpAnyH_take (i := 4) rfl (by kernel_rfl) (by kernel_rfl) (by kernel_rfl) (fun _ _ _ h => h) (yieldsIf_load_mid (by rfl) 26 (.tmp 13) rfl (G) 0 (by rfl) (k.map bv) _ (fun x hx => blk_range hx.2.2.1) Try.underlying26 rfl (by rw [List.length_map, HK.out]; exact Try.sizeHash)) hSq43 ?_
    simp only [Act.put, List.getElem_toArray, List.getElem_cons_zero, List.getElem_cons_succ, List.setIfInBounds_toArray, List.set_cons_zero, List.set_cons_succ]
    refine wpAnyH_ready (rs := [2, 5]) (by kernel_rfl) (by simp) ?_
    refine AllReadyH.cons rfl (fun K hK => ?_) ?_
    · go_simp
      go_wp2_with (go_at_call 31; refine (c2 _).mono ?_; rintro e yq44 ⟨rfl, bq45⟩)
      refine hK.out _ _ ⟨hSq43.1.below bq45 hSq43.1.lt, hSq43.2.1.below bq45 hSq43.2.1.lt, hSq43.2.2.1.below bq45 hSq43.2.2.1.lt, hSq43.2.2.2.trans (bq45.mono hSq43.2.2.2.size)⟩ (fun hSq46 => ?_)
      clear hK K hSq43 bq45
      refine wpAnyH_ready (rs := [3, 5]) (by kernel_rfl) (by simp) ?_
      refine AllReadyH.cons rfl (fun K hK => ?_) ?_
      · rw [if_pos (by rfl)]
        refine wp_bs32 23 26 (.tmp 23) rfl m HM.out (by rfl) Try.underlying23 (by kernel_rfl) ?_
        intro gq50 yq48 egq51 ezq52 bq47 hEq49
        have lgq53 : w.heap.size ≤ gq50 := by rw [egq51]; exact hSq46.2.2.2.size
        have lbq54 : w.heap.size < gq50 := by rw [egq51]; exact hSq46.1.lt
        have lbq55 : w.heap.size + 1 < gq50 := by rw [egq51]; exact hSq46.2.1.lt
        have lbq56 : G < gq50 := by rw [egq51]; exact hSq46.2.2.1.lt
        refine hK.out _ _ ⟨hSq46.1.below bq47 hSq46.1.lt, hSq46.2.1.below bq47 hSq46.2.1.lt, hSq46.2.2.1.below bq47 hSq46.2.2.1.lt, hSq46.2.2.2.trans (bq47.mono hSq46.2.2.2.size)⟩ (fun hSq57 => ?_)
        clear hK K hSq46 bq47 egq51 ezq52
        refine wpAnyH_ready (rs := [5]) (by kernel_rfl) (by simp) ?_
        refine AllReadyH.cons rfl (fun K hK => ?_) AllReadyH.nil
        rw [if_pos (by rfl)]
        refine wp_bs32 23 26 (.tmp 25) rfl k HK.out (by rfl) Try.underlying23 (by kernel_rfl) ?_
        intro gq61 yq59 egq62 ezq63 bq58 hEq60
        have lgq64 : w.heap.size ≤ gq61 := by rw [egq62]; exact hSq57.2.2.2.size
        have lbq65 : w.heap.size < gq61 := by rw [egq62]; exact hSq57.1.lt
        have lbq66 : w.heap.size + 1 < gq61 := by rw [egq62]; exact hSq57.2.1.lt
        have lbq67 : G < gq61 := by rw [egq62]; exact hSq57.2.2.1.lt
        have hEq68 := hEq49.below bq58 hEq49.lt
        refine hK.out _ _ ⟨hSq57.1.below bq58 hSq57.1.lt, hSq57.2.1.below bq58 hSq57.2.1.lt, hSq57.2.2.1.below bq58 hSq57.2.2.1.lt, hSq57.2.2.2.trans (bq58.mono hSq57.2.2.2.size)⟩ (fun hSq69 => ?_)
        clear hK K hSq57 bq58 egq62 ezq63
        refine wpAnyH_take (i := 6) (v := .agg #[.slice (some ⟨gq50, 0, none⟩) 1 1, .slice (some ⟨gq61, 0, none⟩) 1 1]) rfl (by kernel_rfl) (by kernel_rfl) (by kernel_rfl) (fun _ _ _ h => h) (Or.inl ⟨by rfl, fun x hx => by go_simp⟩) hSq69 ?_
        simp only [Act.put, List.getElem_toArray, List.getElem_cons_zero, List.getElem_cons_succ, List.setIfInBounds_toArray, List.set_cons_zero, List.set_cons_succ]
        refine wpAnyH_ready (rs := [7]) (by kernel_rfl) (by simp) ?_
        refine AllReadyH.cons rfl (fun K hK => ?_) AllReadyH.nil
        go_simp
        go_wp2_with (go_at_call 26; refine (NoteNil_calls _ _ 1 1 (by omega) rfl _).mono ?_; rintro e yq70 ⟨rfl, bq71⟩)
        have hEq72 := hEq68.below bq71 hEq68.lt
        have hEq73 := hEq60.below bq71 hEq60.lt
        refine hK.out _ _ ⟨hSq69.1.below bq71 hSq69.1.lt, hSq69.2.1.below bq71 hSq69.2.1.lt, hSq69.2.2.1.below bq71 hSq69.2.2.1.lt, hSq69.2.2.2.trans (bq71.mono hSq69.2.2.2.size)⟩ (fun hSq74 => ?_)
        clear hK K hSq69 bq71
        refine wpAnyH_done (by kernel_rfl) ?_ _
        have hP2 := hSq74.1
        have hO2 := hSq74.2.1
        have hK2 := hSq74.2.2.1
        have hb2 := hSq74.2.2.2
        clear hSq74
        go_wp2_with (first | ((with_reducible show wpList _ _ _ (⟨some 30, _, _, _, _, _⟩ :: _) _ _); refine wpList_loadBlk rfl 26 (.tmp 8) rfl (w.heap.size + 1) (by rfl) _ _ _ hO2 Try.underlying26 rfl (by rw [bv_size, HO.out]; exact Try.sizeHash) ?_; have ho1 : o.length = 32 := HO.out) | ((with_reducible show wpList _ _ _ (⟨some 32, _, _, _, _, _⟩ :: _) _ _); refine wpList_loadBlk rfl 26 (.tmp 13) rfl G (by rfl) _ _ _ (Blk.alloc hK2 _) Try.underlying26 rfl (by rw [bv_size, HK.out]; exact Try.sizeHash) ?_; have hk1 : k.length = 32 := HK.out))
        refine (NoteNil_calls _ _ 1 1 (by omega) rfl _).mono ?_
        rintro e w5 ⟨rfl, b5⟩
        have hO5 := Blk.below (Blk.alloc (Blk.alloc hO2 _) _) b5 (Blk.lt (Blk.alloc (Blk.alloc hO2 _) _))
        have hK5 := Blk.below (Blk.alloc (Blk.alloc hK2 _) _) b5 (Blk.lt (Blk.alloc (Blk.alloc hK2 _) _))
        have hb5 : Below w.heap.size w w5 := ((hb2.alloc hb2.size _).alloc (by simp; have := hb2.size; omega) _).trans (b5.mono (by simp; have := hb2.size; omega))
        clear b5 ho1 hk1 hP2 hO2 hK2 hb2
        go_wp2_with fail
        refine wp_region_held_drew (S := fun x => Blk x (w.heap.size + 1) (o.map bv).toArray 26 ∧ Blk x (G) (k.map bv).toArray 26 ∧ Below w.heap.size w x) (by kernel_rfl) ⟨hO5.drew, hK5.drew, below_drewN hb5 1⟩ (fun hSq75 => ?_)
        refine wpAnyH_take (i := 0) (v := .slice (some ⟨w.heap.size + 1, 0, none⟩) 32 32) rfl (by kernel_rfl) (by kernel_rfl) (by kernel_rfl) (fun _ _ _ h => h) (Or.inl ⟨by rfl, fun x hx => by go_simp⟩) hSq75 ?_
        simp only [Act.put, List.getElem_toArray, List.getElem_cons_zero, List.getElem_cons_succ, List.setIfInBounds_toArray, List.set_cons_zero, List.set_cons_succ]
        refine wpAnyH_take (i := 1) (v := .string (str o)) rfl (by kernel_rfl) (by kernel_rfl) (by kernel_rfl) (fun _ _ _ h => h) (Or.inl ⟨by rfl, fun x hx => by have hcv := conv_blk HO.out hx.1; go_simp⟩) hSq75 ?_
        simp only [Act.put, List.getElem_toArray, List.getElem_cons_zero, List.getElem_cons_succ, List.setIfInBounds_toArray, List.set_cons_zero, List.set_cons_succ]
        refine wpAnyH_take (i := 2) (v := .pointer none) rfl (by kernel_rfl) (by kernel_rfl) (by kernel_rfl) (fun _ _ _ h => h) (Or.inl ⟨by rfl, fun x hx => by go_simp⟩) hSq75 ?_
        simp only [Act.put, List.getElem_toArray, List.getElem_cons_zero, List.getElem_cons_succ, List.setIfInBounds_toArray, List.set_cons_zero, List.set_cons_succ]
        refine wpAnyH_take (i := 3) rfl (by kernel_rfl) (by kernel_rfl) (by kernel_rfl) (fun _ _ _ h => h) (yieldsIf_load_mid (by rfl) 26 (.tmp 13) rfl (G) 0 (by rfl) (k.map bv) _ (fun x hx => blk_range hx.2.1) Try.underlying26 rfl (by rw [List.length_map, HK.out]; exact Try.sizeHash)) hSq75 ?_
        simp only [Act.put, List.getElem_toArray, List.getElem_cons_zero, List.getElem_cons_succ, List.setIfInBounds_toArray, List.set_cons_zero, List.set_cons_succ]
        refine wpAnyH_take (i := 4) (v := .string (str about)) rfl (by kernel_rfl) (by kernel_rfl) (by kernel_rfl) (fun _ _ _ h => h) (Or.inl ⟨by rfl, fun x hx => by go_simp⟩) hSq75 ?_
        simp only [Act.put, List.getElem_toArray, List.getElem_cons_zero, List.getElem_cons_succ, List.setIfInBounds_toArray, List.set_cons_zero, List.set_cons_succ]
        refine wpAnyH_take (i := 5) (v := .string (str s)) rfl (by kernel_rfl) (by kernel_rfl) (by kernel_rfl) (fun _ _ _ h => h) (Or.inl ⟨by rfl, fun x hx => by go_simp⟩) hSq75 ?_
        simp only [Act.put, List.getElem_toArray, List.getElem_cons_zero, List.getElem_cons_succ, List.setIfInBounds_toArray, List.set_cons_zero, List.set_cons_succ]
        refine wpAnyH_take (i := 6) (v := .slice none 0 0) rfl (by kernel_rfl) (by kernel_rfl) (by kernel_rfl) (fun _ _ _ h => h) (Or.inl ⟨by rfl, fun x hx => by go_simp⟩) hSq75 ?_
        simp only [Act.put, List.getElem_toArray, List.getElem_cons_zero, List.getElem_cons_succ, List.setIfInBounds_toArray, List.set_cons_zero, List.set_cons_succ]
        refine wpAnyH_ready (rs := [7]) (by kernel_rfl) (by simp) ?_
        refine AllReadyH.cons rfl (fun K hK => ?_) AllReadyH.nil
        go_simp
        go_wp2_with (go_at_call 11; refine (c3 _).mono ?_; rintro e yq76 ⟨rfl, bq77⟩)
        refine hK.out _ _ ⟨hSq75.1.below bq77 hSq75.1.lt, hSq75.2.1.below bq77 hSq75.2.1.lt, hSq75.2.2.trans (bq77.mono hSq75.2.2.size)⟩ (fun hSq78 => ?_)
        clear hK K hSq75 bq77
        refine wpAnyH_take (i := 8) (v := .string (str (o ++ q))) rfl (by kernel_rfl) (by kernel_rfl) (by kernel_rfl) (fun _ _ _ h => h) (Or.inl ⟨by rfl, fun x hx => by have ho1 : o.length = 32 := HO.out; go_simp; try omega⟩) hSq78 ?_
        simp only [Act.put, List.getElem_toArray, List.getElem_cons_zero, List.getElem_cons_succ, List.setIfInBounds_toArray, List.set_cons_zero, List.set_cons_succ]
        refine wpAnyH_ready (rs := [9]) (by kernel_rfl) (by simp) ?_
        refine AllReadyH.cons rfl (fun K hK => ?_) AllReadyH.nil
        go_simp
        refine hK.out _ _ hSq78 (fun hSq79 => ?_)
        clear hK K hSq78
        refine wpAnyH_done (by kernel_rfl) ?_ _
        go_wp2_with fail
        go_returns
        rw [hfin.out]
        exact ⟨rfl, hSq79.2.2⟩
      refine AllReadyH.cons rfl (fun K hK => ?_) AllReadyH.nil
      rw [if_pos (by rfl)]
      refine wp_bs32 23 26 (.tmp 25) rfl k HK.out (by rfl) Try.underlying23 (by kernel_rfl) ?_
      intro gq83 yq81 egq84 ezq85 bq80 hEq82
      have lgq86 : w.heap.size ≤ gq83 := by rw [egq84]; exact hSq46.2.2.2.size
      have lbq87 : w.heap.size < gq83 := by rw [egq84]; exact hSq46.1.lt
      have lbq88 : w.heap.size + 1 < gq83 := by rw [egq84]; exact hSq46.2.1.lt
      have lbq89 : G < gq83 := by rw [egq84]; exact hSq46.2.2.1.lt
      refine hK.out _ _ ⟨hSq46.1.below bq80 hSq46.1.lt, hSq46.2.1.below bq80 hSq46.2.1.lt, hSq46.2.2.1.below bq80 hSq46.2.2.1.lt, hSq46.2.2.2.trans (bq80.mono hSq46.2.2.2.size)⟩ (fun hSq90 => ?_)
      clear hK K hSq46 bq80 egq84 ezq85
      refine wpAnyH_ready (rs := [3]) (by kernel_rfl) (by simp) ?_
      refine AllReadyH.cons rfl (fun K hK => ?_) AllReadyH.nil
      rw [if_pos (by rfl)]
      refine wp_bs32 23 26 (.tmp 23) rfl m HM.out (by rfl) Try.underlying23 (by kernel_rfl) ?_
      intro gq94 yq92 egq95 ezq96 bq91 hEq93
      have lgq97 : w.heap.size ≤ gq94 := by rw [egq95]; exact hSq90.2.2.2.size
      have lbq98 : w.heap.size < gq94 := by rw [egq95]; exact hSq90.1.lt
      have lbq99 : w.heap.size + 1 < gq94 := by rw [egq95]; exact hSq90.2.1.lt
      have lbq100 : G < gq94 := by rw [egq95]; exact hSq90.2.2.1.lt
      have hEq101 := hEq82.below bq91 hEq82.lt
      refine hK.out _ _ ⟨hSq90.1.below bq91 hSq90.1.lt, hSq90.2.1.below bq91 hSq90.2.1.lt, hSq90.2.2.1.below bq91 hSq90.2.2.1.lt, hSq90.2.2.2.trans (bq91.mono hSq90.2.2.2.size)⟩ (fun hSq102 => ?_)
      clear hK K hSq90 bq91 egq95 ezq96
      refine wpAnyH_take (i := 6) (v := .agg #[.slice (some ⟨gq94, 0, none⟩) 1 1, .slice (some ⟨gq83, 0, none⟩) 1 1]) rfl (by kernel_rfl) (by kernel_rfl) (by kernel_rfl) (fun _ _ _ h => h) (Or.inl ⟨by rfl, fun x hx => by go_simp⟩) hSq102 ?_
      simp only [Act.put, List.getElem_toArray, List.getElem_cons_zero, List.getElem_cons_succ, List.setIfInBounds_toArray, List.set_cons_zero, List.set_cons_succ]
      refine wpAnyH_ready (rs := [7]) (by kernel_rfl) (by simp) ?_
      refine AllReadyH.cons rfl (fun K hK => ?_) AllReadyH.nil
      go_simp
      go_wp2_with (go_at_call 26; refine (NoteNil_calls _ _ 1 1 (by omega) rfl _).mono ?_; rintro e yq103 ⟨rfl, bq104⟩)
      have hEq105 := hEq101.below bq104 hEq101.lt
      have hEq106 := hEq93.below bq104 hEq93.lt
      refine hK.out _ _ ⟨hSq102.1.below bq104 hSq102.1.lt, hSq102.2.1.below bq104 hSq102.2.1.lt, hSq102.2.2.1.below bq104 hSq102.2.2.1.lt, hSq102.2.2.2.trans (bq104.mono hSq102.2.2.2.size)⟩ (fun hSq107 => ?_)
      clear hK K hSq102 bq104
      refine wpAnyH_done (by kernel_rfl) ?_ _
      have hP2 := hSq107.1
      have hO2 := hSq107.2.1
      have hK2 := hSq107.2.2.1
      have hb2 := hSq107.2.2.2
      clear hSq107
      go_wp2_with (first | ((with_reducible show wpList _ _ _ (⟨some 30, _, _, _, _, _⟩ :: _) _ _); refine wpList_loadBlk rfl 26 (.tmp 8) rfl (w.heap.size + 1) (by rfl) _ _ _ hO2 Try.underlying26 rfl (by rw [bv_size, HO.out]; exact Try.sizeHash) ?_; have ho1 : o.length = 32 := HO.out) | ((with_reducible show wpList _ _ _ (⟨some 32, _, _, _, _, _⟩ :: _) _ _); refine wpList_loadBlk rfl 26 (.tmp 13) rfl G (by rfl) _ _ _ (Blk.alloc hK2 _) Try.underlying26 rfl (by rw [bv_size, HK.out]; exact Try.sizeHash) ?_; have hk1 : k.length = 32 := HK.out))
      refine (NoteNil_calls _ _ 1 1 (by omega) rfl _).mono ?_
      rintro e w5 ⟨rfl, b5⟩
      have hO5 := Blk.below (Blk.alloc (Blk.alloc hO2 _) _) b5 (Blk.lt (Blk.alloc (Blk.alloc hO2 _) _))
      have hK5 := Blk.below (Blk.alloc (Blk.alloc hK2 _) _) b5 (Blk.lt (Blk.alloc (Blk.alloc hK2 _) _))
      have hb5 : Below w.heap.size w w5 := ((hb2.alloc hb2.size _).alloc (by simp; have := hb2.size; omega) _).trans (b5.mono (by simp; have := hb2.size; omega))
      clear b5 ho1 hk1 hP2 hO2 hK2 hb2
      go_wp2_with fail
      refine wp_region_held_drew (S := fun x => Blk x (w.heap.size + 1) (o.map bv).toArray 26 ∧ Blk x (G) (k.map bv).toArray 26 ∧ Below w.heap.size w x) (by kernel_rfl) ⟨hO5.drew, hK5.drew, below_drewN hb5 1⟩ (fun hSq108 => ?_)
      refine wpAnyH_take (i := 0) (v := .slice (some ⟨w.heap.size + 1, 0, none⟩) 32 32) rfl (by kernel_rfl) (by kernel_rfl) (by kernel_rfl) (fun _ _ _ h => h) (Or.inl ⟨by rfl, fun x hx => by go_simp⟩) hSq108 ?_
      simp only [Act.put, List.getElem_toArray, List.getElem_cons_zero, List.getElem_cons_succ, List.setIfInBounds_toArray, List.set_cons_zero, List.set_cons_succ]
      refine wpAnyH_take (i := 1) (v := .string (str o)) rfl (by kernel_rfl) (by kernel_rfl) (by kernel_rfl) (fun _ _ _ h => h) (Or.inl ⟨by rfl, fun x hx => by have hcv := conv_blk HO.out hx.1; go_simp⟩) hSq108 ?_
      simp only [Act.put, List.getElem_toArray, List.getElem_cons_zero, List.getElem_cons_succ, List.setIfInBounds_toArray, List.set_cons_zero, List.set_cons_succ]
      refine wpAnyH_take (i := 2) (v := .pointer none) rfl (by kernel_rfl) (by kernel_rfl) (by kernel_rfl) (fun _ _ _ h => h) (Or.inl ⟨by rfl, fun x hx => by go_simp⟩) hSq108 ?_
      simp only [Act.put, List.getElem_toArray, List.getElem_cons_zero, List.getElem_cons_succ, List.setIfInBounds_toArray, List.set_cons_zero, List.set_cons_succ]
      refine wpAnyH_take (i := 3) rfl (by kernel_rfl) (by kernel_rfl) (by kernel_rfl) (fun _ _ _ h => h) (yieldsIf_load_mid (by rfl) 26 (.tmp 13) rfl (G) 0 (by rfl) (k.map bv) _ (fun x hx => blk_range hx.2.1) Try.underlying26 rfl (by rw [List.length_map, HK.out]; exact Try.sizeHash)) hSq108 ?_
      simp only [Act.put, List.getElem_toArray, List.getElem_cons_zero, List.getElem_cons_succ, List.setIfInBounds_toArray, List.set_cons_zero, List.set_cons_succ]
      refine wpAnyH_take (i := 4) (v := .string (str about)) rfl (by kernel_rfl) (by kernel_rfl) (by kernel_rfl) (fun _ _ _ h => h) (Or.inl ⟨by rfl, fun x hx => by go_simp⟩) hSq108 ?_
      simp only [Act.put, List.getElem_toArray, List.getElem_cons_zero, List.getElem_cons_succ, List.setIfInBounds_toArray, List.set_cons_zero, List.set_cons_succ]
      refine wpAnyH_take (i := 5) (v := .string (str s)) rfl (by kernel_rfl) (by kernel_rfl) (by kernel_rfl) (fun _ _ _ h => h) (Or.inl ⟨by rfl, fun x hx => by go_simp⟩) hSq108 ?_
      simp only [Act.put, List.getElem_toArray, List.getElem_cons_zero, List.getElem_cons_succ, List.setIfInBounds_toArray, List.set_cons_zero, List.set_cons_succ]
      refine wpAnyH_take (i := 6) (v := .slice none 0 0) rfl (by kernel_rfl) (by kernel_rfl) (by kernel_rfl) (fun _ _ _ h => h) (Or.inl ⟨by rfl, fun x hx => by go_simp⟩) hSq108 ?_
      simp only [Act.put, List.getElem_toArray, List.getElem_cons_zero, List.getElem_cons_succ, List.setIfInBounds_toArray, List.set_cons_zero, List.set_cons_succ]
      refine wpAnyH_ready (rs := [7]) (by kernel_rfl) (by simp) ?_
      refine AllReadyH.cons rfl (fun K hK => ?_) AllReadyH.nil
      go_simp
      go_wp2_with (go_at_call 11; refine (c3 _).mono ?_; rintro e yq109 ⟨rfl, bq110⟩)
      refine hK.out _ _ ⟨hSq108.1.below bq110 hSq108.1.lt, hSq108.2.1.below bq110 hSq108.2.1.lt, hSq108.2.2.trans (bq110.mono hSq108.2.2.size)⟩ (fun hSq111 => ?_)
      clear hK K hSq108 bq110
      refine wpAnyH_take (i := 8) (v := .string (str (o ++ q))) rfl (by kernel_rfl) (by kernel_rfl) (by kernel_rfl) (fun _ _ _ h => h) (Or.inl ⟨by rfl, fun x hx => by have ho1 : o.length = 32 := HO.out; go_simp; try omega⟩) hSq111 ?_
      simp only [Act.put, List.getElem_toArray, List.getElem_cons_zero, List.getElem_cons_succ, List.setIfInBounds_toArray, List.set_cons_zero, List.set_cons_succ]
      refine wpAnyH_ready (rs := [9]) (by kernel_rfl) (by simp) ?_
      refine AllReadyH.cons rfl (fun K hK => ?_) AllReadyH.nil
      go_simp
      refine hK.out _ _ hSq111 (fun hSq112 => ?_)
      clear hK K hSq111
      refine wpAnyH_done (by kernel_rfl) ?_ _
      go_wp2_with fail
      go_returns
      rw [hfin.out]
      exact ⟨rfl, hSq112.2.2⟩
    refine AllReadyH.cons rfl (fun K hK => ?_) AllReadyH.nil
    rw [if_pos (by rfl)]
    refine wp_bs32 23 26 (.tmp 25) rfl k HK.out (by rfl) Try.underlying23 (by kernel_rfl) ?_
    intro gq116 yq114 egq117 ezq118 bq113 hEq115
    have lgq119 : w.heap.size ≤ gq116 := by rw [egq117]; exact hSq43.2.2.2.size
    have lbq120 : w.heap.size < gq116 := by rw [egq117]; exact hSq43.1.lt
    have lbq121 : w.heap.size + 1 < gq116 := by rw [egq117]; exact hSq43.2.1.lt
    have lbq122 : G < gq116 := by rw [egq117]; exact hSq43.2.2.1.lt
    refine hK.out _ _ ⟨hSq43.1.below bq113 hSq43.1.lt, hSq43.2.1.below bq113 hSq43.2.1.lt, hSq43.2.2.1.below bq113 hSq43.2.2.1.lt, hSq43.2.2.2.trans (bq113.mono hSq43.2.2.2.size)⟩ (fun hSq123 => ?_)
    clear hK K hSq43 bq113 egq117 ezq118
    refine wpAnyH_ready (rs := [2]) (by kernel_rfl) (by simp) ?_
    refine AllReadyH.cons rfl (fun K hK => ?_) AllReadyH.nil
    go_simp
    go_wp2_with (go_at_call 31; refine (c2 _).mono ?_; rintro e yq124 ⟨rfl, bq125⟩)
    have hEq126 := hEq115.below bq125 hEq115.lt
    refine hK.out _ _ ⟨hSq123.1.below bq125 hSq123.1.lt, hSq123.2.1.below bq125 hSq123.2.1.lt, hSq123.2.2.1.below bq125 hSq123.2.2.1.lt, hSq123.2.2.2.trans (bq125.mono hSq123.2.2.2.size)⟩ (fun hSq127 => ?_)
    clear hK K hSq123 bq125
    refine wpAnyH_ready (rs := [3]) (by kernel_rfl) (by simp) ?_
    refine AllReadyH.cons rfl (fun K hK => ?_) AllReadyH.nil
    rw [if_pos (by rfl)]
    refine wp_bs32 23 26 (.tmp 23) rfl m HM.out (by rfl) Try.underlying23 (by kernel_rfl) ?_
    intro gq131 yq129 egq132 ezq133 bq128 hEq130
    have lgq134 : w.heap.size ≤ gq131 := by rw [egq132]; exact hSq127.2.2.2.size
    have lbq135 : w.heap.size < gq131 := by rw [egq132]; exact hSq127.1.lt
    have lbq136 : w.heap.size + 1 < gq131 := by rw [egq132]; exact hSq127.2.1.lt
    have lbq137 : G < gq131 := by rw [egq132]; exact hSq127.2.2.1.lt
    have hEq138 := hEq126.below bq128 hEq126.lt
    refine hK.out _ _ ⟨hSq127.1.below bq128 hSq127.1.lt, hSq127.2.1.below bq128 hSq127.2.1.lt, hSq127.2.2.1.below bq128 hSq127.2.2.1.lt, hSq127.2.2.2.trans (bq128.mono hSq127.2.2.2.size)⟩ (fun hSq139 => ?_)
    clear hK K hSq127 bq128 egq132 ezq133
    refine wpAnyH_take (i := 6) (v := .agg #[.slice (some ⟨gq131, 0, none⟩) 1 1, .slice (some ⟨gq116, 0, none⟩) 1 1]) rfl (by kernel_rfl) (by kernel_rfl) (by kernel_rfl) (fun _ _ _ h => h) (Or.inl ⟨by rfl, fun x hx => by go_simp⟩) hSq139 ?_
    simp only [Act.put, List.getElem_toArray, List.getElem_cons_zero, List.getElem_cons_succ, List.setIfInBounds_toArray, List.set_cons_zero, List.set_cons_succ]
    refine wpAnyH_ready (rs := [7]) (by kernel_rfl) (by simp) ?_
    refine AllReadyH.cons rfl (fun K hK => ?_) AllReadyH.nil
    go_simp
    go_wp2_with (go_at_call 26; refine (NoteNil_calls _ _ 1 1 (by omega) rfl _).mono ?_; rintro e yq140 ⟨rfl, bq141⟩)
    have hEq142 := hEq138.below bq141 hEq138.lt
    have hEq143 := hEq130.below bq141 hEq130.lt
    refine hK.out _ _ ⟨hSq139.1.below bq141 hSq139.1.lt, hSq139.2.1.below bq141 hSq139.2.1.lt, hSq139.2.2.1.below bq141 hSq139.2.2.1.lt, hSq139.2.2.2.trans (bq141.mono hSq139.2.2.2.size)⟩ (fun hSq144 => ?_)
    clear hK K hSq139 bq141
    refine wpAnyH_done (by kernel_rfl) ?_ _
    have hP2 := hSq144.1
    have hO2 := hSq144.2.1
    have hK2 := hSq144.2.2.1
    have hb2 := hSq144.2.2.2
    clear hSq144
    go_wp2_with (first | ((with_reducible show wpList _ _ _ (⟨some 30, _, _, _, _, _⟩ :: _) _ _); refine wpList_loadBlk rfl 26 (.tmp 8) rfl (w.heap.size + 1) (by rfl) _ _ _ hO2 Try.underlying26 rfl (by rw [bv_size, HO.out]; exact Try.sizeHash) ?_; have ho1 : o.length = 32 := HO.out) | ((with_reducible show wpList _ _ _ (⟨some 32, _, _, _, _, _⟩ :: _) _ _); refine wpList_loadBlk rfl 26 (.tmp 13) rfl G (by rfl) _ _ _ (Blk.alloc hK2 _) Try.underlying26 rfl (by rw [bv_size, HK.out]; exact Try.sizeHash) ?_; have hk1 : k.length = 32 := HK.out))
    refine (NoteNil_calls _ _ 1 1 (by omega) rfl _).mono ?_
    rintro e w5 ⟨rfl, b5⟩
    have hO5 := Blk.below (Blk.alloc (Blk.alloc hO2 _) _) b5 (Blk.lt (Blk.alloc (Blk.alloc hO2 _) _))
    have hK5 := Blk.below (Blk.alloc (Blk.alloc hK2 _) _) b5 (Blk.lt (Blk.alloc (Blk.alloc hK2 _) _))
    have hb5 : Below w.heap.size w w5 := ((hb2.alloc hb2.size _).alloc (by simp; have := hb2.size; omega) _).trans (b5.mono (by simp; have := hb2.size; omega))
    clear b5 ho1 hk1 hP2 hO2 hK2 hb2
    go_wp2_with fail
    refine wp_region_held_drew (S := fun x => Blk x (w.heap.size + 1) (o.map bv).toArray 26 ∧ Blk x (G) (k.map bv).toArray 26 ∧ Below w.heap.size w x) (by kernel_rfl) ⟨hO5.drew, hK5.drew, below_drewN hb5 1⟩ (fun hSq145 => ?_)
    refine wpAnyH_take (i := 0) (v := .slice (some ⟨w.heap.size + 1, 0, none⟩) 32 32) rfl (by kernel_rfl) (by kernel_rfl) (by kernel_rfl) (fun _ _ _ h => h) (Or.inl ⟨by rfl, fun x hx => by go_simp⟩) hSq145 ?_
    simp only [Act.put, List.getElem_toArray, List.getElem_cons_zero, List.getElem_cons_succ, List.setIfInBounds_toArray, List.set_cons_zero, List.set_cons_succ]
    refine wpAnyH_take (i := 1) (v := .string (str o)) rfl (by kernel_rfl) (by kernel_rfl) (by kernel_rfl) (fun _ _ _ h => h) (Or.inl ⟨by rfl, fun x hx => by have hcv := conv_blk HO.out hx.1; go_simp⟩) hSq145 ?_
    simp only [Act.put, List.getElem_toArray, List.getElem_cons_zero, List.getElem_cons_succ, List.setIfInBounds_toArray, List.set_cons_zero, List.set_cons_succ]
    refine wpAnyH_take (i := 2) (v := .pointer none) rfl (by kernel_rfl) (by kernel_rfl) (by kernel_rfl) (fun _ _ _ h => h) (Or.inl ⟨by rfl, fun x hx => by go_simp⟩) hSq145 ?_
    simp only [Act.put, List.getElem_toArray, List.getElem_cons_zero, List.getElem_cons_succ, List.setIfInBounds_toArray, List.set_cons_zero, List.set_cons_succ]
    refine wpAnyH_take (i := 3) rfl (by kernel_rfl) (by kernel_rfl) (by kernel_rfl) (fun _ _ _ h => h) (yieldsIf_load_mid (by rfl) 26 (.tmp 13) rfl (G) 0 (by rfl) (k.map bv) _ (fun x hx => blk_range hx.2.1) Try.underlying26 rfl (by rw [List.length_map, HK.out]; exact Try.sizeHash)) hSq145 ?_
    simp only [Act.put, List.getElem_toArray, List.getElem_cons_zero, List.getElem_cons_succ, List.setIfInBounds_toArray, List.set_cons_zero, List.set_cons_succ]
    refine wpAnyH_take (i := 4) (v := .string (str about)) rfl (by kernel_rfl) (by kernel_rfl) (by kernel_rfl) (fun _ _ _ h => h) (Or.inl ⟨by rfl, fun x hx => by go_simp⟩) hSq145 ?_
    simp only [Act.put, List.getElem_toArray, List.getElem_cons_zero, List.getElem_cons_succ, List.setIfInBounds_toArray, List.set_cons_zero, List.set_cons_succ]
    refine wpAnyH_take (i := 5) (v := .string (str s)) rfl (by kernel_rfl) (by kernel_rfl) (by kernel_rfl) (fun _ _ _ h => h) (Or.inl ⟨by rfl, fun x hx => by go_simp⟩) hSq145 ?_
    simp only [Act.put, List.getElem_toArray, List.getElem_cons_zero, List.getElem_cons_succ, List.setIfInBounds_toArray, List.set_cons_zero, List.set_cons_succ]
    refine wpAnyH_take (i := 6) (v := .slice none 0 0) rfl (by kernel_rfl) (by kernel_rfl) (by kernel_rfl) (fun _ _ _ h => h) (Or.inl ⟨by rfl, fun x hx => by go_simp⟩) hSq145 ?_
    simp only [Act.put, List.getElem_toArray, List.getElem_cons_zero, List.getElem_cons_succ, List.setIfInBounds_toArray, List.set_cons_zero, List.set_cons_succ]
    refine wpAnyH_ready (rs := [7]) (by kernel_rfl) (by simp) ?_
    refine AllReadyH.cons rfl (fun K hK => ?_) AllReadyH.nil
    go_simp
    go_wp2_with (go_at_call 11; refine (c3 _).mono ?_; rintro e yq146 ⟨rfl, bq147⟩)
    refine hK.out _ _ ⟨hSq145.1.below bq147 hSq145.1.lt, hSq145.2.1.below bq147 hSq145.2.1.lt, hSq145.2.2.trans (bq147.mono hSq145.2.2.size)⟩ (fun hSq148 => ?_)
    clear hK K hSq145 bq147
    refine wpAnyH_take (i := 8) (v := .string (str (o ++ q))) rfl (by kernel_rfl) (by kernel_rfl) (by kernel_rfl) (fun _ _ _ h => h) (Or.inl ⟨by rfl, fun x hx => by have ho1 : o.length = 32 := HO.out; go_simp; try omega⟩) hSq148 ?_
    simp only [Act.put, List.getElem_toArray, List.getElem_cons_zero, List.getElem_cons_succ, List.setIfInBounds_toArray, List.set_cons_zero, List.set_cons_succ]
    refine wpAnyH_ready (rs := [9]) (by kernel_rfl) (by simp) ?_
    refine AllReadyH.cons rfl (fun K hK => ?_) AllReadyH.nil
    go_simp
    refine hK.out _ _ hSq148 (fun hSq149 => ?_)
    clear hK K hSq148
    refine wpAnyH_done (by kernel_rfl) ?_ _
    go_wp2_with fail
    go_returns
    rw [hfin.out]
    exact ⟨rfl, hSq149.2.2⟩
  refine AllReadyH.cons rfl (fun K hK => ?_) AllReadyH.nil
  rw [if_pos (by rfl)]
  refine wp_allocZ 26 rfl Z32 (by kernel_rfl) ?_
  intro gq153 yq151 egq154 ezq155 bq150 hEq152
  have lgq156 : w.heap.size ≤ gq153 := by rw [egq154]; exact hSq25.2.2.size
  have lbq157 : w.heap.size < gq153 := by rw [egq154]; exact hSq25.1.lt
  have lbq158 : w.heap.size + 1 < gq153 := by rw [egq154]; exact hSq25.2.1.lt
  refine hK.out _ _ ⟨hSq25.1.below bq150 hSq25.1.lt, hSq25.2.1.below bq150 hSq25.2.1.lt, hSq25.2.2.trans (bq150.mono hSq25.2.2.size)⟩ (fun hSq159 => ?_)
  clear hK K hSq25 bq150 egq154 ezq155
  refine wpAnyH_ready (rs := [3]) (by kernel_rfl) (by simp) ?_
  refine AllReadyH.cons rfl (fun K hK => ?_) AllReadyH.nil
  go_simp
  go_wp2_with (go_at_call 35; refine (c1 _).mono ?_; rintro e yq160 ⟨rfl, bq161⟩)
  have hEq162 := hEq152.below bq161 hEq152.lt
  refine hK.out _ _ ⟨hSq159.1.below bq161 hSq159.1.lt, hSq159.2.1.below bq161 hSq159.2.1.lt, hSq159.2.2.trans (bq161.mono hSq159.2.2.size)⟩ (fun hSq163 => ?_)
  clear hK K hSq159 bq161
  refine wpAnyH_ready (rs := [5]) (by kernel_rfl) (by simp) ?_
  refine AllReadyH.cons rfl (fun K hK => ?_) AllReadyH.nil
  rw [if_pos (by rfl)]
  refine wp_storeBlk 26 (.tmp 13) (.tmp 20) rfl gq153 (k.map bv).toArray (by rfl) (by rfl) _ _ hEq162 (by rw [bv_size, HK.out]; exact Try.sizeHash) (by rw [bv_size, HK.out, Z32_size]) (bv_all _) ?_
  intro yq164 hEq165 grq166
  refine hK.out _ _ ⟨hSq163.1.grown grq166 (by first | (simp; done) | (simp; omega)), hSq163.2.1.grown grq166 (by first | (simp; done) | (simp; omega)), below_new hSq163.2.2 grq166 lgq156 hSq163.2.2.size⟩ (fun hSq167 => ?_)
  clear hK K hSq163
  refine wpAnyH_done (by kernel_rfl) ?_ _
  have hP1 := hSq167.1
  have hO1 := hSq167.2.1
  have hb1 := hSq167.2.2
  have hk1 := hEq165
  clear hSq167
  generalize gq153 = G at *
  go_wp2_with fail
  refine wp_region_held_drew (S := fun x => Blk x (w.heap.size) (p.map bv).toArray 26 ∧ Blk x (w.heap.size + 1) (o.map bv).toArray 26 ∧ Blk x (G) (k.map bv).toArray 26 ∧ Below w.heap.size w x) (by kernel_rfl) ⟨hP1.drew, hO1.drew, hk1.drew, below_drewN hb1 1⟩ (fun hSq168 => ?_)
  refine wpAnyH_take (i := 0) (v := .pointer none) rfl (by kernel_rfl) (by kernel_rfl) (by kernel_rfl) (fun _ _ _ h => h) (Or.inl ⟨by rfl, fun x hx => by go_simp⟩) hSq168 ?_
  simp only [Act.put, List.getElem_toArray, List.getElem_cons_zero, List.getElem_cons_succ, List.setIfInBounds_toArray, List.set_cons_zero, List.set_cons_succ]
  refine wpAnyH_take (i := 1) rfl (by kernel_rfl) (by kernel_rfl) (by kernel_rfl) (fun _ _ _ h => h) (yieldsIf_load_mid (by rfl) 26 (.tmp 7) rfl (w.heap.size) 0 (by rfl) (p.map bv) _ (fun x hx => blk_range hx.1) Try.underlying26 rfl (by rw [List.length_map, HP.out]; exact Try.sizeHash)) hSq168 ?_
  simp only [Act.put, List.getElem_toArray, List.getElem_cons_zero, List.getElem_cons_succ, List.setIfInBounds_toArray, List.set_cons_zero, List.set_cons_succ]
  refine wpAnyH_take (i := 4) rfl (by kernel_rfl) (by kernel_rfl) (by kernel_rfl) (fun _ _ _ h => h) (yieldsIf_load_mid (by rfl) 26 (.tmp 13) rfl (G) 0 (by rfl) (k.map bv) _ (fun x hx => blk_range hx.2.2.1) Try.underlying26 rfl (by rw [List.length_map, HK.out]; exact Try.sizeHash)) hSq168 ?_
  simp only [Act.put, List.getElem_toArray, List.getElem_cons_zero, List.getElem_cons_succ, List.setIfInBounds_toArray, List.set_cons_zero, List.set_cons_succ]
  refine wpAnyH_ready (rs := [2, 5]) (by kernel_rfl) (by simp) ?_
  refine AllReadyH.cons rfl (fun K hK => ?_) ?_
  · go_simp
    go_wp2_with (go_at_call 31; refine (c2 _).mono ?_; rintro e yq169 ⟨rfl, bq170⟩)
    refine hK.out _ _ ⟨hSq168.1.below bq170 hSq168.1.lt, hSq168.2.1.below bq170 hSq168.2.1.lt, hSq168.2.2.1.below bq170 hSq168.2.2.1.lt, hSq168.2.2.2.trans (bq170.mono hSq168.2.2.2.size)⟩ (fun hSq171 => ?_)
    clear hK K hSq168 bq170
    refine wpAnyH_ready (rs := [3, 5]) (by kernel_rfl) (by simp) ?_
    refine AllReadyH.cons rfl (fun K hK => ?_) ?_
    · rw [if_pos (by rfl)]
      refine wp_bs32 23 26 (.tmp 23) rfl m HM.out (by rfl) Try.underlying23 (by kernel_rfl) ?_
      intro gq175 yq173 egq176 ezq177 bq172 hEq174
      have lgq178 : w.heap.size ≤ gq175 := by rw [egq176]; exact hSq171.2.2.2.size
      have lbq179 : w.heap.size < gq175 := by rw [egq176]; exact hSq171.1.lt
      have lbq180 : w.heap.size + 1 < gq175 := by rw [egq176]; exact hSq171.2.1.lt
      have lbq181 : G < gq175 := by rw [egq176]; exact hSq171.2.2.1.lt
      refine hK.out _ _ ⟨hSq171.1.below bq172 hSq171.1.lt, hSq171.2.1.below bq172 hSq171.2.1.lt, hSq171.2.2.1.below bq172 hSq171.2.2.1.lt, hSq171.2.2.2.trans (bq172.mono hSq171.2.2.2.size)⟩ (fun hSq182 => ?_)
      clear hK K hSq171 bq172 egq176 ezq177
      refine wpAnyH_ready (rs := [5]) (by kernel_rfl) (by simp) ?_
      refine AllReadyH.cons rfl (fun K hK => ?_) AllReadyH.nil
      rw [if_pos (by rfl)]
      refine wp_bs32 23 26 (.tmp 25) rfl k HK.out (by rfl) Try.underlying23 (by kernel_rfl) ?_
      intro gq186 yq184 egq187 ezq188 bq183 hEq185
      have lgq189 : w.heap.size ≤ gq186 := by rw [egq187]; exact hSq182.2.2.2.size
      have lbq190 : w.heap.size < gq186 := by rw [egq187]; exact hSq182.1.lt
      have lbq191 : w.heap.size + 1 < gq186 := by rw [egq187]; exact hSq182.2.1.lt
      have lbq192 : G < gq186 := by rw [egq187]; exact hSq182.2.2.1.lt
      have hEq193 := hEq174.below bq183 hEq174.lt
      refine hK.out _ _ ⟨hSq182.1.below bq183 hSq182.1.lt, hSq182.2.1.below bq183 hSq182.2.1.lt, hSq182.2.2.1.below bq183 hSq182.2.2.1.lt, hSq182.2.2.2.trans (bq183.mono hSq182.2.2.2.size)⟩ (fun hSq194 => ?_)
      clear hK K hSq182 bq183 egq187 ezq188
      refine wpAnyH_take (i := 6) (v := .agg #[.slice (some ⟨gq175, 0, none⟩) 1 1, .slice (some ⟨gq186, 0, none⟩) 1 1]) rfl (by kernel_rfl) (by kernel_rfl) (by kernel_rfl) (fun _ _ _ h => h) (Or.inl ⟨by rfl, fun x hx => by go_simp⟩) hSq194 ?_
      simp only [Act.put, List.getElem_toArray, List.getElem_cons_zero, List.getElem_cons_succ, List.setIfInBounds_toArray, List.set_cons_zero, List.set_cons_succ]
      refine wpAnyH_ready (rs := [7]) (by kernel_rfl) (by simp) ?_
      refine AllReadyH.cons rfl (fun K hK => ?_) AllReadyH.nil
      go_simp
      go_wp2_with (go_at_call 26; refine (NoteNil_calls _ _ 1 1 (by omega) rfl _).mono ?_; rintro e yq195 ⟨rfl, bq196⟩)
      have hEq197 := hEq193.below bq196 hEq193.lt
      have hEq198 := hEq185.below bq196 hEq185.lt
      refine hK.out _ _ ⟨hSq194.1.below bq196 hSq194.1.lt, hSq194.2.1.below bq196 hSq194.2.1.lt, hSq194.2.2.1.below bq196 hSq194.2.2.1.lt, hSq194.2.2.2.trans (bq196.mono hSq194.2.2.2.size)⟩ (fun hSq199 => ?_)
      clear hK K hSq194 bq196
      refine wpAnyH_done (by kernel_rfl) ?_ _
      have hP2 := hSq199.1
      have hO2 := hSq199.2.1
      have hK2 := hSq199.2.2.1
      have hb2 := hSq199.2.2.2
      clear hSq199
      go_wp2_with (first | ((with_reducible show wpList _ _ _ (⟨some 30, _, _, _, _, _⟩ :: _) _ _); refine wpList_loadBlk rfl 26 (.tmp 8) rfl (w.heap.size + 1) (by rfl) _ _ _ hO2 Try.underlying26 rfl (by rw [bv_size, HO.out]; exact Try.sizeHash) ?_; have ho1 : o.length = 32 := HO.out) | ((with_reducible show wpList _ _ _ (⟨some 32, _, _, _, _, _⟩ :: _) _ _); refine wpList_loadBlk rfl 26 (.tmp 13) rfl G (by rfl) _ _ _ (Blk.alloc hK2 _) Try.underlying26 rfl (by rw [bv_size, HK.out]; exact Try.sizeHash) ?_; have hk1 : k.length = 32 := HK.out))
      refine (NoteNil_calls _ _ 1 1 (by omega) rfl _).mono ?_
      rintro e w5 ⟨rfl, b5⟩
      have hO5 := Blk.below (Blk.alloc (Blk.alloc hO2 _) _) b5 (Blk.lt (Blk.alloc (Blk.alloc hO2 _) _))
      have hK5 := Blk.below (Blk.alloc (Blk.alloc hK2 _) _) b5 (Blk.lt (Blk.alloc (Blk.alloc hK2 _) _))
      have hb5 : Below w.heap.size w w5 := ((hb2.alloc hb2.size _).alloc (by simp; have := hb2.size; omega) _).trans (b5.mono (by simp; have := hb2.size; omega))
      clear b5 ho1 hk1 hP2 hO2 hK2 hb2
      go_wp2_with fail
      refine wp_region_held_drew (S := fun x => Blk x (w.heap.size + 1) (o.map bv).toArray 26 ∧ Blk x (G) (k.map bv).toArray 26 ∧ Below w.heap.size w x) (by kernel_rfl) ⟨hO5.drew, hK5.drew, below_drewN hb5 1⟩ (fun hSq200 => ?_)
      refine wpAnyH_take (i := 0) (v := .slice (some ⟨w.heap.size + 1, 0, none⟩) 32 32) rfl (by kernel_rfl) (by kernel_rfl) (by kernel_rfl) (fun _ _ _ h => h) (Or.inl ⟨by rfl, fun x hx => by go_simp⟩) hSq200 ?_
      simp only [Act.put, List.getElem_toArray, List.getElem_cons_zero, List.getElem_cons_succ, List.setIfInBounds_toArray, List.set_cons_zero, List.set_cons_succ]
      refine wpAnyH_take (i := 1) (v := .string (str o)) rfl (by kernel_rfl) (by kernel_rfl) (by kernel_rfl) (fun _ _ _ h => h) (Or.inl ⟨by rfl, fun x hx => by have hcv := conv_blk HO.out hx.1; go_simp⟩) hSq200 ?_
      simp only [Act.put, List.getElem_toArray, List.getElem_cons_zero, List.getElem_cons_succ, List.setIfInBounds_toArray, List.set_cons_zero, List.set_cons_succ]
      refine wpAnyH_take (i := 2) (v := .pointer none) rfl (by kernel_rfl) (by kernel_rfl) (by kernel_rfl) (fun _ _ _ h => h) (Or.inl ⟨by rfl, fun x hx => by go_simp⟩) hSq200 ?_
      simp only [Act.put, List.getElem_toArray, List.getElem_cons_zero, List.getElem_cons_succ, List.setIfInBounds_toArray, List.set_cons_zero, List.set_cons_succ]
      refine wpAnyH_take (i := 3) rfl (by kernel_rfl) (by kernel_rfl) (by kernel_rfl) (fun _ _ _ h => h) (yieldsIf_load_mid (by rfl) 26 (.tmp 13) rfl (G) 0 (by rfl) (k.map bv) _ (fun x hx => blk_range hx.2.1) Try.underlying26 rfl (by rw [List.length_map, HK.out]; exact Try.sizeHash)) hSq200 ?_
      simp only [Act.put, List.getElem_toArray, List.getElem_cons_zero, List.getElem_cons_succ, List.setIfInBounds_toArray, List.set_cons_zero, List.set_cons_succ]
      refine wpAnyH_take (i := 4) (v := .string (str about)) rfl (by kernel_rfl) (by kernel_rfl) (by kernel_rfl) (fun _ _ _ h => h) (Or.inl ⟨by rfl, fun x hx => by go_simp⟩) hSq200 ?_
      simp only [Act.put, List.getElem_toArray, List.getElem_cons_zero, List.getElem_cons_succ, List.setIfInBounds_toArray, List.set_cons_zero, List.set_cons_succ]
      refine wpAnyH_take (i := 5) (v := .string (str s)) rfl (by kernel_rfl) (by kernel_rfl) (by kernel_rfl) (fun _ _ _ h => h) (Or.inl ⟨by rfl, fun x hx => by go_simp⟩) hSq200 ?_
      simp only [Act.put, List.getElem_toArray, List.getElem_cons_zero, List.getElem_cons_succ, List.setIfInBounds_toArray, List.set_cons_zero, List.set_cons_succ]
      refine wpAnyH_take (i := 6) (v := .slice none 0 0) rfl (by kernel_rfl) (by kernel_rfl) (by kernel_rfl) (fun _ _ _ h => h) (Or.inl ⟨by rfl, fun x hx => by go_simp⟩) hSq200 ?_
      simp only [Act.put, List.getElem_toArray, List.getElem_cons_zero, List.getElem_cons_succ, List.setIfInBounds_toArray, List.set_cons_zero, List.set_cons_succ]
      refine wpAnyH_ready (rs := [7]) (by kernel_rfl) (by simp) ?_
      refine AllReadyH.cons rfl (fun K hK => ?_) AllReadyH.nil
      go_simp
      go_wp2_with (go_at_call 11; refine (c3 _).mono ?_; rintro e yq201 ⟨rfl, bq202⟩)
      refine hK.out _ _ ⟨hSq200.1.below bq202 hSq200.1.lt, hSq200.2.1.below bq202 hSq200.2.1.lt, hSq200.2.2.trans (bq202.mono hSq200.2.2.size)⟩ (fun hSq203 => ?_)
      clear hK K hSq200 bq202
      refine wpAnyH_take (i := 8) (v := .string (str (o ++ q))) rfl (by kernel_rfl) (by kernel_rfl) (by kernel_rfl) (fun _ _ _ h => h) (Or.inl ⟨by rfl, fun x hx => by have ho1 : o.length = 32 := HO.out; go_simp; try omega⟩) hSq203 ?_
      simp only [Act.put, List.getElem_toArray, List.getElem_cons_zero, List.getElem_cons_succ, List.setIfInBounds_toArray, List.set_cons_zero, List.set_cons_succ]
      refine wpAnyH_ready (rs := [9]) (by kernel_rfl) (by simp) ?_
      refine AllReadyH.cons rfl (fun K hK => ?_) AllReadyH.nil
      go_simp
      refine hK.out _ _ hSq203 (fun hSq204 => ?_)
      clear hK K hSq203
      refine wpAnyH_done (by kernel_rfl) ?_ _
      go_wp2_with fail
      go_returns
      rw [hfin.out]
      exact ⟨rfl, hSq204.2.2⟩
    refine AllReadyH.cons rfl (fun K hK => ?_) AllReadyH.nil
    rw [if_pos (by rfl)]
    refine wp_bs32 23 26 (.tmp 25) rfl k HK.out (by rfl) Try.underlying23 (by kernel_rfl) ?_
    intro gq208 yq206 egq209 ezq210 bq205 hEq207
    have lgq211 : w.heap.size ≤ gq208 := by rw [egq209]; exact hSq171.2.2.2.size
    have lbq212 : w.heap.size < gq208 := by rw [egq209]; exact hSq171.1.lt
    have lbq213 : w.heap.size + 1 < gq208 := by rw [egq209]; exact hSq171.2.1.lt
    have lbq214 : G < gq208 := by rw [egq209]; exact hSq171.2.2.1.lt
    refine hK.out _ _ ⟨hSq171.1.below bq205 hSq171.1.lt, hSq171.2.1.below bq205 hSq171.2.1.lt, hSq171.2.2.1.below bq205 hSq171.2.2.1.lt, hSq171.2.2.2.trans (bq205.mono hSq171.2.2.2.size)⟩ (fun hSq215 => ?_)
    clear hK K hSq171 bq205 egq209 ezq210
    refine wpAnyH_ready (rs := [3]) (by kernel_rfl) (by simp) ?_
    refine AllReadyH.cons rfl (fun K hK => ?_) AllReadyH.nil
    rw [if_pos (by rfl)]
    refine wp_bs32 23 26 (.tmp 23) rfl m HM.out (by rfl) Try.underlying23 (by kernel_rfl) ?_
    intro gq219 yq217 egq220 ezq221 bq216 hEq218
    have lgq222 : w.heap.size ≤ gq219 := by rw [egq220]; exact hSq215.2.2.2.size
    have lbq223 : w.heap.size < gq219 := by rw [egq220]; exact hSq215.1.lt
    have lbq224 : w.heap.size + 1 < gq219 := by rw [egq220]; exact hSq215.2.1.lt
    have lbq225 : G < gq219 := by rw [egq220]; exact hSq215.2.2.1.lt
    have hEq226 := hEq207.below bq216 hEq207.lt
    refine hK.out _ _ ⟨hSq215.1.below bq216 hSq215.1.lt, hSq215.2.1.below bq216 hSq215.2.1.lt, hSq215.2.2.1.below bq216 hSq215.2.2.1.lt, hSq215.2.2.2.trans (bq216.mono hSq215.2.2.2.size)⟩ (fun hSq227 => ?_)
    clear hK K hSq215 bq216 egq220 ezq221
    refine wpAnyH_take (i := 6) (v := .agg #[.slice (some ⟨gq219, 0, none⟩) 1 1, .slice (some ⟨gq208, 0, none⟩) 1 1]) rfl (by kernel_rfl) (by kernel_rfl) (by kernel_rfl) (fun _ _ _ h => h) (Or.inl ⟨by rfl, fun x hx => by go_simp⟩) hSq227 ?_
    simp only [Act.put, List.getElem_toArray, List.getElem_cons_zero, List.getElem_cons_succ, List.setIfInBounds_toArray, List.set_cons_zero, List.set_cons_succ]
    refine wpAnyH_ready (rs := [7]) (by kernel_rfl) (by simp) ?_
    refine AllReadyH.cons rfl (fun K hK => ?_) AllReadyH.nil
    go_simp
    go_wp2_with (go_at_call 26; refine (NoteNil_calls _ _ 1 1 (by omega) rfl _).mono ?_; rintro e yq228 ⟨rfl, bq229⟩)
    have hEq230 := hEq226.below bq229 hEq226.lt
    have hEq231 := hEq218.below bq229 hEq218.lt
    refine hK.out _ _ ⟨hSq227.1.below bq229 hSq227.1.lt, hSq227.2.1.below bq229 hSq227.2.1.lt, hSq227.2.2.1.below bq229 hSq227.2.2.1.lt, hSq227.2.2.2.trans (bq229.mono hSq227.2.2.2.size)⟩ (fun hSq232 => ?_)
    clear hK K hSq227 bq229
    refine wpAnyH_done (by kernel_rfl) ?_ _
    have hP2 := hSq232.1
    have hO2 := hSq232.2.1
    have hK2 := hSq232.2.2.1
    have hb2 := hSq232.2.2.2
    clear hSq232
    go_wp2_with (first | ((with_reducible show wpList _ _ _ (⟨some 30, _, _, _, _, _⟩ :: _) _ _); refine wpList_loadBlk rfl 26 (.tmp 8) rfl (w.heap.size + 1) (by rfl) _ _ _ hO2 Try.underlying26 rfl (by rw [bv_size, HO.out]; exact Try.sizeHash) ?_; have ho1 : o.length = 32 := HO.out) | ((with_reducible show wpList _ _ _ (⟨some 32, _, _, _, _, _⟩ :: _) _ _); refine wpList_loadBlk rfl 26 (.tmp 13) rfl G (by rfl) _ _ _ (Blk.alloc hK2 _) Try.underlying26 rfl (by rw [bv_size, HK.out]; exact Try.sizeHash) ?_; have hk1 : k.length = 32 := HK.out))
    refine (NoteNil_calls _ _ 1 1 (by omega) rfl _).mono ?_
    rintro e w5 ⟨rfl, b5⟩
    have hO5 := Blk.below (Blk.alloc (Blk.alloc hO2 _) _) b5 (Blk.lt (Blk.alloc (Blk.alloc hO2 _) _))
    have hK5 := Blk.below (Blk.alloc (Blk.alloc hK2 _) _) b5 (Blk.lt (Blk.alloc (Blk.alloc hK2 _) _))
    have hb5 : Below w.heap.size w w5 := ((hb2.alloc hb2.size _).alloc (by simp; have := hb2.size; omega) _).trans (b5.mono (by simp; have := hb2.size; omega))
    clear b5 ho1 hk1 hP2 hO2 hK2 hb2
    go_wp2_with fail
    refine wp_region_held_drew (S := fun x => Blk x (w.heap.size + 1) (o.map bv).toArray 26 ∧ Blk x (G) (k.map bv).toArray 26 ∧ Below w.heap.size w x) (by kernel_rfl) ⟨hO5.drew, hK5.drew, below_drewN hb5 1⟩ (fun hSq233 => ?_)
    refine wpAnyH_take (i := 0) (v := .slice (some ⟨w.heap.size + 1, 0, none⟩) 32 32) rfl (by kernel_rfl) (by kernel_rfl) (by kernel_rfl) (fun _ _ _ h => h) (Or.inl ⟨by rfl, fun x hx => by go_simp⟩) hSq233 ?_
    simp only [Act.put, List.getElem_toArray, List.getElem_cons_zero, List.getElem_cons_succ, List.setIfInBounds_toArray, List.set_cons_zero, List.set_cons_succ]
    refine wpAnyH_take (i := 1) (v := .string (str o)) rfl (by kernel_rfl) (by kernel_rfl) (by kernel_rfl) (fun _ _ _ h => h) (Or.inl ⟨by rfl, fun x hx => by have hcv := conv_blk HO.out hx.1; go_simp⟩) hSq233 ?_
    simp only [Act.put, List.getElem_toArray, List.getElem_cons_zero, List.getElem_cons_succ, List.setIfInBounds_toArray, List.set_cons_zero, List.set_cons_succ]
    refine wpAnyH_take (i := 2) (v := .pointer none) rfl (by kernel_rfl) (by kernel_rfl) (by kernel_rfl) (fun _ _ _ h => h) (Or.inl ⟨by rfl, fun x hx => by go_simp⟩) hSq233 ?_
    simp only [Act.put, List.getElem_toArray, List.getElem_cons_zero, List.getElem_cons_succ, List.setIfInBounds_toArray, List.set_cons_zero, List.set_cons_succ]
    refine wpAnyH_take (i := 3) rfl (by kernel_rfl) (by kernel_rfl) (by kernel_rfl) (fun _ _ _ h => h) (yieldsIf_load_mid (by rfl) 26 (.tmp 13) rfl (G) 0 (by rfl) (k.map bv) _ (fun x hx => blk_range hx.2.1) Try.underlying26 rfl (by rw [List.length_map, HK.out]; exact Try.sizeHash)) hSq233 ?_
    simp only [Act.put, List.getElem_toArray, List.getElem_cons_zero, List.getElem_cons_succ, List.setIfInBounds_toArray, List.set_cons_zero, List.set_cons_succ]
    refine wpAnyH_take (i := 4) (v := .string (str about)) rfl (by kernel_rfl) (by kernel_rfl) (by kernel_rfl) (fun _ _ _ h => h) (Or.inl ⟨by rfl, fun x hx => by go_simp⟩) hSq233 ?_
    simp only [Act.put, List.getElem_toArray, List.getElem_cons_zero, List.getElem_cons_succ, List.setIfInBounds_toArray, List.set_cons_zero, List.set_cons_succ]
    refine wpAnyH_take (i := 5) (v := .string (str s)) rfl (by kernel_rfl) (by kernel_rfl) (by kernel_rfl) (fun _ _ _ h => h) (Or.inl ⟨by rfl, fun x hx => by go_simp⟩) hSq233 ?_
    simp only [Act.put, List.getElem_toArray, List.getElem_cons_zero, List.getElem_cons_succ, List.setIfInBounds_toArray, List.set_cons_zero, List.set_cons_succ]
    refine wpAnyH_take (i := 6) (v := .slice none 0 0) rfl (by kernel_rfl) (by kernel_rfl) (by kernel_rfl) (fun _ _ _ h => h) (Or.inl ⟨by rfl, fun x hx => by go_simp⟩) hSq233 ?_
    simp only [Act.put, List.getElem_toArray, List.getElem_cons_zero, List.getElem_cons_succ, List.setIfInBounds_toArray, List.set_cons_zero, List.set_cons_succ]
    refine wpAnyH_ready (rs := [7]) (by kernel_rfl) (by simp) ?_
    refine AllReadyH.cons rfl (fun K hK => ?_) AllReadyH.nil
    go_simp
    go_wp2_with (go_at_call 11; refine (c3 _).mono ?_; rintro e yq234 ⟨rfl, bq235⟩)
    refine hK.out _ _ ⟨hSq233.1.below bq235 hSq233.1.lt, hSq233.2.1.below bq235 hSq233.2.1.lt, hSq233.2.2.trans (bq235.mono hSq233.2.2.size)⟩ (fun hSq236 => ?_)
    clear hK K hSq233 bq235
    refine wpAnyH_take (i := 8) (v := .string (str (o ++ q))) rfl (by kernel_rfl) (by kernel_rfl) (by kernel_rfl) (fun _ _ _ h => h) (Or.inl ⟨by rfl, fun x hx => by have ho1 : o.length = 32 := HO.out; go_simp; try omega⟩) hSq236 ?_
    simp only [Act.put, List.getElem_toArray, List.getElem_cons_zero, List.getElem_cons_succ, List.setIfInBounds_toArray, List.set_cons_zero, List.set_cons_succ]
    refine wpAnyH_ready (rs := [9]) (by kernel_rfl) (by simp) ?_
    refine AllReadyH.cons rfl (fun K hK => ?_) AllReadyH.nil
    go_simp
    refine hK.out _ _ hSq236 (fun hSq237 => ?_)
    clear hK K hSq236
    refine wpAnyH_done (by kernel_rfl) ?_ _
    go_wp2_with fail
    go_returns
    rw [hfin.out]
    exact ⟨rfl, hSq237.2.2⟩
  refine AllReadyH.cons rfl (fun K hK => ?_) AllReadyH.nil
  rw [if_pos (by rfl)]
  refine wp_bs32 23 26 (.tmp 25) rfl k HK.out (by rfl) Try.underlying23 (by kernel_rfl) ?_
  intro gq241 yq239 egq242 ezq243 bq238 hEq240
  have lgq244 : w.heap.size ≤ gq241 := by rw [egq242]; exact hSq168.2.2.2.size
  have lbq245 : w.heap.size < gq241 := by rw [egq242]; exact hSq168.1.lt
  have lbq246 : w.heap.size + 1 < gq241 := by rw [egq242]; exact hSq168.2.1.lt
  have lbq247 : G < gq241 := by rw [egq242]; exact hSq168.2.2.1.lt
  refine hK.out _ _ ⟨hSq168.1.below bq238 hSq168.1.lt, hSq168.2.1.below bq238 hSq168.2.1.lt, hSq168.2.2.1.below bq238 hSq168.2.2.1.lt, hSq168.2.2.2.trans (bq238.mono hSq168.2.2.2.size)⟩ (fun hSq248 => ?_)
  clear hK K hSq168 bq238 egq242 ezq243
  refine wpAnyH_ready (rs := [2]) (by kernel_rfl) (by simp) ?_
  refine AllReadyH.cons rfl (fun K hK => ?_) AllReadyH.nil
  go_simp
  go_wp2_with (go_at_call 31; refine (c2 _).mono ?_; rintro e yq249 ⟨rfl, bq250⟩)
  have hEq251 := hEq240.below bq250 hEq240.lt
  refine hK.out _ _ ⟨hSq248.1.below bq250 hSq248.1.lt, hSq248.2.1.below bq250 hSq248.2.1.lt, hSq248.2.2.1.below bq250 hSq248.2.2.1.lt, hSq248.2.2.2.trans (bq250.mono hSq248.2.2.2.size)⟩ (fun hSq252 => ?_)
  clear hK K hSq248 bq250
  refine wpAnyH_ready (rs := [3]) (by kernel_rfl) (by simp) ?_
  refine AllReadyH.cons rfl (fun K hK => ?_) AllReadyH.nil
  rw [if_pos (by rfl)]
  refine wp_bs32 23 26 (.tmp 23) rfl m HM.out (by rfl) Try.underlying23 (by kernel_rfl) ?_
  intro gq256 yq254 egq257 ezq258 bq253 hEq255
  have lgq259 : w.heap.size ≤ gq256 := by rw [egq257]; exact hSq252.2.2.2.size
  have lbq260 : w.heap.size < gq256 := by rw [egq257]; exact hSq252.1.lt
  have lbq261 : w.heap.size + 1 < gq256 := by rw [egq257]; exact hSq252.2.1.lt
  have lbq262 : G < gq256 := by rw [egq257]; exact hSq252.2.2.1.lt
  have hEq263 := hEq251.below bq253 hEq251.lt
  refine hK.out _ _ ⟨hSq252.1.below bq253 hSq252.1.lt, hSq252.2.1.below bq253 hSq252.2.1.lt, hSq252.2.2.1.below bq253 hSq252.2.2.1.lt, hSq252.2.2.2.trans (bq253.mono hSq252.2.2.2.size)⟩ (fun hSq264 => ?_)
  clear hK K hSq252 bq253 egq257 ezq258
  refine wpAnyH_take (i := 6) (v := .agg #[.slice (some ⟨gq256, 0, none⟩) 1 1, .slice (some ⟨gq241, 0, none⟩) 1 1]) rfl (by kernel_rfl) (by kernel_rfl) (by kernel_rfl) (fun _ _ _ h => h) (Or.inl ⟨by rfl, fun x hx => by go_simp⟩) hSq264 ?_
  simp only [Act.put, List.getElem_toArray, List.getElem_cons_zero, List.getElem_cons_succ, List.setIfInBounds_toArray, List.set_cons_zero, List.set_cons_succ]
  refine wpAnyH_ready (rs := [7]) (by kernel_rfl) (by simp) ?_
  refine AllReadyH.cons rfl (fun K hK => ?_) AllReadyH.nil
  go_simp
  go_wp2_with (go_at_call 26; refine (NoteNil_calls _ _ 1 1 (by omega) rfl _).mono ?_; rintro e yq265 ⟨rfl, bq266⟩)
  have hEq267 := hEq263.below bq266 hEq263.lt
  have hEq268 := hEq255.below bq266 hEq255.lt
  refine hK.out _ _ ⟨hSq264.1.below bq266 hSq264.1.lt, hSq264.2.1.below bq266 hSq264.2.1.lt, hSq264.2.2.1.below bq266 hSq264.2.2.1.lt, hSq264.2.2.2.trans (bq266.mono hSq264.2.2.2.size)⟩ (fun hSq269 => ?_)
  clear hK K hSq264 bq266
  refine wpAnyH_done (by kernel_rfl) ?_ _
  have hP2 := hSq269.1
  have hO2 := hSq269.2.1
  have hK2 := hSq269.2.2.1
  have hb2 := hSq269.2.2.2
  clear hSq269
  go_wp2_with (first | ((with_reducible show wpList _ _ _ (⟨some 30, _, _, _, _, _⟩ :: _) _ _); refine wpList_loadBlk rfl 26 (.tmp 8) rfl (w.heap.size + 1) (by rfl) _ _ _ hO2 Try.underlying26 rfl (by rw [bv_size, HO.out]; exact Try.sizeHash) ?_; have ho1 : o.length = 32 := HO.out) | ((with_reducible show wpList _ _ _ (⟨some 32, _, _, _, _, _⟩ :: _) _ _); refine wpList_loadBlk rfl 26 (.tmp 13) rfl G (by rfl) _ _ _ (Blk.alloc hK2 _) Try.underlying26 rfl (by rw [bv_size, HK.out]; exact Try.sizeHash) ?_; have hk1 : k.length = 32 := HK.out))
  refine (NoteNil_calls _ _ 1 1 (by omega) rfl _).mono ?_
  rintro e w5 ⟨rfl, b5⟩
  have hO5 := Blk.below (Blk.alloc (Blk.alloc hO2 _) _) b5 (Blk.lt (Blk.alloc (Blk.alloc hO2 _) _))
  have hK5 := Blk.below (Blk.alloc (Blk.alloc hK2 _) _) b5 (Blk.lt (Blk.alloc (Blk.alloc hK2 _) _))
  have hb5 : Below w.heap.size w w5 := ((hb2.alloc hb2.size _).alloc (by simp; have := hb2.size; omega) _).trans (b5.mono (by simp; have := hb2.size; omega))
  clear b5 ho1 hk1 hP2 hO2 hK2 hb2
  go_wp2_with fail
  refine wp_region_held_drew (S := fun x => Blk x (w.heap.size + 1) (o.map bv).toArray 26 ∧ Blk x (G) (k.map bv).toArray 26 ∧ Below w.heap.size w x) (by kernel_rfl) ⟨hO5.drew, hK5.drew, below_drewN hb5 1⟩ (fun hSq270 => ?_)
  refine wpAnyH_take (i := 0) (v := .slice (some ⟨w.heap.size + 1, 0, none⟩) 32 32) rfl (by kernel_rfl) (by kernel_rfl) (by kernel_rfl) (fun _ _ _ h => h) (Or.inl ⟨by rfl, fun x hx => by go_simp⟩) hSq270 ?_
  simp only [Act.put, List.getElem_toArray, List.getElem_cons_zero, List.getElem_cons_succ, List.setIfInBounds_toArray, List.set_cons_zero, List.set_cons_succ]
  refine wpAnyH_take (i := 1) (v := .string (str o)) rfl (by kernel_rfl) (by kernel_rfl) (by kernel_rfl) (fun _ _ _ h => h) (Or.inl ⟨by rfl, fun x hx => by have hcv := conv_blk HO.out hx.1; go_simp⟩) hSq270 ?_
  simp only [Act.put, List.getElem_toArray, List.getElem_cons_zero, List.getElem_cons_succ, List.setIfInBounds_toArray, List.set_cons_zero, List.set_cons_succ]
  refine wpAnyH_take (i := 2) (v := .pointer none) rfl (by kernel_rfl) (by kernel_rfl) (by kernel_rfl) (fun _ _ _ h => h) (Or.inl ⟨by rfl, fun x hx => by go_simp⟩) hSq270 ?_
  simp only [Act.put, List.getElem_toArray, List.getElem_cons_zero, List.getElem_cons_succ, List.setIfInBounds_toArray, List.set_cons_zero, List.set_cons_succ]
  refine wpAnyH_take (i := 3) rfl (by kernel_rfl) (by kernel_rfl) (by kernel_rfl) (fun _ _ _ h => h) (yieldsIf_load_mid (by rfl) 26 (.tmp 13) rfl (G) 0 (by rfl) (k.map bv) _ (fun x hx => blk_range hx.2.1) Try.underlying26 rfl (by rw [List.length_map, HK.out]; exact Try.sizeHash)) hSq270 ?_
  simp only [Act.put, List.getElem_toArray, List.getElem_cons_zero, List.getElem_cons_succ, List.setIfInBounds_toArray, List.set_cons_zero, List.set_cons_succ]
  refine wpAnyH_take (i := 4) (v := .string (str about)) rfl (by kernel_rfl) (by kernel_rfl) (by kernel_rfl) (fun _ _ _ h => h) (Or.inl ⟨by rfl, fun x hx => by go_simp⟩) hSq270 ?_
  simp only [Act.put, List.getElem_toArray, List.getElem_cons_zero, List.getElem_cons_succ, List.setIfInBounds_toArray, List.set_cons_zero, List.set_cons_succ]
  refine wpAnyH_take (i := 5) (v := .string (str s)) rfl (by kernel_rfl) (by kernel_rfl) (by kernel_rfl) (fun _ _ _ h => h) (Or.inl ⟨by rfl, fun x hx => by go_simp⟩) hSq270 ?_
  simp only [Act.put, List.getElem_toArray, List.getElem_cons_zero, List.getElem_cons_succ, List.setIfInBounds_toArray, List.set_cons_zero, List.set_cons_succ]
  refine wpAnyH_take (i := 6) (v := .slice none 0 0) rfl (by kernel_rfl) (by kernel_rfl) (by kernel_rfl) (fun _ _ _ h => h) (Or.inl ⟨by rfl, fun x hx => by go_simp⟩) hSq270 ?_
  simp only [Act.put, List.getElem_toArray, List.getElem_cons_zero, List.getElem_cons_succ, List.setIfInBounds_toArray, List.set_cons_zero, List.set_cons_succ]
  refine wpAnyH_ready (rs := [7]) (by kernel_rfl) (by simp) ?_
  refine AllReadyH.cons rfl (fun K hK => ?_) AllReadyH.nil
  go_simp
  go_wp2_with (go_at_call 11; refine (c3 _).mono ?_; rintro e yq271 ⟨rfl, bq272⟩)
  refine hK.out _ _ ⟨hSq270.1.below bq272 hSq270.1.lt, hSq270.2.1.below bq272 hSq270.2.1.lt, hSq270.2.2.trans (bq272.mono hSq270.2.2.size)⟩ (fun hSq273 => ?_)
  clear hK K hSq270 bq272
  refine wpAnyH_take (i := 8) (v := .string (str (o ++ q))) rfl (by kernel_rfl) (by kernel_rfl) (by kernel_rfl) (fun _ _ _ h => h) (Or.inl ⟨by rfl, fun x hx => by have ho1 : o.length = 32 := HO.out; go_simp; try omega⟩) hSq273 ?_
  simp only [Act.put, List.getElem_toArray, List.getElem_cons_zero, List.getElem_cons_succ, List.setIfInBounds_toArray, List.set_cons_zero, List.set_cons_succ]
  refine wpAnyH_ready (rs := [9]) (by kernel_rfl) (by simp) ?_
  refine AllReadyH.cons rfl (fun K hK => ?_) AllReadyH.nil
  go_simp
  refine hK.out _ _ hSq273 (fun hSq274 => ?_)
  clear hK K hSq273
  refine wpAnyH_done (by kernel_rfl) ?_ _
  go_wp2_with fail
  go_returns
  rw [hfin.out]
  exact ⟨rfl, hSq274.2.2⟩

end Go.Proofs.Ytjlpdbaknhbgdaa
