/-
  bevylaw06.same: a row has what the document's has.
-/
import Derived.Test.YtnfegmcdljejnaaPprSeeds
import Derived.Test.YtnfegmcdljejnaaPprRefPack
import Derived.Test.YtnfegmcdljejnaaRd
set_option linter.unusedSimpArgs false
set_option linter.unusedVariables false
namespace Go.Proofs.Ytnfegmcdljejnaa
open Go.RowKit

set_option maxHeartbeats 4000000 in
set_option maxRecDepth 100000 in
theorem same_calls (root : List UInt8) (B : Nat) (v : Value) (tk : List Nat) (r : Nat) (hh : root.length = 32) (hB : B ≤ 32) (hn : tk.length ≤ 1000000) (ht : ∀ x ∈ tk, x < 4294967296) (w : World) (hI : IntsAt w v tk) (hlen : (rowT root B tk).length ≤ 1000000) (hR : RowAt w r B (rowT root B tk)) :
    Calls Try.prog 77 #[.pointer (some ⟨r, 0, none⟩), .agg (rcells root B v).toArray] w fun e w' => e = .returned (.bool true) ∧ Below w.heap.size w w' := by
  have hb0 : Below w.heap.size w (w.alloc (.cells (rcells root B v).toArray 54)) := below_alloc1 _ _
  have hA0 : Blk (w.alloc (.cells (rcells root B v).toArray 54)) w.heap.size (rcells root B v).toArray 54 := Blk.new _ _ _
  have HI := Lib.hid (hI.below hb0)
  have HR := Lib.hid (hR.below hb0)
  have HH := Lib.hid hh
  have hmem := row_mem (B := B) (tk := tk) hh
  have c1 : ∀ z, IntsAt z v tk → Calls Try.prog 71 #[.agg (rcells root B v).toArray] z fun e w' => ∃ s, e = .returned s ∧ SeedsAt w' s (rowT root B tk) ∧ Below z.heap.size z w' := fun z hz => RSeeds_calls root B v tk hh hB hn ht z hz hlen
  clear hI hR
  obtain ⟨L, hL⟩ : ∃ L, L = rowT root B tk := ⟨_, rfl⟩
  rw [← hL] at hlen HR hmem c1
  have hok : RowOk B L := ⟨fun s hs => ⟨(hmem s hs).1, (hmem s hs).2.1⟩, hlen⟩
  have HOK := Lib.hid hok
  have H32 : Hid (∀ s ∈ L, s.h.length = 32) := fun s hs => (hmem s hs).2.2
  have HLP : Hid (∀ s ∈ L, s.lv ≤ 32 ∧ s.pl < 4294967296) := fun s hs => by
    obtain ⟨h1, h2, _⟩ := hmem s hs
    have hp32 : 2 ^ s.lv ≤ 2 ^ 32 := Nat.pow_le_pow_right (by omega) (by omega)
    exact ⟨by omega, by omega⟩
  clear hL hmem hh ht hok
  go_enter Try.func77, Try.ntmps77
  go_wp2_with ((with_reducible show wpList _ _ _ (⟨some 8, _, _, _, _, _⟩ :: _) _ _); refine wpList_load_mid rfl 54 (.tmp 3) rfl (w.heap.size) 0 (by rfl) (rcells root B v) _ (blk_rangeP hA0) Try.underlying54 rfl (by rw [rcells_len _ _ _ HH.out]; exact Try.sizeR6) ?_)
  generalize w.alloc (.cells (rcells root B v).toArray 54) = W0 at hb0 HI HR hA0 ⊢
  have ltq3 : w.heap.size < W0.heap.size := hA0.lt
  have ltq4 : r < W0.heap.size := HR.out.lt
  refine (c1 _ HI.out).mono ?_
  rintro e wq1 ⟨s, rfl, hs, bq2⟩
  have hCq5 := hA0.below bq2 hA0.lt
  have hCq6 := Lib.hid (HI.out.below bq2)
  have hCq7 := Lib.hid (HR.out.below bq2)
  have hBq8 := hb0.trans (bq2.mono hb0.size)
  clear hA0 HI HR hb0
  clear bq2
  have hHq9 := Lib.hid hs
  clear hs
  go_wp2_with fail
  have ltq12 : w.heap.size < wq1.heap.size := hCq5.lt
  have ltq13 : r < wq1.heap.size := hCq7.out.lt
  refine (Seeds_calls r B L _ hCq7.out hlen).mono ?_
  rintro e wq10 ⟨x, rfl, hx, bq11⟩
  have hCq14 := hCq5.below bq11 hCq5.lt
  have hCq15 := Lib.hid (hCq6.out.below bq11)
  have hCq16 := Lib.hid (hCq7.out.below bq11)
  have hCq17 := Lib.hid (hHq9.out.below bq11)
  have hBq18 := hBq8.trans (bq11.mono hBq8.size)
  clear hCq5 hCq6 hCq7 hHq9 hBq8
  clear bq11
  have hx2 := HashesAt.own (l := L.map Sd.h) (n := L.length) (by rw [List.flatMap_map]; exact hx) (fun q hq => by obtain ⟨s, hs, rfl⟩ := List.mem_map.1 hq; exact H32.out s hs) (by simp)
  have HX := Lib.hid hx2
  clear hx2
  clear hx
  obtain ⟨sa, sc, rfl, hsc⟩ := hCq17.out.slice
  obtain ⟨xa, xc, rfl, hxc⟩ := HX.out.slice
  rw [List.length_map] at HX hxc ⊢
  obtain ⟨n, hne⟩ : ∃ n, n = L.length := ⟨_, rfl⟩
  rw [← hne] at hlen hsc hxc HX hCq17 ⊢
  have HN := Lib.hid hne
  clear hne c1
  go_wp2_with fail
  have hcb := hCq14.cell 32 _ (rcells_bits root B _ HH.out)
  have HCB := Lib.hid hCq14
  clear hcb
  refine wp_region_held_drew (S := fun x => Blk x (w.heap.size) (rcells root B v).toArray 54 ∧ RowAt x r B L ∧ SeedsAt x (.slice sa n sc) L ∧ HashesAt x (.slice xa n xc) (L.map Sd.h) ∧ Below w.heap.size w x) (by kernel_rfl) ⟨HCB.out.drew, hCq16.out.below (below_drewN (Below.refl _ _) 1), hCq17.out.below (below_drewN (Below.refl _ _) 1), HX.out.below (below_drewN (Below.refl _ _) 1), below_drewN hBq18 1⟩ (fun hSq19 => ?_)
  refine wpAnyH_take (i := 0) (v := .slice xa n xc) rfl (by kernel_rfl) (by kernel_rfl) (by kernel_rfl) (fun _ _ _ h => h) (Or.inl ⟨by rfl, fun x hx => by go_simp⟩) hSq19 ?_
  simp only [Act.put, List.getElem_toArray, List.getElem_cons_zero, List.getElem_cons_succ, List.setIfInBounds_toArray, List.set_cons_zero, List.set_cons_succ]
  refine wpAnyH_take (i := 1) (v := .int .i64 n) rfl (by kernel_rfl) (by kernel_rfl) (by kernel_rfl) (fun _ _ _ h => h) (Or.inl ⟨by rfl, fun x hx => by go_simp⟩) hSq19 ?_
  simp only [Act.put, List.getElem_toArray, List.getElem_cons_zero, List.getElem_cons_succ, List.setIfInBounds_toArray, List.set_cons_zero, List.set_cons_succ]
  refine wpAnyH_take (i := 2) (v := .slice sa n sc) rfl (by kernel_rfl) (by kernel_rfl) (by kernel_rfl) (fun _ _ _ h => h) (Or.inl ⟨by rfl, fun x hx => by go_simp⟩) hSq19 ?_
  simp only [Act.put, List.getElem_toArray, List.getElem_cons_zero, List.getElem_cons_succ, List.setIfInBounds_toArray, List.set_cons_zero, List.set_cons_succ]
  refine wpAnyH_take (i := 3) (v := .int .i64 n) rfl (by kernel_rfl) (by kernel_rfl) (by kernel_rfl) (fun _ _ _ h => h) (Or.inl ⟨by rfl, fun x hx => by go_simp⟩) hSq19 ?_
  simp only [Act.put, List.getElem_toArray, List.getElem_cons_zero, List.getElem_cons_succ, List.setIfInBounds_toArray, List.set_cons_zero, List.set_cons_succ]
  refine wpAnyH_take (i := 4) (v := .bool false) rfl (by kernel_rfl) (by kernel_rfl) (by kernel_rfl) (fun _ _ _ h => h) (Or.inl ⟨by rfl, fun x hx => by go_simp⟩) hSq19 ?_
  simp only [Act.put, List.getElem_toArray, List.getElem_cons_zero, List.getElem_cons_succ, List.setIfInBounds_toArray, List.set_cons_zero, List.set_cons_succ]
  refine wpAnyH_take (i := 5) (v := .bool false) rfl (by kernel_rfl) (by kernel_rfl) (by kernel_rfl) (fun _ _ _ h => h) (Or.inl ⟨by rfl, fun x hx => by go_simp⟩) hSq19 ?_
  simp only [Act.put, List.getElem_toArray, List.getElem_cons_zero, List.getElem_cons_succ, List.setIfInBounds_toArray, List.set_cons_zero, List.set_cons_succ]
  refine wpAnyH_take (i := 6) (v := .pointer (some ⟨r, 0, none⟩)) rfl (by kernel_rfl) (by kernel_rfl) (by kernel_rfl) (fun _ _ _ h => h) (Or.inl ⟨by rfl, fun x hx => by go_simp⟩) hSq19 ?_
  simp only [Act.put, List.getElem_toArray, List.getElem_cons_zero, List.getElem_cons_succ, List.setIfInBounds_toArray, List.set_cons_zero, List.set_cons_succ]
  refine wpAnyH_take (i := 8) (v := .pointer (some ⟨w.heap.size, 32, none⟩)) rfl (by kernel_rfl) (by kernel_rfl) (by kernel_rfl) (fun _ _ _ h => h) (Or.inl ⟨by rfl, fun x hx => by go_simp⟩) hSq19 ?_
  simp only [Act.put, List.getElem_toArray, List.getElem_cons_zero, List.getElem_cons_succ, List.setIfInBounds_toArray, List.set_cons_zero, List.set_cons_succ]
  refine wpAnyH_take (i := 9) (v := .int .i64 B) rfl (by kernel_rfl) (by kernel_rfl) (by kernel_rfl) (fun _ _ _ h => h) (Or.inl ⟨by rfl, fun x hx => by have hc := hx.1.cell 32 _ (rcells_bits root B _ HH.out); go_simp⟩) hSq19 ?_
  simp only [Act.put, List.getElem_toArray, List.getElem_cons_zero, List.getElem_cons_succ, List.setIfInBounds_toArray, List.set_cons_zero, List.set_cons_succ]
  refine wpAnyH_ready (rs := [7]) (by kernel_rfl) (by simp) ?_
  refine AllReadyH.cons rfl (fun K hK => ?_) AllReadyH.nil
  go_simp
  go_wp2_with (go_at_call 43; refine (Bits_calls r B _ _ hSq19.2.1).mono ?_; rintro e yq20 ⟨rfl, bq21⟩)
  refine hK.out _ _ ⟨hSq19.1.below bq21 hSq19.1.lt, hSq19.2.1.below bq21, hSq19.2.2.1.below bq21, hSq19.2.2.2.1.below bq21, hSq19.2.2.2.2.trans (bq21.mono hSq19.2.2.2.2.size)⟩ (fun hSq22 => ?_)
  clear hK K hSq19 bq21
  refine wpAnyH_take (i := 10) (v := .bool false) rfl (by kernel_rfl) (by kernel_rfl) (by kernel_rfl) (fun _ _ _ h => h) (Or.inl ⟨by rfl, fun x hx => by go_simp⟩) hSq22 ?_
  simp only [Act.put, List.getElem_toArray, List.getElem_cons_zero, List.getElem_cons_succ, List.setIfInBounds_toArray, List.set_cons_zero, List.set_cons_succ]
  refine wpAnyH_take (i := 11) (v := .bool false) rfl (by kernel_rfl) (by kernel_rfl) (by kernel_rfl) (fun _ _ _ h => h) (Or.inl ⟨by rfl, fun x hx => by go_simp⟩) hSq22 ?_
  simp only [Act.put, List.getElem_toArray, List.getElem_cons_zero, List.getElem_cons_succ, List.setIfInBounds_toArray, List.set_cons_zero, List.set_cons_succ]
  refine wpAnyH_take (i := 12) (v := .bool false) rfl (by kernel_rfl) (by kernel_rfl) (by kernel_rfl) (fun _ _ _ h => h) (Or.inl ⟨by rfl, fun x hx => by go_simp⟩) hSq22 ?_
  simp only [Act.put, List.getElem_toArray, List.getElem_cons_zero, List.getElem_cons_succ, List.setIfInBounds_toArray, List.set_cons_zero, List.set_cons_succ]
  refine wpAnyH_take (i := 13) (v := .pointer (some ⟨r, 0, none⟩)) rfl (by kernel_rfl) (by kernel_rfl) (by kernel_rfl) (fun _ _ _ h => h) (Or.inl ⟨by rfl, fun x hx => by go_simp⟩) hSq22 ?_
  simp only [Act.put, List.getElem_toArray, List.getElem_cons_zero, List.getElem_cons_succ, List.setIfInBounds_toArray, List.set_cons_zero, List.set_cons_succ]
  refine wpAnyH_take (i := 15) (v := .slice sa n sc) rfl (by kernel_rfl) (by kernel_rfl) (by kernel_rfl) (fun _ _ _ h => h) (Or.inl ⟨by rfl, fun x hx => by go_simp⟩) hSq22 ?_
  simp only [Act.put, List.getElem_toArray, List.getElem_cons_zero, List.getElem_cons_succ, List.setIfInBounds_toArray, List.set_cons_zero, List.set_cons_succ]
  refine wpAnyH_ready (rs := [14]) (by kernel_rfl) (by simp) ?_
  refine AllReadyH.cons rfl (fun K hK => ?_) AllReadyH.nil
  go_simp
  go_wp2_with (go_at_call 79; refine (Pack_calls r B L _ hSq22.2.1 hB HOK.out).mono ?_; rintro e yq23 ⟨rfl, bq24⟩)
  refine hK.out _ _ ⟨hSq22.1.below bq24 hSq22.1.lt, hSq22.2.1.below bq24, hSq22.2.2.1.below bq24, hSq22.2.2.2.1.below bq24, hSq22.2.2.2.2.trans (bq24.mono hSq22.2.2.2.2.size)⟩ (fun hSq25 => ?_)
  clear hK K hSq22 bq24
  refine wpAnyH_ready (rs := [16]) (by kernel_rfl) (by simp) ?_
  refine AllReadyH.cons rfl (fun K hK => ?_) AllReadyH.nil
  go_simp
  go_wp2_with (go_at_call 120; refine (RPack_calls _ L _ hSq25.2.2.1 HLP.out HOK.out.2).mono ?_; rintro e yq26 ⟨rfl, bq27⟩)
  refine hK.out _ _ ⟨hSq25.1.below bq27 hSq25.1.lt, hSq25.2.1.below bq27, hSq25.2.2.1.below bq27, hSq25.2.2.2.1.below bq27, hSq25.2.2.2.2.trans (bq27.mono hSq25.2.2.2.2.size)⟩ (fun hSq28 => ?_)
  clear hK K hSq25 bq27
  refine wpAnyH_take (i := 17) (v := .bool false) rfl (by kernel_rfl) (by kernel_rfl) (by kernel_rfl) (fun _ _ _ h => h) (Or.inl ⟨by rfl, fun x hx => by go_simp⟩) hSq28 ?_
  simp only [Act.put, List.getElem_toArray, List.getElem_cons_zero, List.getElem_cons_succ, List.setIfInBounds_toArray, List.set_cons_zero, List.set_cons_succ]
  refine wpAnyH_take (i := 18) (v := .bool false) rfl (by kernel_rfl) (by kernel_rfl) (by kernel_rfl) (fun _ _ _ h => h) (Or.inl ⟨by rfl, fun x hx => by go_simp⟩) hSq28 ?_
  simp only [Act.put, List.getElem_toArray, List.getElem_cons_zero, List.getElem_cons_succ, List.setIfInBounds_toArray, List.set_cons_zero, List.set_cons_succ]
  refine wpAnyH_done (by kernel_rfl) ?_ _
  have hRz := Lib.hid hSq28.2.1
  have hSz := Lib.hid hSq28.2.2.1
  have hXz := Lib.hid hSq28.2.2.2.1
  have hBz := Lib.hid hSq28.2.2.2.2
  clear hSq28
  generalize yq26 = wz at hRz hSz hXz hBz ⊢
  go_wp2_with fail
  go_loopw [7] (fun i wr => ∃ (k : Nat), k ≤ n ∧ i = .int .i64 k ∧ Hid (SeedsAt wr (.slice sa n sc) L) ∧ Hid (HashesAt wr (.slice xa n xc) (L.map Sd.h)) ∧ Hid (Below w.heap.size w wr)) (fun i _ => n - (intOf i).toNat)
  case atStart => exact ⟨0, by omega, rfl, hSz, hXz, hBz⟩
  case round =>
    obtain ⟨k, hk, rfl, hS, hX, hB⟩ := hrel
    clear hRz hSz hXz hBz
    by_cases hlt : k < n
    · obtain ⟨s, hs⟩ : ∃ s, L[k]? = some s := ⟨L[k]'(by rw [← HN.out]; exact hlt), List.getElem?_eq_getElem _⟩
      have hsh : (L.map Sd.h)[k]? = some s.h := by rw [List.getElem?_map, hs]; rfl
      obtain ⟨g, o, rfl, hr1⟩ := hX.out.range k s.h hsh
      obtain ⟨g2, rfl⟩ : ∃ g2, sa = some ⟨g2, 0, none⟩ := by
        have hn1 := HN.out
        rcases hS.out.2 with ⟨h3, h4⟩ | ⟨g2, c', h3, h4, h5⟩
        · rw [h4] at hn1; simp at hn1; omega
        · simp at h3; exact ⟨g2, h3.1⟩
      have HS := Lib.hid (H32.out s (List.mem_of_getElem? hs))
      have HSK := Lib.hid hs
      have HSH := Lib.hid hsh
      have hqe : ∀ x, (Op.equalIn 10000 23 (.agg (s.h.map bv).toArray) (.agg (s.h.map bv).toArray)).run Try.prog x = .ok true x := fun x => by rw [run_eq_hash x _ _ HS.out HS.out, beq_self_eq_true]
      have E1 : Hid (∀ x, SeedsAt x (.slice (some ⟨g2, 0, none⟩) n sc) L → x.rangeAt g2 (k * 34 + 2) (s.h.map bv)) := fun x hx => by
        have := hx.range k s HSK.out
        rw [Nat.mul_comm] at this
        exact range_hash this
      have E2 : Hid (∀ x, HashesAt x (.slice (some ⟨g, o, none⟩) n xc) (L.map Sd.h) → x.rangeAt g (o + k * 32) (s.h.map bv)) := fun x hx => hx.range' k s.h HSH.out
      clear hs hsh hr1
      go_wp2_with fail
      refine wp_region_held_drew (S := fun x => SeedsAt x (.slice (some ⟨g2, 0, none⟩) n sc) L ∧ HashesAt x (.slice (some ⟨g, o, none⟩) n xc) (L.map Sd.h) ∧ Below w.heap.size w x) (by kernel_rfl) ⟨hS.out.below (below_drewN (Below.refl _ _) 1), hX.out.below (below_drewN (Below.refl _ _) 1), below_drewN hB.out 1⟩ (fun hSq29 => ?_)
      refine wpAnyH_take (i := 0) (v := .slice (some ⟨g, o, none⟩) n xc) rfl (by kernel_rfl) (by kernel_rfl) (by kernel_rfl) (fun _ _ _ h => h) (Or.inl ⟨by rfl, fun x hx => by go_simp⟩) hSq29 ?_
      simp only [Act.put, List.getElem_toArray, List.getElem_cons_zero, List.getElem_cons_succ, List.setIfInBounds_toArray, List.set_cons_zero, List.set_cons_succ]
      refine wpAnyH_take (i := 1) (v := .int .i64 k) rfl (by kernel_rfl) (by kernel_rfl) (by kernel_rfl) (fun _ _ _ h => h) (Or.inl ⟨by rfl, fun x hx => by go_simp⟩) hSq29 ?_
      simp only [Act.put, List.getElem_toArray, List.getElem_cons_zero, List.getElem_cons_succ, List.setIfInBounds_toArray, List.set_cons_zero, List.set_cons_succ]
      refine wpAnyH_take (i := 2) (v := .pointer (some ⟨g, o + k * 32, none⟩)) rfl (by kernel_rfl) (by kernel_rfl) (by kernel_rfl) (fun _ _ _ h => h) (Or.inl ⟨by rfl, fun x hx => by go_simp⟩) hSq29 ?_
      simp only [Act.put, List.getElem_toArray, List.getElem_cons_zero, List.getElem_cons_succ, List.setIfInBounds_toArray, List.set_cons_zero, List.set_cons_succ]
      refine wpAnyH_take (i := 3) rfl (by kernel_rfl) (by kernel_rfl) (by kernel_rfl) (fun _ _ _ h => h) (yieldsIf_load_mid (by rfl) 23 (.tmp 39) rfl (g) (o + k * 32) (by rfl) (s.h.map bv) _ (fun x hx => E2.out x hx.2.1) Try.underlying23 rfl (by rw [List.length_map, HS.out]; exact Try.sizeHash)) hSq29 ?_
      simp only [Act.put, List.getElem_toArray, List.getElem_cons_zero, List.getElem_cons_succ, List.setIfInBounds_toArray, List.set_cons_zero, List.set_cons_succ]
      refine wpAnyH_take (i := 4) (v := .slice (some ⟨g2, 0, none⟩) n sc) rfl (by kernel_rfl) (by kernel_rfl) (by kernel_rfl) (fun _ _ _ h => h) (Or.inl ⟨by rfl, fun x hx => by go_simp⟩) hSq29 ?_
      simp only [Act.put, List.getElem_toArray, List.getElem_cons_zero, List.getElem_cons_succ, List.setIfInBounds_toArray, List.set_cons_zero, List.set_cons_succ]
      refine wpAnyH_take (i := 5) (v := .int .i64 k) rfl (by kernel_rfl) (by kernel_rfl) (by kernel_rfl) (fun _ _ _ h => h) (Or.inl ⟨by rfl, fun x hx => by go_simp⟩) hSq29 ?_
      simp only [Act.put, List.getElem_toArray, List.getElem_cons_zero, List.getElem_cons_succ, List.setIfInBounds_toArray, List.set_cons_zero, List.set_cons_succ]
      refine wpAnyH_take (i := 6) (v := .pointer (some ⟨g2, k * 34, none⟩)) rfl (by kernel_rfl) (by kernel_rfl) (by kernel_rfl) (fun _ _ _ h => h) (Or.inl ⟨by rfl, fun x hx => by go_simp⟩) hSq29 ?_
      simp only [Act.put, List.getElem_toArray, List.getElem_cons_zero, List.getElem_cons_succ, List.setIfInBounds_toArray, List.set_cons_zero, List.set_cons_succ]
      refine wpAnyH_take (i := 7) (v := .pointer (some ⟨g2, k * 34 + 2, none⟩)) rfl (by kernel_rfl) (by kernel_rfl) (by kernel_rfl) (fun _ _ _ h => h) (Or.inl ⟨by rfl, fun x hx => by go_simp⟩) hSq29 ?_
      simp only [Act.put, List.getElem_toArray, List.getElem_cons_zero, List.getElem_cons_succ, List.setIfInBounds_toArray, List.set_cons_zero, List.set_cons_succ]
      refine wpAnyH_take (i := 8) rfl (by kernel_rfl) (by kernel_rfl) (by kernel_rfl) (fun _ _ _ h => h) (yieldsIf_load_mid (by rfl) 22 (.tmp 44) rfl (g2) (k * 34 + 2) (by rfl) (s.h.map bv) _ (fun x hx => E1.out x hx.1) Try.underlying22 rfl (by rw [List.length_map, HS.out]; exact Try.sizeA32)) hSq29 ?_
      simp only [Act.put, List.getElem_toArray, List.getElem_cons_zero, List.getElem_cons_succ, List.setIfInBounds_toArray, List.set_cons_zero, List.set_cons_succ]
      refine wpAnyH_take (i := 9) (v := .bool false) rfl (by kernel_rfl) (by kernel_rfl) (by kernel_rfl) (fun _ _ _ h => h) (Or.inl ⟨by rfl, fun x hx => by go_simp⟩) hSq29 ?_
      simp only [Act.put, List.getElem_toArray, List.getElem_cons_zero, List.getElem_cons_succ, List.setIfInBounds_toArray, List.set_cons_zero, List.set_cons_succ]
      refine wpAnyH_done (by kernel_rfl) ?_ _
      have hz1 := Lib.hid hSq29.1
      have hz2 := Lib.hid hSq29.2.1
      have hz3 := Lib.hid hSq29.2.2
      clear hSq29
      go_wp2_with fail
      go_roundw
      case rel => exact ⟨k + 1, by omega, by go_num, hz1, hz2, hz3⟩
      case measure => simp [intOf]; omega
    · obtain rfl : k = n := by omega
      go_wp2_with fail
      go_returns
      exact ⟨rfl, hB.out⟩
end Go.Proofs.Ytnfegmcdljejnaa
