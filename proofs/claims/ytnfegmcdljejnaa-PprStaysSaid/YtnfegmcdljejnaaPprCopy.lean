/-
  ppr: Copy.
-/
import Derived.Test.YtnfegmcdljejnaaPprLaw
import Derived.Test.YtnfegmcdljejnaaPprSeeds
set_option linter.unusedSimpArgs false
set_option linter.unusedVariables false
namespace Go.Proofs.Ytnfegmcdljejnaa
open Go.RowKit

theorem Clone_calls (v : Value) (l : List Sd) (w : World) (h : SeedsAt w v l) (hn : l.length ≤ 1000000) :
    Calls Try.prog 101 #[v] w fun e w' => ∃ v', e = .returned v' ∧ SeedsAt w' v' l ∧ Below w.heap.size w w' := by
  rcases h.2 with ⟨rfl, rfl⟩ | ⟨g, c, rfl, hc, hlt, hcell⟩
  · have hcall := AnyE.slices_Clone_nil Try.cloneSd 0 0 w
    change Calls Try.prog 101 _ _ _ at hcall
    refine hcall.mono ?_
    rintro e w' ⟨rfl, rfl⟩
    exact ⟨_, rfl, h, Below.refl _ _⟩
  · obtain ⟨i0, hi, hz, hsz, hby⟩ := info_parts Try.infoSeed
    have hcall := AnyE.slices_Clone Try.cloneSd i0 (.agg z34.toArray) 34 48 hi hz hsz hby rfl (by decide) Try.sizeOf138 g 0 l.length c (l.flatMap Sd.cells) w (seeds_cells_len l h.1) (by unfold maxLen; omega) (by omega) (fun j u hj => by rw [Nat.zero_add]; exact hcell j u hj) (seeds_cells_one l)
    change Calls Try.prog 101 _ _ _ at hcall
    refine hcall.mono ?_
    rintro e w' ⟨v', rfl, ho, _, hb⟩
    exact ⟨v', rfl, SeedsAt.own ho h.1 rfl, hb⟩
theorem wp_boxZ {P : Program} {o : Oper} {a : Act} {w : World} {K : Act → World → Prop} {Q : Exit → Act → World → Prop} (t : TypeId) (x : Operand) (ho : o.op = .box t x) (cs : Array Value) (hx : a.eval x = .agg cs)
    (h : ∀ g w', g = w.heap.size → w'.heap.size = g + 1 → Below w.heap.size w w' → Blk w' g cs t → K (a.put o.dst (.pointer (some ⟨g, 0, none⟩))) w') : o.wp P a w K Q := by
  unfold Oper.wp execOp
  simp [ho, hx, newVar, newRow, Value.cells, Result.andThen]
  exact h _ _ rfl (by simp) (below_alloc1 _ _) (Blk.new _ _ _)
set_option maxHeartbeats 4000000 in
set_option maxRecDepth 100000 in
theorem Copy_calls (r B : Nat) (l : List Sd) (w : World) (h : RowAt w r B l) (hn : l.length ≤ 1000000) :
    Calls Try.prog 37 #[.pointer (some ⟨r, 0, none⟩)] w fun e w' => ∃ r', e = .returned (.pointer (some ⟨r', 0, none⟩)) ∧ w.heap.size ≤ r' ∧ RowAt w' r' B l ∧ Below w.heap.size w w' := by
  obtain ⟨v, h1, h2⟩ := h
  have H1 := Lib.hid h1
  have H2 := Lib.hid h2
  obtain ⟨ao, c, rfl, hc⟩ := h2.slice
  have hb0 := Below.refl w.heap.size w
  clear h1 h2
  go_enter Try.func37, Try.ntmps37
  go_wp2_with fail
  refine wp_region_held_drew (S := fun x => Blk x (r) #[.int .i64 B, .slice ao l.length c] 141 ∧ SeedsAt x (.slice ao l.length c) l ∧ Below w.heap.size w x) (by kernel_rfl) ⟨H1.out.drew, H2.out.below (below_drewN (Below.refl _ _) 1), below_drewN hb0 1⟩ (fun hSq1 => ?_)
  refine wpAnyH_take (i := 0) (v := .pointer (some ⟨r, 0, none⟩)) rfl (by kernel_rfl) (by kernel_rfl) (by kernel_rfl) (fun _ _ _ h => h) (Or.inl ⟨by rfl, fun x hx => by go_simp⟩) hSq1 ?_
  simp only [Act.put, List.getElem_toArray, List.getElem_cons_zero, List.getElem_cons_succ, List.setIfInBounds_toArray, List.set_cons_zero, List.set_cons_succ]
  refine wpAnyH_take (i := 1) (v := .pointer (some ⟨r, 0, none⟩)) rfl (by kernel_rfl) (by kernel_rfl) (by kernel_rfl) (fun _ _ _ h => h) (Or.inl ⟨by rfl, fun x hx => by go_simp⟩) hSq1 ?_
  simp only [Act.put, List.getElem_toArray, List.getElem_cons_zero, List.getElem_cons_succ, List.setIfInBounds_toArray, List.set_cons_zero, List.set_cons_succ]
  refine wpAnyH_take (i := 2) (v := .pointer (some ⟨r, 0, none⟩)) rfl (by kernel_rfl) (by kernel_rfl) (by kernel_rfl) (fun _ _ _ h => h) (Or.inl ⟨by rfl, fun x hx => by go_simp⟩) hSq1 ?_
  simp only [Act.put, List.getElem_toArray, List.getElem_cons_zero, List.getElem_cons_succ, List.setIfInBounds_toArray, List.set_cons_zero, List.set_cons_succ]
  refine wpAnyH_take (i := 3) (v := .int .i64 B) rfl (by kernel_rfl) (by kernel_rfl) (by kernel_rfl) (fun _ _ _ h => h) (Or.inl ⟨by rfl, fun x hx => by have hc := hx.1.cell 0 _ rfl; go_simp⟩) hSq1 ?_
  simp only [Act.put, List.getElem_toArray, List.getElem_cons_zero, List.getElem_cons_succ, List.setIfInBounds_toArray, List.set_cons_zero, List.set_cons_succ]
  refine wpAnyH_take (i := 4) (v := .pointer (some ⟨r, 0, none⟩)) rfl (by kernel_rfl) (by kernel_rfl) (by kernel_rfl) (fun _ _ _ h => h) (Or.inl ⟨by rfl, fun x hx => by go_simp⟩) hSq1 ?_
  simp only [Act.put, List.getElem_toArray, List.getElem_cons_zero, List.getElem_cons_succ, List.setIfInBounds_toArray, List.set_cons_zero, List.set_cons_succ]
  refine wpAnyH_take (i := 5) (v := .pointer (some ⟨r, 0, none⟩)) rfl (by kernel_rfl) (by kernel_rfl) (by kernel_rfl) (fun _ _ _ h => h) (Or.inl ⟨by rfl, fun x hx => by go_simp⟩) hSq1 ?_
  simp only [Act.put, List.getElem_toArray, List.getElem_cons_zero, List.getElem_cons_succ, List.setIfInBounds_toArray, List.set_cons_zero, List.set_cons_succ]
  refine wpAnyH_take (i := 6) (v := .pointer (some ⟨r, 1, none⟩)) rfl (by kernel_rfl) (by kernel_rfl) (by kernel_rfl) (fun _ _ _ h => h) (Or.inl ⟨by rfl, fun x hx => by go_simp⟩) hSq1 ?_
  simp only [Act.put, List.getElem_toArray, List.getElem_cons_zero, List.getElem_cons_succ, List.setIfInBounds_toArray, List.set_cons_zero, List.set_cons_succ]
  refine wpAnyH_take (i := 7) (v := .slice ao l.length c) rfl (by kernel_rfl) (by kernel_rfl) (by kernel_rfl) (fun _ _ _ h => h) (Or.inl ⟨by rfl, fun x hx => by have hc := hx.1.cell 1 _ rfl; go_simp⟩) hSq1 ?_
  simp only [Act.put, List.getElem_toArray, List.getElem_cons_zero, List.getElem_cons_succ, List.setIfInBounds_toArray, List.set_cons_zero, List.set_cons_succ]
  refine wpAnyH_ready (rs := [8]) (by kernel_rfl) (by simp) ?_
  refine AllReadyH.cons rfl (fun K hK => ?_) AllReadyH.nil
  go_simp
  go_wp2_with (go_at_call 101; refine (Clone_calls _ l _ hSq1.2.1 hn).mono ?_; rintro e yq2 ⟨v2, rfl, hv2, bq3⟩; obtain ⟨ao2, c2, rfl, hc2⟩ := hv2.slice; have HV2 := Lib.hid hv2; clear hv2)
  refine hK.out _ _ ⟨hSq1.1.below bq3 hSq1.1.lt, hSq1.2.1.below bq3, hSq1.2.2.trans (bq3.mono hSq1.2.2.size)⟩ (fun hSq4 => ?_)
  clear hK K hSq1 bq3
  refine wpAnyH_take (i := 9) rfl (by kernel_rfl) (by kernel_rfl) (by kernel_rfl) (fun _ _ _ h => h) (yieldsIf_build (by rfl) 141 #[(0, .tmp 8), (1, .tmp 13)] rfl #[.int .i64 B, .slice ao2 l.length c2] (by kernel_rfl)) hSq4 ?_
  simp only [Act.put, List.getElem_toArray, List.getElem_cons_zero, List.getElem_cons_succ, List.setIfInBounds_toArray, List.set_cons_zero, List.set_cons_succ]
  refine wpAnyH_ready (rs := [10]) (by kernel_rfl) (by simp) ?_
  refine AllReadyH.cons rfl (fun K hK => ?_) AllReadyH.nil
  rw [if_pos (by rfl)]
  refine wp_boxZ 141 (.tmp 14) rfl #[.int .i64 B, .slice ao2 l.length c2] (by rfl) ?_
  intro gq8 yq6 egq9 ezq10 bq5 hEq7
  have lgq11 : w.heap.size ≤ gq8 := by rw [egq9]; exact hSq4.2.2.size
  have lbq12 : r < gq8 := by rw [egq9]; exact hSq4.1.lt
  have hHq13 := Lib.hid (HV2.out.below bq5)
  refine hK.out _ _ ⟨hSq4.1.below bq5 hSq4.1.lt, hSq4.2.1.below bq5, hSq4.2.2.trans (bq5.mono hSq4.2.2.size)⟩ (fun hSq14 => ?_)
  clear hK K hSq4 bq5 egq9 ezq10
  refine wpAnyH_ready (rs := [11]) (by kernel_rfl) (by simp) ?_
  refine AllReadyH.cons rfl (fun K hK => ?_) AllReadyH.nil
  go_simp
  refine hK.out _ _ hSq14 (fun hSq15 => ?_)
  clear hK K hSq14
  refine wpAnyH_done (by kernel_rfl) ?_ _
  have hZ := hEq7
  have hBz := hSq15.2.2
  go_wp2_with fail
  go_returns
  exact ⟨_, rfl, lgq11, ⟨_, hZ, hHq13.out⟩, hBz⟩
end Go.Proofs.Ytnfegmcdljejnaa
