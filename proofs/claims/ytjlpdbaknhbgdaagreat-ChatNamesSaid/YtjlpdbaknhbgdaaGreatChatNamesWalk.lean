/-
  The statement ChatNames.
-/
import Derived.Test.YtjlpdbaknhbgdaaGreatAwake14
import Derived.Test.YtjlpdbaknhbgdaaGreatQChat
import Derived.WalkLawsBesides
import Derived.Deep.RegionHeld
import Derived.Outline
import Derived.Handy
set_option linter.unusedSimpArgs false
set_option linter.unusedVariables false
namespace Go.Proofs.YtjlpdbaknhbgdaaGreat
open Go.RowKit

theorem i64_wf {n : Int} (h : (Lit.int .i64 n).wf = true) : -9223372036854775808 ≤ n ∧ n ≤ 9223372036854775807 := by
  simpa [Lit.wf, IntKind.min, IntKind.max, IntKind.signed, IntKind.bits] using h
set_option maxHeartbeats 4000000 in
set_option maxRecDepth 100000 in
theorem walkChatNames (h : List UInt8) (hh : h.length = 32) (a : Int) (ha : (Lit.int .i64 a).wf = true) (g : Int) (hg : (Lit.int .i64 g).wf = true) (w : World) :
    Calls Tryz.prog 8 #[.agg (h.map bv).toArray, .int .i64 a, .int .i64 g] w fun e w' => e = .returned (.bool true) ∧ Below w.heap.size w w' := by
  obtain ⟨N, hN⟩ : ∃ N, N = w.heap.size := ⟨_, rfl⟩
  have HN : Hid (N = w.heap.size) := hN
  have HH : Hid (h.length = 32) := hh
  have ba := i64_wf ha
  have bg := i64_wf hg
  have hA0 : Blk (w.alloc (.cells (h.map bv).toArray 23)) N (h.map bv).toArray 23 := by rw [hN]; exact Blk.new _ _ _
  have hb0 : Below N w (w.alloc (.cells (h.map bv).toArray 23)) := by rw [hN]; exact below_alloc1 _ _
  have c1 : ∀ y, Calls Tryz.prog 35 #[.agg (h.map bv).toArray, .int .i64 a, .int .i64 g] y fun e w' => e = .returned (.string (str (nameT h a g))) ∧ Below y.heap.size y w' := fun y => Name_calls h a g y hh ba.1 ba.2 bg.1 bg.2
  have c2 : ∀ y, Calls Tryz.prog 36 #[.agg (h.map bv).toArray, .int .i64 a, .int .i64 g] y fun e w' => e = .returned (.string (str (nameT h a g))) ∧ Below y.heap.size y w' := fun y => RName_calls h a g y hh ba.1 ba.2 bg.1 bg.2
  generalize nameT h a g = X at c1 c2
  clear hh ha hg ba bg
  rw [← hN]
  go_enter Tryz.func8, Tryz.ntmps8
  go_upto_region 1 with (fail)
  rw [← hN]
  obtain ⟨w0, hw0⟩ : ∃ z, z = w.alloc (.cells (h.map bv).toArray 23) := ⟨_, rfl⟩
  rw [← hw0] at hA0 hb0 ⊢
  clear hw0 hN
  refine wp_region_held_drew (S := fun x => Blk x (N) (h.map bv).toArray 23 ∧ Below N w x) (by kernel_rfl) ⟨hA0.drew, below_drewN hb0 1⟩ (fun hSq1 => ?_)
  refine wpAnyH_ready (rs := [0]) (by kernel_rfl) (by simp) ?_
  refine AllReadyH.cons rfl (fun K hK => ?_) AllReadyH.nil
  go_simp
  go_wp2_with (go_at_call 31; refine (awake14_calls _).mono ?_; rintro e yq2 ⟨rfl, bq3⟩)
  refine hK.out _ _ ⟨hSq1.1.below bq3 hSq1.1.lt, hSq1.2.trans (bq3.mono (Nat.le_trans (Nat.le_of_eq HN.out) hSq1.2.size))⟩ (fun hSq4 => ?_)
  clear hK K hSq1 bq3
  refine wpAnyH_take (i := 1) (v := .bool true) rfl (by kernel_rfl) (by kernel_rfl) (by kernel_rfl) (fun _ _ _ h => h) (Or.inl ⟨by rfl, fun x hx => by go_simp⟩) hSq4 ?_
  simp only [Act.put, List.getElem_toArray, List.getElem_cons_zero, List.getElem_cons_succ, List.setIfInBounds_toArray, List.set_cons_zero, List.set_cons_succ]
  refine wpAnyH_take (i := 2) rfl (by kernel_rfl) (by kernel_rfl) (by kernel_rfl) (fun _ _ _ h => h) (yieldsIf_load_mid (by rfl) 23 (.tmp 3) rfl (N) (0) (by rfl) ((h.map bv)) _ (fun x hx => blk_rangeP hx.1) Tryz.underlying23 rfl (by rw [List.length_map, HH.out]; exact Tryz.sizeHash)) hSq4 ?_
  simp only [Act.put, List.getElem_toArray, List.getElem_cons_zero, List.getElem_cons_succ, List.setIfInBounds_toArray, List.set_cons_zero, List.set_cons_succ]
  refine wpAnyH_take (i := 3) (v := .int .i64 a) rfl (by kernel_rfl) (by kernel_rfl) (by kernel_rfl) (fun _ _ _ h => h) (Or.inl ⟨by rfl, fun x hx => by go_simp⟩) hSq4 ?_
  simp only [Act.put, List.getElem_toArray, List.getElem_cons_zero, List.getElem_cons_succ, List.setIfInBounds_toArray, List.set_cons_zero, List.set_cons_succ]
  refine wpAnyH_take (i := 4) (v := .int .i64 g) rfl (by kernel_rfl) (by kernel_rfl) (by kernel_rfl) (fun _ _ _ h => h) (Or.inl ⟨by rfl, fun x hx => by go_simp⟩) hSq4 ?_
  simp only [Act.put, List.getElem_toArray, List.getElem_cons_zero, List.getElem_cons_succ, List.setIfInBounds_toArray, List.set_cons_zero, List.set_cons_succ]
  refine wpAnyH_take (i := 6) rfl (by kernel_rfl) (by kernel_rfl) (by kernel_rfl) (fun _ _ _ h => h) (yieldsIf_load_mid (by rfl) 23 (.tmp 3) rfl (N) (0) (by rfl) ((h.map bv)) _ (fun x hx => blk_rangeP hx.1) Tryz.underlying23 rfl (by rw [List.length_map, HH.out]; exact Tryz.sizeHash)) hSq4 ?_
  simp only [Act.put, List.getElem_toArray, List.getElem_cons_zero, List.getElem_cons_succ, List.setIfInBounds_toArray, List.set_cons_zero, List.set_cons_succ]
  refine wpAnyH_take (i := 7) (v := .int .i64 a) rfl (by kernel_rfl) (by kernel_rfl) (by kernel_rfl) (fun _ _ _ h => h) (Or.inl ⟨by rfl, fun x hx => by go_simp⟩) hSq4 ?_
  simp only [Act.put, List.getElem_toArray, List.getElem_cons_zero, List.getElem_cons_succ, List.setIfInBounds_toArray, List.set_cons_zero, List.set_cons_succ]
  refine wpAnyH_take (i := 8) (v := .int .i64 g) rfl (by kernel_rfl) (by kernel_rfl) (by kernel_rfl) (fun _ _ _ h => h) (Or.inl ⟨by rfl, fun x hx => by go_simp⟩) hSq4 ?_
  simp only [Act.put, List.getElem_toArray, List.getElem_cons_zero, List.getElem_cons_succ, List.setIfInBounds_toArray, List.set_cons_zero, List.set_cons_succ]
  refine wpAnyH_ready (rs := [5]) (by kernel_rfl) (by simp) ?_
  refine AllReadyH.cons rfl (fun K hK => ?_) AllReadyH.nil
  go_simp
  go_wp2_with (go_at_call 35; refine (c1 _).mono ?_; rintro e yq5 ⟨rfl, bq6⟩)
  refine hK.out _ _ ⟨hSq4.1.below bq6 hSq4.1.lt, hSq4.2.trans (bq6.mono (Nat.le_trans (Nat.le_of_eq HN.out) hSq4.2.size))⟩ (fun hSq7 => ?_)
  clear hK K hSq4 bq6
  refine wpAnyH_ready (rs := [9]) (by kernel_rfl) (by simp) ?_
  refine AllReadyH.cons rfl (fun K hK => ?_) AllReadyH.nil
  go_simp
  go_wp2_with (go_at_call 36; refine (c2 _).mono ?_; rintro e yq8 ⟨rfl, bq9⟩)
  refine hK.out _ _ ⟨hSq7.1.below bq9 hSq7.1.lt, hSq7.2.trans (bq9.mono (Nat.le_trans (Nat.le_of_eq HN.out) hSq7.2.size))⟩ (fun hSq10 => ?_)
  clear hK K hSq7 bq9
  refine wpAnyH_take (i := 10) (v := .bool true) rfl (by kernel_rfl) (by kernel_rfl) (by kernel_rfl) (fun _ _ _ h => h) (Or.inl ⟨by rfl, fun x hx => by go_simp⟩) hSq10 ?_
  simp only [Act.put, List.getElem_toArray, List.getElem_cons_zero, List.getElem_cons_succ, List.setIfInBounds_toArray, List.set_cons_zero, List.set_cons_succ]
  refine wpAnyH_take (i := 11) (v := .bool true) rfl (by kernel_rfl) (by kernel_rfl) (by kernel_rfl) (fun _ _ _ h => h) (Or.inl ⟨by rfl, fun x hx => by go_simp⟩) hSq10 ?_
  simp only [Act.put, List.getElem_toArray, List.getElem_cons_zero, List.getElem_cons_succ, List.setIfInBounds_toArray, List.set_cons_zero, List.set_cons_succ]
  refine wpAnyH_ready (rs := [12]) (by kernel_rfl) (by simp) ?_
  refine AllReadyH.cons rfl (fun K hK => ?_) AllReadyH.nil
  go_simp
  refine hK.out _ _ hSq10 (fun hSq11 => ?_)
  clear hK K hSq10
  refine wpAnyH_done (by kernel_rfl) ?_ _
  have hB9 := hSq11.2
  clear hSq11
  go_wp2_with fail
  go_returns
  exact ⟨rfl, hB9⟩
end Go.Proofs.YtjlpdbaknhbgdaaGreat
