/-
  dag.Store.Floor.
-/
import Derived.Test.YtodnmhflafpefaaDagHead
import Derived.WalkLawsBesides
import Derived.Laws.ResultCell
import Derived.Deep.LoopGhost
import Derived.Deep.RegionHeld
import Derived.Outline
import Derived.Handy
set_option linter.unusedSimpArgs false
set_option linter.unusedVariables false
namespace Go.Proofs.Ytodnmhflafpefaa
open Go.RowKit

/-- What Floor answers. -/
def FloorRes (L : List Vx) (keep : Int) (e : Ending) : Prop := (L = [] ∧ e = .returned (.int .i64 0)) ∨ ∃ v, HeadIs L v ∧ e = .returned (.int .i64 (max (v.d - keep) 0))
set_option maxHeartbeats 8000000 in
set_option maxRecDepth 100000 in
theorem Floor_calls (sp mb : Nat) (keep : Int) (L : List Vx) (w : World) (h : StoreIs w sp mb keep L) (hn : L.length ≤ 1000) (hk : 1 ≤ keep ∧ keep ≤ 64) :
    Calls Try.prog 10 #[.pointer (some ⟨sp, 0, none⟩)] w fun e w' => FloorRes L keep e ∧ Below w.heap.size w w' := by
  have cH := Head_calls sp mb keep L w h hn
  have HS := Lib.hid h
  unfold HeadRes at cH
  obtain ⟨hk1, hk2⟩ := hk
  clear h
  go_enter Try.func10, Try.ntmps10
  go_wp2_with fail
  refine cH.mono ?_
  rintro e w1 ⟨⟨hL, rfl⟩ | ⟨v, hh, rfl⟩, b1⟩
  · have HL := Lib.hid hL
    clear hL cH
    go_wp2_with (first | ((with_reducible show wpList _ _ _ (⟨some 3, _, _, _, _, _⟩ :: _) _ _); refine wpList_allocZ rfl 35 rfl _ Try.zeroVx ?_; intro wa sa ba na; clear sa) | ((with_reducible show wpList _ _ _ (⟨none, Op.store _ (.tmp 3) _, _, _, _, _⟩ :: _) _ _); refine wpList_storeBlk rfl 35 (.tmp 3) (.tmp 8) rfl w1.heap.size vz.cells.toArray (by rfl) (by rfl) _ _ na (vx_sizeA vz) (vx_hold _ _) (vx_all vz) ?_; intro w5 n5 g5; have bb := below_new ba g5 (Nat.le_refl _) ba.size; have hB5 := b1.trans (bb.mono b1.size); clear bb ba na g5))
    go_returns
    exact ⟨.inl ⟨HL.out, rfl⟩, hB5⟩
  · have HH := Lib.hid hh
    obtain ⟨hd1, hd2⟩ := v.hd
    have hs1 := HS.out.blk.below b1 HS.out.blk.lt
    obtain ⟨A3, hA3⟩ : ∃ a, a = w1.heap.size := ⟨_, rfl⟩
    have HA3 := Lib.hid hA3
    clear hh cH hA3
    go_wp2_with (first | ((with_reducible show wpList _ _ _ (⟨some 3, _, _, _, _, _⟩ :: _) _ _); refine wpList_allocZ rfl 35 rfl _ Try.zeroVx ?_; intro wa sa ba na; rw [← HA3.out] at na ⊢; clear sa) | ((with_reducible show wpList _ _ _ (⟨none, Op.store _ (.tmp 3) _, _, _, _, _⟩ :: _) _ _); refine wpList_storeBlk rfl 35 (.tmp 3) (.tmp 8) rfl A3 v.cells.toArray (by rfl) (by rfl) _ _ na (vx_sizeA v) (vx_hold _ _) (vx_all v) ?_; intro w5 hv5 g5; have bb := below_new ba g5 (Nat.le_of_eq HA3.out.symm) ba.size; have hB5 := b1.trans (bb.mono b1.size); have hs5 := hs1.below bb hs1.lt; clear bb ba na g5 b1 hs1))
    have hw6 : IntKind.i64.wrap (v.d - keep) = v.d - keep := IntWalk.i64_in _ (by omega)
    refine wp_region_held_drew (S := fun x => Blk x (A3) v.cells.toArray 35 ∧ Blk x (sp) #[.int .i64 keep, .map (some mb)] 48 ∧ Below w.heap.size w x) (by kernel_rfl) ⟨hv5.drew, hs5.drew, below_drewN hB5 1⟩ (fun hSq1 => ?_)
    refine wpAnyH_take (i := 0) (v := .pointer (some ⟨A3, 64, none⟩)) rfl (by kernel_rfl) (by kernel_rfl) (by kernel_rfl) (fun _ _ _ h => h) (Or.inl ⟨by rfl, fun x hx => by go_simp⟩) hSq1 ?_
    simp only [Act.put, List.getElem_toArray, List.getElem_cons_zero, List.getElem_cons_succ, List.setIfInBounds_toArray, List.set_cons_zero, List.set_cons_succ]
    refine wpAnyH_take (i := 1) (v := .int .i64 v.d) rfl (by kernel_rfl) (by kernel_rfl) (by kernel_rfl) (fun _ _ _ h => h) (Or.inl ⟨by rfl, fun x hx => by have hc := vx_d (blk_rangeP hx.1); rw [Nat.zero_add] at hc; go_simp⟩) hSq1 ?_
    simp only [Act.put, List.getElem_toArray, List.getElem_cons_zero, List.getElem_cons_succ, List.setIfInBounds_toArray, List.set_cons_zero, List.set_cons_succ]
    refine wpAnyH_take (i := 2) (v := .pointer (some ⟨sp, 0, none⟩)) rfl (by kernel_rfl) (by kernel_rfl) (by kernel_rfl) (fun _ _ _ h => h) (Or.inl ⟨by rfl, fun x hx => by go_simp⟩) hSq1 ?_
    simp only [Act.put, List.getElem_toArray, List.getElem_cons_zero, List.getElem_cons_succ, List.setIfInBounds_toArray, List.set_cons_zero, List.set_cons_succ]
    refine wpAnyH_take (i := 3) (v := .pointer (some ⟨sp, 0, none⟩)) rfl (by kernel_rfl) (by kernel_rfl) (by kernel_rfl) (fun _ _ _ h => h) (Or.inl ⟨by rfl, fun x hx => by go_simp⟩) hSq1 ?_
    simp only [Act.put, List.getElem_toArray, List.getElem_cons_zero, List.getElem_cons_succ, List.setIfInBounds_toArray, List.set_cons_zero, List.set_cons_succ]
    refine wpAnyH_take (i := 4) (v := .pointer (some ⟨sp, 0, none⟩)) rfl (by kernel_rfl) (by kernel_rfl) (by kernel_rfl) (fun _ _ _ h => h) (Or.inl ⟨by rfl, fun x hx => by go_simp⟩) hSq1 ?_
    simp only [Act.put, List.getElem_toArray, List.getElem_cons_zero, List.getElem_cons_succ, List.setIfInBounds_toArray, List.set_cons_zero, List.set_cons_succ]
    refine wpAnyH_take (i := 5) (v := .int .i64 keep) rfl (by kernel_rfl) (by kernel_rfl) (by kernel_rfl) (fun _ _ _ h => h) (Or.inl ⟨by rfl, fun x hx => by have hc := hx.2.1.cell 0 _ rfl; go_simp⟩) hSq1 ?_
    simp only [Act.put, List.getElem_toArray, List.getElem_cons_zero, List.getElem_cons_succ, List.setIfInBounds_toArray, List.set_cons_zero, List.set_cons_succ]
    refine wpAnyH_take (i := 6) (v := .int .i64 (v.d - keep)) rfl (by kernel_rfl) (by kernel_rfl) (by kernel_rfl) (fun _ _ _ h => h) (Or.inl ⟨by rfl, fun x hx => by go_simp⟩) hSq1 ?_
    simp only [Act.put, List.getElem_toArray, List.getElem_cons_zero, List.getElem_cons_succ, List.setIfInBounds_toArray, List.set_cons_zero, List.set_cons_succ]
    refine wpAnyH_take (i := 7) (v := .int .i64 (max (v.d - keep) 0)) rfl (by kernel_rfl) (by kernel_rfl) (by kernel_rfl) (fun _ _ _ h => h) (Or.inl ⟨by rfl, fun x hx => by go_simp⟩) hSq1 ?_
    simp only [Act.put, List.getElem_toArray, List.getElem_cons_zero, List.getElem_cons_succ, List.setIfInBounds_toArray, List.set_cons_zero, List.set_cons_succ]
    refine wpAnyH_ready (rs := [8]) (by kernel_rfl) (by simp) ?_
    refine AllReadyH.cons rfl (fun K hK => ?_) AllReadyH.nil
    go_simp
    refine hK.out _ _ hSq1 (fun hSq2 => ?_)
    clear hK K hSq1
    refine wpAnyH_done (by kernel_rfl) ?_ _
    have hB9 := hSq2.2.2
    clear hSq2
    go_wp2_with fail
    go_returns
    exact ⟨.inr ⟨v, HH.out, rfl⟩, hB9⟩
end Go.Proofs.Ytodnmhflafpefaa
