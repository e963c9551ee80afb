/-
  dag.Store.Get.
-/
import Derived.Test.YtodnmhflafpefaaDagLen
import Derived.WalkLawsBesides
import Derived.Laws.ResultCell
import Derived.Deep.LoopGhost
import Derived.Deep.RegionHeld
import Derived.Outline
import Derived.Handy
set_option linter.unusedSimpArgs false
set_option linter.unusedVariables false
namespace Go.Proofs.Ytodnmhflafpefaa
open Go.RowKit

theorem yieldsIf_lookT {P : Program} {k : TypeId} {ok : List UInt8 → Prop} {enc : List UInt8 → Value} {ops : Array Oper} {S : World → Prop} {o : Oper} {a : Act} (hw : Region.wanted o (yielded ops a.tmps) = true) (mk : MKey P k ok enc) (m x : Operand) (t e : TypeId) (ho : o.op = .lookup t m x true) (ht : P.underlying t = some (.map k e)) (z : Value) (hz : ∀ w, (zeroValue e).run P w = .ok z w) (b n : Nat) (look : List UInt8 → Option Value)
    (hm : a.eval m = .map (some b)) (hS : ∀ w, S w → MapIs ok enc w b n look) (y : List UInt8) (hy : ok y) (hx : a.eval x = enc y) (u : Value) (hu : (look y).getD z = u) (c : Bool) (hc : (look y).isSome = c) : YieldsIf P ops S o (.tuple #[u, .bool c]) a :=
  .inl ⟨hw, fun w hw' => by
    have hr := (hS w hw').look mk ht (hz w) y hy true
    subst hu hc
    unfold execOp
    simp only [ho, hm, hx, Sem.run_bind, Sem.run_pure, hr, Result.andThen_ok, if_true]⟩
theorem Try.zeroVxV (w : World) : (zeroValue 35).run Try.prog w = .ok (.agg vz.cells.toArray) w := by kernel_rfl
set_option maxHeartbeats 8000000 in
set_option maxRecDepth 100000 in
theorem Get_calls (sp mb : Nat) (keep : Int) (L : List Vx) (h : List UInt8) (v : Vx) (c : Bool) (w : World) (hs : StoreIs w sp mb keep L) (hh : h.length = 32) (hu : (lookV L h).getD (.agg vz.cells.toArray) = .agg v.cells.toArray) (hc : (lookV L h).isSome = c) :
    Calls Try.prog 12 #[.pointer (some ⟨sp, 0, none⟩), .agg (h.map bv).toArray] w fun e w' => e = .returned (.tuple #[.agg v.cells.toArray, .bool c]) ∧ Below w.heap.size w w' := by
  have HH := Lib.hid hh
  have HU := Lib.hid hu
  have HC := Lib.hid hc
  obtain ⟨hs1, hm1, -⟩ := hs
  clear hu hc hh
  obtain ⟨base, hbase⟩ : ∃ base, base = w.heap.size := ⟨_, rfl⟩
  rw [← hbase]
  have HBS := Lib.hid hbase
  have hA31 : Blk (w.alloc (.cells (h.map bv).toArray 32)) base (h.map bv).toArray 32 := by rw [hbase]; exact Blk.new _ _ _
  have hb1 : Below w.heap.size w (w.alloc (.cells (h.map bv).toArray 32)) := below_alloc1 _ _
  have hs2 := hs1.below hb1 hs1.lt
  have hm2 := hm1.below hb1
  have hsz : (w.alloc (.cells (h.map bv).toArray 32)).heap.size = base + 1 := by rw [hbase]; simp
  rw [← hbase] at hb1
  clear hs1 hm1 hbase
  go_enter Try.func12, Try.ntmps12
  go_wp2_with ((with_reducible show wpList _ _ _ (⟨some 4, _, _, _, _, _⟩ :: _) _ _); refine wpList_allocZ rfl 35 rfl _ Try.zeroVx ?_; intro w5 s5 b5 n5; have hs5 := hs2.below b5 hs2.lt; have hm5 := hm2.below b5; have hA35 := hA31.below b5 hA31.lt; have hB5 := hb1.trans (b5.mono (by rw [hsz]; omega)); rw [hsz] at n5 ⊢; rw [← HBS.out]; clear s5 b5)
  have hA4n : base ≤ base + 1 := by omega
  have hA45 := n5
  refine wp_region_held_drew (S := fun x => Blk x (sp) #[.int .i64 keep, .map (some mb)] 48 ∧ Blk x (base) (h.map bv).toArray 32 ∧ Blk x (base + 1) vz.cells.toArray 35 ∧ MapIs hashOk hashEnc x mb L.length (lookV L) ∧ Below base w x) (by kernel_rfl) ⟨hs5.drew, hA35.drew, hA45.drew, hm5.below (below_drewN (Below.refl _ _) 1), below_drewN hB5 1⟩ (fun hSq1 => ?_)
  refine wpAnyH_take (i := 0) (v := .pointer (some ⟨sp, 0, none⟩)) rfl (by kernel_rfl) (by kernel_rfl) (by kernel_rfl) (fun _ _ _ h => h) (Or.inl ⟨by rfl, fun x hx => by go_simp⟩) hSq1 ?_
  simp only [Act.put, List.getElem_toArray, List.getElem_cons_zero, List.getElem_cons_succ, List.setIfInBounds_toArray, List.set_cons_zero, List.set_cons_succ]
  refine wpAnyH_take (i := 1) (v := .pointer (some ⟨sp, 0, none⟩)) rfl (by kernel_rfl) (by kernel_rfl) (by kernel_rfl) (fun _ _ _ h => h) (Or.inl ⟨by rfl, fun x hx => by go_simp⟩) hSq1 ?_
  simp only [Act.put, List.getElem_toArray, List.getElem_cons_zero, List.getElem_cons_succ, List.setIfInBounds_toArray, List.set_cons_zero, List.set_cons_succ]
  refine wpAnyH_take (i := 2) (v := .pointer (some ⟨sp, 1, none⟩)) rfl (by kernel_rfl) (by kernel_rfl) (by kernel_rfl) (fun _ _ _ h => h) (Or.inl ⟨by rfl, fun x hx => by go_simp⟩) hSq1 ?_
  simp only [Act.put, List.getElem_toArray, List.getElem_cons_zero, List.getElem_cons_succ, List.setIfInBounds_toArray, List.set_cons_zero, List.set_cons_succ]
  refine wpAnyH_take (i := 3) (v := .map (some mb)) rfl (by kernel_rfl) (by kernel_rfl) (by kernel_rfl) (fun _ _ _ h => h) (Or.inl ⟨by rfl, fun x hx => by have hc := hx.1.cell 1 _ rfl; go_simp⟩) hSq1 ?_
  simp only [Act.put, List.getElem_toArray, List.getElem_cons_zero, List.getElem_cons_succ, List.setIfInBounds_toArray, List.set_cons_zero, List.set_cons_succ]
  refine wpAnyH_take (i := 4) rfl (by kernel_rfl) (by kernel_rfl) (by kernel_rfl) (fun _ _ _ h => h) (yieldsIf_load_mid (by rfl) 32 (.tmp 3) rfl (base) 0 (by rfl) (h.map bv) _ (fun x hx => blk_rangeP hx.2.1) Try.underlying32 rfl (by rw [List.length_map, HH.out]; exact Try.sizeHash)) hSq1 ?_
  simp only [Act.put, List.getElem_toArray, List.getElem_cons_zero, List.getElem_cons_succ, List.setIfInBounds_toArray, List.set_cons_zero, List.set_cons_succ]
  refine wpAnyH_take (i := 5) rfl (by kernel_rfl) (by kernel_rfl) (by kernel_rfl) (fun _ _ _ h => h) (yieldsIf_lookT (by rfl) Try.hashKey (.tmp 15) (.tmp 16) 46 35 rfl Try.underlying46 (.agg vz.cells.toArray) Try.zeroVxV mb L.length (lookV L) (by rfl) (fun x hx => hx.2.2.2.1) h HH.out (by rfl) (.agg v.cells.toArray) HU.out c HC.out) hSq1 ?_
  simp only [Act.put, List.getElem_toArray, List.getElem_cons_zero, List.getElem_cons_succ, List.setIfInBounds_toArray, List.set_cons_zero, List.set_cons_succ]
  refine wpAnyH_take (i := 6) (v := .tuple #[.agg v.cells.toArray, .bool c]) rfl (by kernel_rfl) (by kernel_rfl) (by kernel_rfl) (fun _ _ _ h => h) (Or.inl ⟨by rfl, fun x hx => by go_simp⟩) hSq1 ?_
  simp only [Act.put, List.getElem_toArray, List.getElem_cons_zero, List.getElem_cons_succ, List.setIfInBounds_toArray, List.set_cons_zero, List.set_cons_succ]
  refine wpAnyH_take (i := 7) (v := .agg v.cells.toArray) rfl (by kernel_rfl) (by kernel_rfl) (by kernel_rfl) (fun _ _ _ h => h) (Or.inl ⟨by rfl, fun x hx => by go_simp⟩) hSq1 ?_
  simp only [Act.put, List.getElem_toArray, List.getElem_cons_zero, List.getElem_cons_succ, List.setIfInBounds_toArray, List.set_cons_zero, List.set_cons_succ]
  refine wpAnyH_take (i := 8) (v := .bool c) rfl (by kernel_rfl) (by kernel_rfl) (by kernel_rfl) (fun _ _ _ h => h) (Or.inl ⟨by rfl, fun x hx => by go_simp⟩) hSq1 ?_
  simp only [Act.put, List.getElem_toArray, List.getElem_cons_zero, List.getElem_cons_succ, List.setIfInBounds_toArray, List.set_cons_zero, List.set_cons_succ]
  refine wpAnyH_ready (rs := [9]) (by kernel_rfl) (by simp) ?_
  refine AllReadyH.cons rfl (fun K hK => ?_) AllReadyH.nil
  rw [if_pos (by rfl)]
  refine wp_allocZ 35 rfl _ Try.zeroVx ?_
  intro gq5 yq3 egq6 ezq7 bq2 hEq4
  have lgq8 : base ≤ gq5 := by rw [egq6]; exact Nat.le_trans (Nat.le_of_eq HBS.out) hSq1.2.2.2.2.size
  have lbq9 : sp < gq5 := by rw [egq6]; exact hSq1.1.lt
  have lbq10 : base < gq5 := by rw [egq6]; exact hSq1.2.1.lt
  have lbq11 : base + 1 < gq5 := by rw [egq6]; exact hSq1.2.2.1.lt
  have lbq12 : mb < gq5 := by rw [egq6]; exact hSq1.2.2.2.1.lt
  refine hK.out _ _ ⟨hSq1.1.below bq2 hSq1.1.lt, hSq1.2.1.below bq2 hSq1.2.1.lt, hSq1.2.2.1.below bq2 hSq1.2.2.1.lt, hSq1.2.2.2.1.below bq2, hSq1.2.2.2.2.trans (bq2.mono (Nat.le_trans (Nat.le_of_eq HBS.out) hSq1.2.2.2.2.size))⟩ (fun hSq13 => ?_)
  clear hK K hSq1 bq2 egq6 ezq7
  refine wpAnyH_ready (rs := [10]) (by kernel_rfl) (by simp) ?_
  refine AllReadyH.cons rfl (fun K hK => ?_) AllReadyH.nil
  rw [if_pos (by rfl)]
  refine wp_storeBlk 35 (.tmp 6) (.tmp 18) rfl gq5 v.cells.toArray (by rfl) (by rfl) _ _ hEq4 (vx_sizeA v) (vx_hold _ _) (vx_all v) ?_
  intro yq14 hEq15 grq16
  refine hK.out _ _ ⟨hSq13.1.grown grq16 (by first | (simp; done) | (simp; omega)), hSq13.2.1.grown grq16 (by first | (simp; done) | (simp; omega)), hSq13.2.2.1.grown grq16 (by first | (simp; done) | (simp; omega)), hSq13.2.2.2.1.kept grq16 (by first | (simp; done) | (simp; omega)), below_new hSq13.2.2.2.2 grq16 lgq8 (Nat.le_trans (Nat.le_of_eq HBS.out) hSq13.2.2.2.2.size)⟩ (fun hSq17 => ?_)
  clear hK K hSq13
  refine wpAnyH_ready (rs := [11]) (by kernel_rfl) (by simp) ?_
  refine AllReadyH.cons rfl (fun K hK => ?_) AllReadyH.nil
  go_simp
  refine hK.out _ _ hSq17 (fun hSq18 => ?_)
  clear hK K hSq17
  refine wpAnyH_done (by kernel_rfl) ?_ _
  have hBz := hSq18.2.2.2.2
  have hA4 := hSq18.2.2.1
  clear hSq18
  go_wp2_with (first | ((with_reducible show wpList _ _ _ (⟨some 20, _, _, _, _, _⟩ :: _) _ _); refine wpList_load_mid rfl 35 (.tmp 6) rfl gq5 0 (by rfl) v.cells _ (blk_rangeP hEq15) Try.underlying35 rfl (vx_size v) ?_) | ((with_reducible show wpList _ _ _ (⟨none, Op.store _ (.tmp 4) _, _, _, _, _⟩ :: _) _ _); refine wpList_storeBlk rfl 35 (.tmp 4) (.tmp 20) rfl (base + 1) v.cells.toArray (by rfl) (by rfl) _ _ hA4 (vx_sizeA v) (vx_hold _ _) (vx_all v) ?_; intro w9 hA9 g9; have hB9 := below_new hBz g9 hA4n (Nat.le_trans (Nat.le_of_eq HBS.out) hBz.size)))
  refine ret_cellTmpD rfl (base + 1) 35 v.cells.toArray _ (by rfl) hA9 Try.underlying35 rfl (vx_sizeA v) rfl ?_
  exact ⟨rfl, hB9⟩
end Go.Proofs.Ytodnmhflafpefaa
