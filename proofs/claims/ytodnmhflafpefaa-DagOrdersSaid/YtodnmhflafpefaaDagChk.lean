/-
  dag.Store.Check.
-/
import Derived.Test.YtodnmhflafpefaaDagGet
import Derived.Test.YtodnmhflafpefaaDagLaw
import Derived.WalkLawsBesides
import Derived.Laws.ResultCell
import Derived.Deep.LoopGhost
import Derived.Deep.RegionHeld
import Derived.Deep.Cut
import Derived.Outline
import Derived.Handy
set_option linter.unusedSimpArgs false
set_option linter.unusedVariables false
namespace Go.Proofs.Ytodnmhflafpefaa
open Go.RowKit

def ThereV (L : List Vx) (h : List UInt8) (u : Vx) (c : Bool) : Prop := (c = true → u ∈ L ∧ u.id = h) ∧ (c = false → ∀ x ∈ L, x.id ≠ h)
theorem ThereV.yes {L : List Vx} {h : List UInt8} {u : Vx} (t : ThereV L h u true) : u ∈ L ∧ u.id = h := t.1 rfl
theorem ThereV.no {L : List Vx} {h : List UInt8} {u : Vx} (t : ThereV L h u false) : ∀ x ∈ L, x.id ≠ h := t.2 rfl
theorem StoreIs.lt {w : World} {sp mb : Nat} {keep : Int} {L : List Vx} (h : StoreIs w sp mb keep L) : max sp mb < w.heap.size := by
  have := h.blk.lt; have := h.map.lt; omega
theorem StoreIs.kept {w w' : World} {sp mb r : Nat} {keep : Int} {L : List Vx} (h : StoreIs w sp mb keep L) (g : w.grownBy w' (some r)) (hr : max sp mb < r) : StoreIs w' sp mb keep L :=
  ⟨h.blk.grown g (fun e => by cases e; omega), h.map.kept g (fun e => by cases e; omega), h.nodup⟩
theorem lookV_get (L : List Vx) (h : List UInt8) : ∃ (u : Vx) (c : Bool), (lookV L h).getD (.agg vz.cells.toArray) = .agg u.cells.toArray ∧ (lookV L h).isSome = c ∧ ThereV L h u c := by
  cases e : lookV L h with
  | none => exact ⟨vz, false, rfl, rfl, (fun h => by (cases h)), fun _ => lookV_none.1 e⟩
  | some a =>
    obtain ⟨u, hu, h1, h2⟩ := lookV_some e
    exact ⟨u, true, by rw [h2]; rfl, rfl, (fun _ => ⟨hu, h1⟩), fun h => by (cases h)⟩
theorem FloorRes.val {L : List Vx} {keep : Int} {e : Ending} (h : FloorRes L keep e) (hn : (L.map (·.id)).Nodup) (hk : 1 ≤ keep) : e = .returned (.int .i64 (floorT keep L)) := by
  rcases h with ⟨rfl, rfl⟩ | ⟨v, h1, rfl⟩
  · have : floorT keep [] = 0 := by unfold floorT; rw [maxd_nil]; omega
    rw [this]
  · rw [maxd_head hn h1]; rfl
theorem FloorT_calls (sp mb : Nat) (keep : Int) (L : List Vx) (w : World) (h : StoreIs w sp mb keep L) (hn : L.length ≤ 1000) (hk : 1 ≤ keep ∧ keep ≤ 64) :
    Calls Try.prog 10 #[.pointer (some ⟨sp, 0, none⟩)] w fun e w' => e = .returned (.int .i64 (floorT keep L)) ∧ Below w.heap.size w w' :=
  (Floor_calls sp mb keep L w h hn hk).mono fun e w' ⟨h1, h2⟩ => ⟨h1.val h.nodup hk.1, h2⟩
/-- None of those that have come hangs on it in a wrong depth. -/
def NoneYet (L : List Vx) (v : Vx) (done : List HsT) : Prop := ∀ u ∈ L, u.id ∈ done → ¬ (u.par = v.id ∧ u.d - 1 ≠ v.d)
theorem NoneYet.nil (L : List Vx) (v : Vx) : NoneYet L v [] := fun _ _ h => by cases h
theorem NoneYet.add {L : List Vx} {v u : Vx} {done : List HsT} (hn : (L.map (·.id)).Nodup) (hu : u ∈ L) (h : NoneYet L v done) (h1 : ¬ (u.par = v.id ∧ u.d - 1 ≠ v.d)) : NoneYet L v (done ++ [u.id]) := by
  intro x hx hd
  rcases List.mem_append.1 hd with hd | hd
  · exact h x hx hd
  · rw [vx_inj hn hx hu (List.mem_singleton.1 hd)]; exact h1
theorem chk1 {keep : Int} {L : List Vx} {v : Vx} (h : v.par = v.id) : chkT keep L v = 1 := by unfold chkT; rw [if_pos h]
theorem chk8 {keep : Int} {L : List Vx} {v u : Vx} (h : v.par ≠ v.id) (hu : u ∈ L) (e : u.id = v.id) : chkT keep L v = 8 := by
  unfold chkT; rw [if_neg h, if_pos (show (L.any fun u => u.id == v.id) = true from List.any_eq_true.2 ⟨u, hu, beq_iff_eq.2 e⟩)]
theorem any_no {L : List Vx} {h : List UInt8} (hn : ∀ x ∈ L, x.id ≠ h) : ¬ (L.any fun u => u.id == h) = true := by
  intro e
  obtain ⟨u, hu, h1⟩ := List.any_eq_true.1 e
  exact hn u hu (beq_iff_eq.1 h1)
theorem chk13 {keep : Int} {L : List Vx} {v : Vx} (h : v.par ≠ v.id) (h8 : ∀ x ∈ L, x.id ≠ v.id) (hf : v.d < floorT keep L) : chkT keep L v = 13 := by
  unfold chkT; rw [if_neg h, if_neg (any_no h8), if_pos hf]
theorem chk15 {keep : Int} {L : List Vx} {v u : Vx} (h : v.par ≠ v.id) (h8 : ∀ x ∈ L, x.id ≠ v.id) (hf : ¬ v.d < floorT keep L) (hu : u ∈ L) (e : u.id = v.par) (hd : u.d ≠ v.d - 1) : chkT keep L v = 15 := by
  unfold chkT
  rw [if_neg h, if_neg (any_no h8), if_neg hf, if_pos (List.any_eq_true.2 ⟨u, hu, by rw [Bool.and_eq_true]; exact ⟨beq_iff_eq.2 e, bne_iff_ne.2 hd⟩⟩)]
/-- The depth behind the parent is right. -/
def ParOk (L : List Vx) (v : Vx) : Prop := ∀ u ∈ L, u.id = v.par → u.d = v.d - 1
theorem any_no2 {L : List Vx} {v : Vx} (h : ParOk L v) : ¬ (L.any fun u => u.id == v.par && u.d != v.d - 1) = true := by
  intro e
  obtain ⟨u, hu, h1⟩ := List.any_eq_true.1 e
  rw [Bool.and_eq_true] at h1
  exact (bne_iff_ne.1 h1.2) (h u hu (beq_iff_eq.1 h1.1))
theorem chk15b {keep : Int} {L : List Vx} {v u : Vx} (h : v.par ≠ v.id) (h8 : ∀ x ∈ L, x.id ≠ v.id) (hf : ¬ v.d < floorT keep L) (hp : ParOk L v) (hu : u ∈ L) (e : u.par = v.id) (hd : u.d - 1 ≠ v.d) : chkT keep L v = 15 := by
  unfold chkT
  rw [if_neg h, if_neg (any_no h8), if_neg hf, if_neg (any_no2 hp), if_pos (List.any_eq_true.2 ⟨u, hu, by rw [Bool.and_eq_true]; exact ⟨beq_iff_eq.2 e, bne_iff_ne.2 hd⟩⟩)]
theorem chk0 {keep : Int} {L : List Vx} {v : Vx} (h : v.par ≠ v.id) (h8 : ∀ x ∈ L, x.id ≠ v.id) (hf : ¬ v.d < floorT keep L) (hp : ParOk L v) (ha : ∀ u ∈ L, ¬ (u.par = v.id ∧ u.d - 1 ≠ v.d)) : chkT keep L v = 0 := by
  unfold chkT
  rw [if_neg h, if_neg (any_no h8), if_neg hf, if_neg (any_no2 hp), if_neg]
  intro e
  obtain ⟨u, hu, h1⟩ := List.any_eq_true.1 e
  rw [Bool.and_eq_true] at h1
  exact ha u hu ⟨beq_iff_eq.1 h1.1, bne_iff_ne.1 h1.2⟩
set_option maxHeartbeats 4000000 in
set_option maxRecDepth 100000 in
theorem Check_same (sp mb : Nat) (keep : Int) (L : List Vx) (v : Vx) (w : World) (hs : StoreIs w sp mb keep L) (hpi : v.par = v.id) :
    Calls Try.prog 13 #[.pointer (some ⟨sp, 0, none⟩), .agg v.cells.toArray] w fun e w' => e = .returned (.int .i64 (chkT keep L v)) ∧ Below w.heap.size w w' := by
  have HI : Hid (v.id.length = 32) := v.hi
  have HP : Hid (v.par.length = 32) := v.hp
  obtain ⟨hd0, hd1⟩ := v.hd
  have hdl : decide (v.d < 0) = false := decide_eq_false (by omega)
  have hdg : decide (4611686018427387903 < v.d) = false := decide_eq_false (by omega)
  obtain ⟨base, hbase⟩ : ∃ base, base = w.heap.size := ⟨_, rfl⟩
  rw [← hbase]
  have HBS := Lib.hid hbase
  have hA1 : Blk (w.alloc (.cells v.cells.toArray 35)) base v.cells.toArray 35 := by rw [hbase]; exact Blk.new _ _ _
  have hB1 : Below w.heap.size w (w.alloc (.cells v.cells.toArray 35)) := below_alloc1 _ _
  have hs1 := hs.below hB1
  rw [← hbase] at hB1
  have hvd := vx_d (blk_rangeP hA1)
  have hvi := vx_id (blk_rangeP hA1)
  have hvp := vx_par (blk_rangeP hA1)
  rw [Nat.zero_add] at hvd hvp
  have hqe : ∀ z, (Op.equalIn 10000 32 (.agg (v.par.map bv).toArray) (.agg (v.id.map bv).toArray)).run Try.prog z = .ok true z := fun z => by rw [run_eq_hash z _ _ HP.out HI.out, hpi, beq_self_eq_true]
  rw [chk1 hpi]
  clear hpi hs hs1 hbase
  go_enter Try.func13, Try.ntmps13
  go_upto_region 1 with (fail)
  rw [← HBS.out]
  go_wp2_with (first | ((with_reducible show wpList _ _ _ (⟨some 15, _, _, _, _, _⟩ :: _) _ _); refine wpList_if (by rfl) (wp_load1 3 (.tmp 14) rfl base 64 (by rfl) _ _ (hvd) Try.underlying3 rfl ?_)) | ((with_reducible show wpList _ _ _ (⟨some 20, _, _, _, _, _⟩ :: _) _ _); refine wpList_if (by rfl) (wp_load1 3 (.tmp 19) rfl base 64 (by rfl) _ _ (hvd) Try.underlying3 rfl ?_)) | ((with_reducible show wpList _ _ _ (⟨some 25, _, _, _, _, _⟩ :: _) _ _); refine wpList_if (by rfl) (wp_load_mid 32 (.tmp 24) rfl base 32 (by rfl) (v.par.map bv) _ (hvp) Try.underlying32 rfl (by rw [List.length_map, HP.out]; exact Try.sizeHash) ?_)) | ((with_reducible show wpList _ _ _ (⟨some 27, _, _, _, _, _⟩ :: _) _ _); refine wpList_if (by rfl) (wp_load_mid 32 (.tmp 26) rfl base 0 (by rfl) (v.id.map bv) _ (hvi) Try.underlying32 rfl (by rw [List.length_map, HI.out]; exact Try.sizeHash) ?_)))
  go_returns
  exact ⟨rfl, hB1⟩
theorem four_ways (x v : Vx) : ((∀ z, (Op.equalIn 10000 32 (.agg (x.par.map bv).toArray) (.agg (v.id.map bv).toArray)).run Try.prog z = .ok false z) ∧ Hid (x.par ≠ v.id)) ∨
    ((∀ z, (Op.equalIn 10000 32 (.agg (x.par.map bv).toArray) (.agg (v.id.map bv).toArray)).run Try.prog z = .ok true z) ∧ (x.d - 1 == v.d) = true ∧ decide (x.d - 1 = v.d) = true ∧ (x.d - 1 != v.d) = false ∧ decide (x.d - 1 ≠ v.d) = false ∧ Hid (x.d - 1 = v.d)) ∨
    ((∀ z, (Op.equalIn 10000 32 (.agg (x.par.map bv).toArray) (.agg (v.id.map bv).toArray)).run Try.prog z = .ok true z) ∧ (x.d - 1 == v.d) = false ∧ decide (x.d - 1 = v.d) = false ∧ (x.d - 1 != v.d) = true ∧ decide (x.d - 1 ≠ v.d) = true ∧ Hid (x.par = v.id ∧ x.d - 1 ≠ v.d)) := by
  by_cases h1 : x.par = v.id
  · have hq : ∀ z, (Op.equalIn 10000 32 (.agg (x.par.map bv).toArray) (.agg (v.id.map bv).toArray)).run Try.prog z = .ok true z := fun z => by rw [run_eq_hash z _ _ x.hp v.hi, h1, beq_self_eq_true]
    by_cases h2 : x.d - 1 = v.d
    · exact .inr (.inl ⟨hq, by simp [h2], by simp [h2], by simp [h2], by simp [h2], h2⟩)
    · exact .inr (.inr ⟨hq, by simp [h2], by simp [h2], by simp [h2], by simp [h2], h1, h2⟩)
  · exact .inl ⟨fun z => by rw [run_eq_hash z _ _ x.hp v.hi, beq_false_of_ne h1], h1⟩
set_option maxHeartbeats 16000000 in
set_option maxRecDepth 100000 in
theorem Check_calls (sp mb : Nat) (keep : Int) (L : List Vx) (v : Vx) (w : World) (hs : StoreIs w sp mb keep L) (hn : L.length ≤ 1000) (hk : 1 ≤ keep ∧ keep ≤ 64) :
    Calls Try.prog 13 #[.pointer (some ⟨sp, 0, none⟩), .agg v.cells.toArray] w fun e w' => e = .returned (.int .i64 (chkT keep L v)) ∧ Below w.heap.size w w' := by
  by_cases hpi : v.par = v.id
  · exact Check_same sp mb keep L v w hs hpi
  · obtain ⟨F, hF⟩ : ∃ F, F = floorT keep L := ⟨_, rfl⟩
    have cF : Hid (∀ y, StoreIs y sp mb keep L → Calls Try.prog 10 #[.pointer (some ⟨sp, 0, none⟩)] y fun e w' => e = .returned (.int .i64 F) ∧ Below y.heap.size y w') := fun y hy => by rw [hF]; exact FloorT_calls sp mb keep L y hy hn hk
    have HF := Lib.hid hF
    have HND := Lib.hid hs.nodup
    have HPI := Lib.hid hpi
    obtain ⟨R, hR⟩ : ∃ R, R = chkT keep L v := ⟨_, rfl⟩
    have HRR := Lib.hid hR
    rw [← hR]
    obtain ⟨u, c, hu, hc, hc1⟩ := lookV_get L v.id
    obtain ⟨p, q, hp, hq, hq1⟩ := lookV_get L v.par
    have HU := Lib.hid hu
    have HC := Lib.hid hc
    have HC1 := Lib.hid hc1
    have HPU := Lib.hid hp
    have HQ := Lib.hid hq
    have HQ1 := Lib.hid hq1
    obtain ⟨D, hD⟩ : ∃ D, decide (v.d < F) = D := ⟨_, rfl⟩
    have HD := Lib.hid hD
    have HI : Hid (v.id.length = 32) := v.hi
    have HP : Hid (v.par.length = 32) := v.hp
    obtain ⟨hd0, hd1⟩ := v.hd
    have hdl : decide (v.d < 0) = false := decide_eq_false (by omega)
    have hdg : decide (4611686018427387903 < v.d) = false := decide_eq_false (by omega)
    obtain ⟨base, hbase⟩ : ∃ base, base = w.heap.size := ⟨_, rfl⟩
    rw [← hbase]
    have HBS := Lib.hid hbase
    have hA1 : Blk (w.alloc (.cells v.cells.toArray 35)) base v.cells.toArray 35 := by rw [hbase]; exact Blk.new _ _ _
    have hB1 : Below w.heap.size w (w.alloc (.cells v.cells.toArray 35)) := below_alloc1 _ _
    have hs1 := hs.below hB1
    rw [← hbase] at hB1
    have hvd := vx_d (blk_rangeP hA1)
    have hvi := vx_id (blk_rangeP hA1)
    have hvp := vx_par (blk_rangeP hA1)
    rw [Nat.zero_add] at hvd hvp
    have hqe : ∀ z, (Op.equalIn 10000 32 (.agg (v.par.map bv).toArray) (.agg (v.id.map bv).toArray)).run Try.prog z = .ok false z := fun z => by rw [run_eq_hash z _ _ HP.out HI.out, beq_false_of_ne hpi]
    clear hF hpi hR hu hc hc1 hp hq hq1 hs hbase
    go_enter Try.func13, Try.ntmps13
    go_upto_region 1 with (fail)
    rw [← HBS.out]
    go_wp2_with (first | ((with_reducible show wpList _ _ _ (⟨some 15, _, _, _, _, _⟩ :: _) _ _); refine wpList_if (by rfl) (wp_load1 3 (.tmp 14) rfl base 64 (by rfl) _ _ (hvd) Try.underlying3 rfl ?_)) | ((with_reducible show wpList _ _ _ (⟨some 20, _, _, _, _, _⟩ :: _) _ _); refine wpList_if (by rfl) (wp_load1 3 (.tmp 19) rfl base 64 (by rfl) _ _ (hvd) Try.underlying3 rfl ?_)) | ((with_reducible show wpList _ _ _ (⟨some 25, _, _, _, _, _⟩ :: _) _ _); refine wpList_if (by rfl) (wp_load_mid 32 (.tmp 24) rfl base 32 (by rfl) (v.par.map bv) _ (hvp) Try.underlying32 rfl (by rw [List.length_map, HP.out]; exact Try.sizeHash) ?_)) | ((with_reducible show wpList _ _ _ (⟨some 27, _, _, _, _, _⟩ :: _) _ _); refine wpList_if (by rfl) (wp_load_mid 32 (.tmp 26) rfl base 0 (by rfl) (v.id.map bv) _ (hvi) Try.underlying32 rfl (by rw [List.length_map, HI.out]; exact Try.sizeHash) ?_)))
    clear hqe hvd hvi hvp hdl hdg
    obtain ⟨w1, hw1⟩ : ∃ z, z = w.alloc (.cells v.cells.toArray 35) := ⟨_, rfl⟩
    rw [← hw1] at hA1 hs1 hB1 ⊢
    clear hw1
    refine wp_region_held_drew (S := fun x => Blk x (base) v.cells.toArray 35 ∧ StoreIs x sp mb keep L ∧ Below base w x) (by kernel_rfl) ⟨hA1.drew, hs1.below (below_drewN (Below.refl _ _) 1), below_drewN hB1 1⟩ (fun hSq1 => ?_)
    refine wpAnyH_take (i := 0) (v := .pointer (some ⟨sp, 0, none⟩)) rfl (by kernel_rfl) (by kernel_rfl) (by kernel_rfl) (fun _ _ _ h => h) (Or.inl ⟨by rfl, fun x hx => by go_simp⟩) hSq1 ?_
    simp only [Act.put, List.getElem_toArray, List.getElem_cons_zero, List.getElem_cons_succ, List.setIfInBounds_toArray, List.set_cons_zero, List.set_cons_succ]
    refine wpAnyH_take (i := 1) (v := .pointer (some ⟨sp, 0, none⟩)) rfl (by kernel_rfl) (by kernel_rfl) (by kernel_rfl) (fun _ _ _ h => h) (Or.inl ⟨by rfl, fun x hx => by go_simp⟩) hSq1 ?_
    simp only [Act.put, List.getElem_toArray, List.getElem_cons_zero, List.getElem_cons_succ, List.setIfInBounds_toArray, List.set_cons_zero, List.set_cons_succ]
    refine wpAnyH_take (i := 2) (v := .pointer (some ⟨sp, 1, none⟩)) rfl (by kernel_rfl) (by kernel_rfl) (by kernel_rfl) (fun _ _ _ h => h) (Or.inl ⟨by rfl, fun x hx => by go_simp⟩) hSq1 ?_
    simp only [Act.put, List.getElem_toArray, List.getElem_cons_zero, List.getElem_cons_succ, List.setIfInBounds_toArray, List.set_cons_zero, List.set_cons_succ]
    refine wpAnyH_take (i := 3) (v := .map (some mb)) rfl (by kernel_rfl) (by kernel_rfl) (by kernel_rfl) (fun _ _ _ h => h) (Or.inl ⟨by rfl, fun x hx => by have hc := hx.2.1.blk.cell 1 _ rfl; go_simp⟩) hSq1 ?_
    simp only [Act.put, List.getElem_toArray, List.getElem_cons_zero, List.getElem_cons_succ, List.setIfInBounds_toArray, List.set_cons_zero, List.set_cons_succ]
    refine wpAnyH_take (i := 4) (v := .pointer (some ⟨base, 0, none⟩)) rfl (by kernel_rfl) (by kernel_rfl) (by kernel_rfl) (fun _ _ _ h => h) (Or.inl ⟨by rfl, fun x hx => by go_simp⟩) hSq1 ?_
    simp only [Act.put, List.getElem_toArray, List.getElem_cons_zero, List.getElem_cons_succ, List.setIfInBounds_toArray, List.set_cons_zero, List.set_cons_succ]
    refine wpAnyH_take (i := 5) rfl (by kernel_rfl) (by kernel_rfl) (by kernel_rfl) (fun _ _ _ h => h) (yieldsIf_load_mid (by rfl) 32 (.tmp 35) rfl (base) (0) (by rfl) (v.id.map bv) _ (fun x hx => vx_id (blk_rangeP hx.1)) Try.underlying32 rfl (by rw [List.length_map, HI.out]; exact Try.sizeHash)) hSq1 ?_
    simp only [Act.put, List.getElem_toArray, List.getElem_cons_zero, List.getElem_cons_succ, List.setIfInBounds_toArray, List.set_cons_zero, List.set_cons_succ]
    refine wpAnyH_take (i := 6) rfl (by kernel_rfl) (by kernel_rfl) (by kernel_rfl) (fun _ _ _ h => h) (yieldsIf_lookT (by rfl) Try.hashKey (.tmp 34) (.tmp 36) 46 35 rfl Try.underlying46 (.agg vz.cells.toArray) Try.zeroVxV mb L.length (lookV L) (by rfl) (fun x hx => hx.2.1.map) v.id HI.out (by rfl) (.agg u.cells.toArray) HU.out c HC.out) hSq1 ?_
    simp only [Act.put, List.getElem_toArray, List.getElem_cons_zero, List.getElem_cons_succ, List.setIfInBounds_toArray, List.set_cons_zero, List.set_cons_succ]
    refine wpAnyH_take (i := 7) (v := .tuple #[.agg u.cells.toArray, .bool c]) rfl (by kernel_rfl) (by kernel_rfl) (by kernel_rfl) (fun _ _ _ h => h) (Or.inl ⟨by rfl, fun x hx => by go_simp⟩) hSq1 ?_
    simp only [Act.put, List.getElem_toArray, List.getElem_cons_zero, List.getElem_cons_succ, List.setIfInBounds_toArray, List.set_cons_zero, List.set_cons_succ]
    refine wpAnyH_take (i := 8) (v := .agg u.cells.toArray) rfl (by kernel_rfl) (by kernel_rfl) (by kernel_rfl) (fun _ _ _ h => h) (Or.inl ⟨by rfl, fun x hx => by go_simp⟩) hSq1 ?_
    simp only [Act.put, List.getElem_toArray, List.getElem_cons_zero, List.getElem_cons_succ, List.setIfInBounds_toArray, List.set_cons_zero, List.set_cons_succ]
    refine wpAnyH_take (i := 9) (v := .bool c) rfl (by kernel_rfl) (by kernel_rfl) (by kernel_rfl) (fun _ _ _ h => h) (Or.inl ⟨by rfl, fun x hx => by go_simp⟩) hSq1 ?_
    simp only [Act.put, List.getElem_toArray, List.getElem_cons_zero, List.getElem_cons_succ, List.setIfInBounds_toArray, List.set_cons_zero, List.set_cons_succ]
    refine wpAnyH_ready (rs := [10]) (by kernel_rfl) (by simp) ?_
    refine AllReadyH.cons rfl (fun K hK => ?_) AllReadyH.nil
    rw [if_pos (by rfl)]
    refine wp_allocZ 35 rfl _ Try.zeroVx ?_
    intro gq5 yq3 egq6 ezq7 bq2 hEq4
    have lgq8 : base ≤ gq5 := by rw [egq6]; exact Nat.le_trans (Nat.le_of_eq HBS.out) hSq1.2.2.size
    have lbq9 : base < gq5 := by rw [egq6]; exact hSq1.1.lt
    have lbq10 : max sp mb < gq5 := by rw [egq6]; exact hSq1.2.1.lt
    refine hK.out _ _ ⟨hSq1.1.below bq2 hSq1.1.lt, hSq1.2.1.below bq2, hSq1.2.2.trans (bq2.mono (Nat.le_trans (Nat.le_of_eq HBS.out) hSq1.2.2.size))⟩ (fun hSq11 => ?_)
    clear hK K hSq1 bq2 egq6 ezq7
    refine wpAnyH_ready (rs := [11]) (by kernel_rfl) (by simp) ?_
    refine AllReadyH.cons rfl (fun K hK => ?_) AllReadyH.nil
    rw [if_pos (by rfl)]
    refine wp_storeBlk 35 (.tmp 5) (.tmp 38) rfl gq5 u.cells.toArray (by rfl) (by rfl) _ _ hEq4 (vx_sizeA u) (vx_hold _ _) (vx_all u) ?_
    intro yq12 hEq13 grq14
    refine hK.out _ _ ⟨hSq11.1.grown grq14 (by first | (simp; done) | (simp; omega) | omega), hSq11.2.1.kept grq14 (by first | (simp; done) | (simp; omega) | omega), below_new hSq11.2.2 grq14 lgq8 (Nat.le_trans (Nat.le_of_eq HBS.out) hSq11.2.2.size)⟩ (fun hSq15 => ?_)
    clear hK K hSq11
    refine wpAnyH_ready (rs := [12]) (by kernel_rfl) (by simp) ?_
    refine AllReadyH.cons rfl (fun K hK => ?_) AllReadyH.nil
    go_simp
    refine hK.out _ _ hSq15 (fun hSq16 => ?_)
    clear hK K hSq15
    refine wpAnyH_done (by kernel_rfl) ?_ _
    have hA3 := hSq16.1
    have hs3 := hSq16.2.1
    have hB3 := hSq16.2.2
    clear hSq16
    obtain ⟨w3, hw3⟩ : ∃ z, z = yq12 := ⟨_, rfl⟩
    rw [← hw3] at hA3 hs3 hB3 ⊢
    clear hw3
    rcases c with _ | _
    case true =>
      go_wp2_with fail
      go_returns
      exact ⟨(by rw [HRR.out, chk8 HPI.out HC1.out.yes.1 HC1.out.yes.2]; rfl), hB3⟩
    have H8 := HC1.out.no
    have HN8 := Lib.hid H8
    clear H8 HC1
    go_wp2_with fail
    refine wp_region_held_drew (S := fun x => Blk x (base) v.cells.toArray 35 ∧ StoreIs x sp mb keep L ∧ Below base w x) (by kernel_rfl) ⟨hA3.drew, hs3.below (below_drewN (Below.refl _ _) 1), below_drewN hB3 1⟩ (fun hSq33 => ?_)
    refine wpAnyH_take (i := 0) (v := .pointer (some ⟨base, 64, none⟩)) rfl (by kernel_rfl) (by kernel_rfl) (by kernel_rfl) (fun _ _ _ h => h) (Or.inl ⟨by rfl, fun x hx => by go_simp⟩) hSq33 ?_
    simp only [Act.put, List.getElem_toArray, List.getElem_cons_zero, List.getElem_cons_succ, List.setIfInBounds_toArray, List.set_cons_zero, List.set_cons_succ]
    refine wpAnyH_take (i := 1) (v := .int .i64 v.d) rfl (by kernel_rfl) (by kernel_rfl) (by kernel_rfl) (fun _ _ _ h => h) (Or.inl ⟨by rfl, fun x hx => by have hc := vx_d (blk_rangeP hx.1); rw [Nat.zero_add] at hc; go_simp⟩) hSq33 ?_
    simp only [Act.put, List.getElem_toArray, List.getElem_cons_zero, List.getElem_cons_succ, List.setIfInBounds_toArray, List.set_cons_zero, List.set_cons_succ]
    refine wpAnyH_take (i := 2) (v := .pointer (some ⟨sp, 0, none⟩)) rfl (by kernel_rfl) (by kernel_rfl) (by kernel_rfl) (fun _ _ _ h => h) (Or.inl ⟨by rfl, fun x hx => by go_simp⟩) hSq33 ?_
    simp only [Act.put, List.getElem_toArray, List.getElem_cons_zero, List.getElem_cons_succ, List.setIfInBounds_toArray, List.set_cons_zero, List.set_cons_succ]
    refine wpAnyH_ready (rs := [3]) (by kernel_rfl) (by simp) ?_
    refine AllReadyH.cons rfl (fun K hK => ?_) AllReadyH.nil
    go_simp
    go_wp2_with (go_at_call 10; refine (cF.out _ hSq33.2.1).mono ?_; rintro e yq34 ⟨rfl, bq35⟩)
    refine hK.out _ _ ⟨hSq33.1.below bq35 hSq33.1.lt, hSq33.2.1.below bq35, hSq33.2.2.trans (bq35.mono (Nat.le_trans (Nat.le_of_eq HBS.out) hSq33.2.2.size))⟩ (fun hSq36 => ?_)
    clear hK K hSq33 bq35
    refine wpAnyH_take (i := 4) (v := .bool D) rfl (by kernel_rfl) (by kernel_rfl) (by kernel_rfl) (fun _ _ _ h => h) (Or.inl ⟨by rfl, fun x hx => by go_simp⟩) hSq36 ?_
    simp only [Act.put, List.getElem_toArray, List.getElem_cons_zero, List.getElem_cons_succ, List.setIfInBounds_toArray, List.set_cons_zero, List.set_cons_succ]
    refine wpAnyH_done (by kernel_rfl) ?_ _
    have hA6 := hSq36.1
    have hs6 := hSq36.2.1
    have hB6 := hSq36.2.2
    clear hSq36
    rcases D with _ | _
    case true =>
      clear hD
      go_wp2_with fail
      go_returns
      exact ⟨(by rw [HRR.out, chk13 HPI.out HN8.out (by rw [← HF.out]; exact of_decide_eq_true HD.out)]; rfl), hB6⟩
    have hf := of_decide_eq_false HD.out
    rw [HF.out] at hf
    have HFL := Lib.hid hf
    clear hf hD cF
    go_wp2_with fail
    refine wp_region_held_drew (S := fun x => Blk x (base) v.cells.toArray 35 ∧ StoreIs x sp mb keep L ∧ Below base w x) (by kernel_rfl) ⟨hA6.drew, hs6.below (below_drewN (Below.refl _ _) 1), below_drewN hB6 1⟩ (fun hSq17 => ?_)
    refine wpAnyH_take (i := 0) (v := .pointer (some ⟨sp, 0, none⟩)) rfl (by kernel_rfl) (by kernel_rfl) (by kernel_rfl) (fun _ _ _ h => h) (Or.inl ⟨by rfl, fun x hx => by go_simp⟩) hSq17 ?_
    simp only [Act.put, List.getElem_toArray, List.getElem_cons_zero, List.getElem_cons_succ, List.setIfInBounds_toArray, List.set_cons_zero, List.set_cons_succ]
    refine wpAnyH_take (i := 1) (v := .pointer (some ⟨sp, 0, none⟩)) rfl (by kernel_rfl) (by kernel_rfl) (by kernel_rfl) (fun _ _ _ h => h) (Or.inl ⟨by rfl, fun x hx => by go_simp⟩) hSq17 ?_
    simp only [Act.put, List.getElem_toArray, List.getElem_cons_zero, List.getElem_cons_succ, List.setIfInBounds_toArray, List.set_cons_zero, List.set_cons_succ]
    refine wpAnyH_take (i := 2) (v := .pointer (some ⟨sp, 1, none⟩)) rfl (by kernel_rfl) (by kernel_rfl) (by kernel_rfl) (fun _ _ _ h => h) (Or.inl ⟨by rfl, fun x hx => by go_simp⟩) hSq17 ?_
    simp only [Act.put, List.getElem_toArray, List.getElem_cons_zero, List.getElem_cons_succ, List.setIfInBounds_toArray, List.set_cons_zero, List.set_cons_succ]
    refine wpAnyH_take (i := 3) (v := .map (some mb)) rfl (by kernel_rfl) (by kernel_rfl) (by kernel_rfl) (fun _ _ _ h => h) (Or.inl ⟨by rfl, fun x hx => by have hc := hx.2.1.blk.cell 1 _ rfl; go_simp⟩) hSq17 ?_
    simp only [Act.put, List.getElem_toArray, List.getElem_cons_zero, List.getElem_cons_succ, List.setIfInBounds_toArray, List.set_cons_zero, List.set_cons_succ]
    refine wpAnyH_take (i := 4) (v := .pointer (some ⟨base, 32, none⟩)) rfl (by kernel_rfl) (by kernel_rfl) (by kernel_rfl) (fun _ _ _ h => h) (Or.inl ⟨by rfl, fun x hx => by go_simp⟩) hSq17 ?_
    simp only [Act.put, List.getElem_toArray, List.getElem_cons_zero, List.getElem_cons_succ, List.setIfInBounds_toArray, List.set_cons_zero, List.set_cons_succ]
    refine wpAnyH_take (i := 5) rfl (by kernel_rfl) (by kernel_rfl) (by kernel_rfl) (fun _ _ _ h => h) (yieldsIf_load_mid (by rfl) 32 (.tmp 51) rfl (base) (32) (by rfl) (v.par.map bv) _ (fun x hx => (by have hc := vx_par (blk_rangeP hx.1); rw [Nat.zero_add] at hc; exact hc)) Try.underlying32 rfl (by rw [List.length_map, HP.out]; exact Try.sizeHash)) hSq17 ?_
    simp only [Act.put, List.getElem_toArray, List.getElem_cons_zero, List.getElem_cons_succ, List.setIfInBounds_toArray, List.set_cons_zero, List.set_cons_succ]
    refine wpAnyH_take (i := 6) rfl (by kernel_rfl) (by kernel_rfl) (by kernel_rfl) (fun _ _ _ h => h) (yieldsIf_lookT (by rfl) Try.hashKey (.tmp 50) (.tmp 52) 46 35 rfl Try.underlying46 (.agg vz.cells.toArray) Try.zeroVxV mb L.length (lookV L) (by rfl) (fun x hx => hx.2.1.map) v.par HP.out (by rfl) (.agg p.cells.toArray) HPU.out q HQ.out) hSq17 ?_
    simp only [Act.put, List.getElem_toArray, List.getElem_cons_zero, List.getElem_cons_succ, List.setIfInBounds_toArray, List.set_cons_zero, List.set_cons_succ]
    refine wpAnyH_take (i := 7) (v := .tuple #[.agg p.cells.toArray, .bool q]) rfl (by kernel_rfl) (by kernel_rfl) (by kernel_rfl) (fun _ _ _ h => h) (Or.inl ⟨by rfl, fun x hx => by go_simp⟩) hSq17 ?_
    simp only [Act.put, List.getElem_toArray, List.getElem_cons_zero, List.getElem_cons_succ, List.setIfInBounds_toArray, List.set_cons_zero, List.set_cons_succ]
    refine wpAnyH_take (i := 8) (v := .agg p.cells.toArray) rfl (by kernel_rfl) (by kernel_rfl) (by kernel_rfl) (fun _ _ _ h => h) (Or.inl ⟨by rfl, fun x hx => by go_simp⟩) hSq17 ?_
    simp only [Act.put, List.getElem_toArray, List.getElem_cons_zero, List.getElem_cons_succ, List.setIfInBounds_toArray, List.set_cons_zero, List.set_cons_succ]
    refine wpAnyH_take (i := 9) (v := .bool q) rfl (by kernel_rfl) (by kernel_rfl) (by kernel_rfl) (fun _ _ _ h => h) (Or.inl ⟨by rfl, fun x hx => by go_simp⟩) hSq17 ?_
    simp only [Act.put, List.getElem_toArray, List.getElem_cons_zero, List.getElem_cons_succ, List.setIfInBounds_toArray, List.set_cons_zero, List.set_cons_succ]
    refine wpAnyH_ready (rs := [10]) (by kernel_rfl) (by simp) ?_
    refine AllReadyH.cons rfl (fun K hK => ?_) AllReadyH.nil
    rw [if_pos (by rfl)]
    refine wp_allocZ 35 rfl _ Try.zeroVx ?_
    intro gq21 yq19 egq22 ezq23 bq18 hEq20
    have lgq24 : base ≤ gq21 := by rw [egq22]; exact Nat.le_trans (Nat.le_of_eq HBS.out) hSq17.2.2.size
    have lbq25 : base < gq21 := by rw [egq22]; exact hSq17.1.lt
    have lbq26 : max sp mb < gq21 := by rw [egq22]; exact hSq17.2.1.lt
    refine hK.out _ _ ⟨hSq17.1.below bq18 hSq17.1.lt, hSq17.2.1.below bq18, hSq17.2.2.trans (bq18.mono (Nat.le_trans (Nat.le_of_eq HBS.out) hSq17.2.2.size))⟩ (fun hSq27 => ?_)
    clear hK K hSq17 bq18 egq22 ezq23
    refine wpAnyH_ready (rs := [11]) (by kernel_rfl) (by simp) ?_
    refine AllReadyH.cons rfl (fun K hK => ?_) AllReadyH.nil
    rw [if_pos (by rfl)]
    refine wp_storeBlk 35 (.tmp 7) (.tmp 54) rfl gq21 p.cells.toArray (by rfl) (by rfl) _ _ hEq20 (vx_sizeA p) (vx_hold _ _) (vx_all p) ?_
    intro yq28 hEq29 grq30
    refine hK.out _ _ ⟨hSq27.1.grown grq30 (by first | (simp; done) | (simp; omega) | omega), hSq27.2.1.kept grq30 (by first | (simp; done) | (simp; omega) | omega), below_new hSq27.2.2 grq30 lgq24 (Nat.le_trans (Nat.le_of_eq HBS.out) hSq27.2.2.size)⟩ (fun hSq31 => ?_)
    clear hK K hSq27
    refine wpAnyH_ready (rs := [12]) (by kernel_rfl) (by simp) ?_
    refine AllReadyH.cons rfl (fun K hK => ?_) AllReadyH.nil
    go_simp
    refine hK.out _ _ hSq31 (fun hSq32 => ?_)
    clear hK K hSq31
    refine wpAnyH_done (by kernel_rfl) ?_ _
    have hA8 := hSq32.1
    have hs8 := hSq32.2.1
    have hB8 := hSq32.2.2
    clear hSq32
    obtain ⟨w8, hw8⟩ : ∃ z, z = yq28 := ⟨_, rfl⟩
    have hP8 := hEq29
    obtain ⟨g8, hg8⟩ : ∃ z, z = gq21 := ⟨_, rfl⟩
    rw [← hw8] at hA8 hs8 hB8 hP8 ⊢
    rw [← hg8] at hP8 ⊢
    clear hw8 hg8
    have hpd := vx_d (blk_rangeP hP8)
    have hvd := vx_d (blk_rangeP hA8)
    rw [Nat.zero_add] at hpd hvd
    obtain ⟨hpd0, hpd1⟩ := p.hd
    have hspc := hs8.blk.cell 1 _ rfl
    have hmp := hs8.map
    have HPOK : Hid ((q = true ∧ p.d ≠ v.d - 1) ∨ (q = false ∨ p.d = v.d - 1) ∧ ParOk L v) := by
      show _ ∨ _
      rcases q with _ | _
      · exact .inr ⟨.inl rfl, fun x hx e => absurd e (HQ1.out.no x hx)⟩
      · by_cases e : p.d = v.d - 1
        · exact .inr ⟨.inr e, fun x hx e2 => by rw [vx_inj HND.out hx HQ1.out.yes.1 (e2.trans HQ1.out.yes.2.symm)]; exact e⟩
        · exact .inl ⟨rfl, e⟩
    have hpk := HPOK.out
    rcases hpk with ⟨hq1, hne⟩ | ⟨hq1, hpo⟩
    · have HE := Lib.hid hne
      have e1 : (p.d == v.d - 1) = false := beq_false_of_ne hne
      have e2 : (p.d != v.d - 1) = true := bne_iff_ne.2 hne
      have e3 : decide (p.d = v.d - 1) = false := decide_eq_false hne
      subst hq1
      clear hne hmp hspc HPOK
      go_wp2_with (first | ((with_reducible show wpList _ _ _ (⟨some 59, _, _, _, _, _⟩ :: _) _ _); refine wpList_if (by rfl) (wp_load1 3 (.tmp 58) rfl g8 64 (by rfl) _ _ (hpd) Try.underlying3 rfl ?_)) | ((with_reducible show wpList _ _ _ (⟨some 61, _, _, _, _, _⟩ :: _) _ _); refine wpList_if (by rfl) (wp_load1 3 (.tmp 60) rfl base 64 (by rfl) _ _ (hvd) Try.underlying3 rfl ?_)))
      go_returns
      exact ⟨(by rw [HRR.out, chk15 HPI.out HN8.out (Int.not_lt.2 HFL.out) HQ1.out.yes.1 HQ1.out.yes.2 HE.out]; rfl), hB8⟩
    · have HPO := Lib.hid hpo
      clear hpo HPOK HQ1 HPU HQ HU HC
      have hqe : q = false ∨ (q = true ∧ p.d = v.d - 1) := by
        rcases q with _ | _
        · exact .inl rfl
        · exact .inr ⟨rfl, hq1.resolve_left (by simp)⟩
      clear hq1
      have hqe2 : q = false ∨ (q = true ∧ (p.d == v.d - 1) = true ∧ (p.d != v.d - 1) = false ∧ decide (p.d = v.d - 1) = true) := hqe.imp id fun ⟨a, b⟩ => ⟨a, beq_iff_eq.2 b, by simp [b], decide_eq_true b⟩
      clear hqe
      rcases hqe2 with rfl | ⟨rfl, e1, e2, e3⟩
      all_goals
        go_wp2_with (first | ((with_reducible show wpList _ _ _ (⟨some 59, _, _, _, _, _⟩ :: _) _ _); refine wpList_if (by rfl) (wp_load1 3 (.tmp 58) rfl g8 64 (by rfl) _ _ (hpd) Try.underlying3 rfl ?_)) | ((with_reducible show wpList _ _ _ (⟨some 61, _, _, _, _, _⟩ :: _) _ _); refine wpList_if (by rfl) (wp_load1 3 (.tmp 60) rfl base 64 (by rfl) _ _ (hvd) Try.underlying3 rfl ?_)) | ((with_reducible show wpList _ _ _ (⟨some 68, _, _, _, _, _⟩ :: _) _ _); refine wpList_load1 rfl 46 (.tmp 67) rfl sp 1 (by rfl) _ _ hspc Try.underlying46 rfl ?_) | ((with_reducible show wpList _ _ _ (⟨some 69, _, _, _, _, _⟩ :: _) _ _); refine wpList_rangeM rfl (.tmp 68) 46 35 rfl Try.underlying46 mb L.length (lookV L) (by rfl) hmp ?_; intro w9 hr9 b9; have hA9 := hA8.below b9 hA8.lt; have hB9 := hB8.trans (b9.mono (Nat.le_trans (Nat.le_of_eq HBS.out) hB8.size)); simp only [Act.put, List.setIfInBounds_toArray, List.set_cons_zero, List.set_cons_succ]))
        obtain ⟨r, hr⟩ : ∃ r, r = w8.heap.size := ⟨_, rfl⟩
        rw [← hr] at hr9 ⊢
        have hrw : base ≤ r := by rw [hr, HBS.out]; exact hB8.size
        have HR9 := Lib.hid hr9
        have HA9 := Lib.hid hA9
        have HB9 := Lib.hid hB9
        clear hr9 hA9 hB9 hr b9 hA8 hs8 hB8 hP8 hpd hvd hspc hmp hpd0 hpd1
        go_loopg [70] L.length (fun gk s70 wr => ∃ (done : List HsT), gk = L.length - done.length ∧ Hid (NoneYet L v done) ∧ Hid (RangeIs hashOk hashEnc wr mb r L.length (lookV L) done) ∧ Hid (Blk wr base v.cells.toArray 35) ∧ Hid (Below base w wr))
        case atStart => exact ⟨[], by simp, Lib.hid (NoneYet.nil _ _), HR9, HA9, HB9⟩
        case round =>
          clear HR9 HA9 HB9
          obtain ⟨done, hgk, HN, HR, HA, HB⟩ := hrel
          have HGK := Lib.hid hgk
          clear hgk
          go_wp2_with (first | ((with_reducible show wpList _ _ _ (⟨some 70, _, _, _, _, _⟩ :: _) _ _); refine wpList_nextM rfl Try.hashKey (.tmp 69) rfl mb r L.length (lookV L) done (by rfl) HR.out (fun hdone => ?_) (fun x u w5 hx hl hndn hrg hgr hen => ?_)) | ((with_reducible show wpList _ _ _ (⟨some 10, _, _, _, _, _⟩ :: _) _ _); obtain ⟨x, hv, hvx, hvu⟩ := lookV_some hl; subst hvu; subst hvx; have HV := Lib.hid hv; have hne5 := range_ne HR.out HA.out; have HR5 := Lib.hid hrg; have HA5 := Lib.hid (HA.out.grown hgr (fun e => hne5.2 e.symm)); have HB5 := Lib.hid (HB.out.grown hgr (Nat.le_trans (Nat.le_of_eq HBS.out) HB.out.size) (fun q e => by cases e; exact hrw)); clear hv hl hx hndn hrg hgr hne5 HR HA HB; refine wpList_allocZ rfl 35 rfl _ Try.zeroVx ?_; intro wa sa ba na; clear sa) | ((with_reducible show wpList _ _ _ (⟨none, Op.store _ (.tmp 10) _, _, _, _, _⟩ :: _) _ _); refine wpList_storeBlk rfl 35 (.tmp 10) (.tmp 73) rfl w5.heap.size x.cells.toArray (by rfl) (by rfl) _ _ na (vx_sizeA x) (vx_hold _ _) (vx_all x) ?_; intro wb nb gb; have bb := below_new ba gb (Nat.le_refl _) ba.size; have HRb := Lib.hid (HR5.out.below bb); have HAb := Lib.hid (HA5.out.below bb HA5.out.lt); have HBb := Lib.hid (HB5.out.trans (bb.mono (Nat.le_trans (Nat.le_of_eq HBS.out) HB5.out.size))); have r10 := blk_rangeP nb; have rv := blk_rangeP HAb.out; have xp := vx_par r10; have xd := vx_d r10; have vi := vx_id rv; have vd := vx_d rv; rw [Nat.zero_add] at xp xd vd; have HXP : Hid (x.par.length = 32) := x.hp; obtain ⟨xd0, xd1⟩ := x.hd; clear bb ba na gb HR5 HA5 HB5 nb r10 rv hen; rcases four_ways x v with ⟨qe, h4⟩ | ⟨qe, e1, e2, e3, e4, h4⟩ | ⟨qe, e1, e2, e3, e4, h4⟩) | ((with_reducible show wpList _ _ _ (⟨some 75, _, _, _, _, _⟩ :: _) _ _); refine wpList_load_mid rfl 32 (.tmp 74) rfl w5.heap.size 32 (by rfl) (x.par.map bv) _ (xp) Try.underlying32 rfl (by rw [List.length_map, HXP.out]; exact Try.sizeHash) ?_) | ((with_reducible show wpList _ _ _ (⟨some 77, _, _, _, _, _⟩ :: _) _ _); refine wpList_load_mid rfl 32 (.tmp 76) rfl base 0 (by rfl) (v.id.map bv) _ (vi) Try.underlying32 rfl (by rw [List.length_map, HI.out]; exact Try.sizeHash) ?_) | ((with_reducible show wpList _ _ _ (⟨some 81, _, _, _, _, _⟩ :: _) _ _); refine wpList_if (by rfl) (wp_load1 3 (.tmp 80) rfl w5.heap.size 64 (by rfl) _ _ (xd) Try.underlying3 rfl ?_)) | ((with_reducible show wpList _ _ _ (⟨some 84, _, _, _, _, _⟩ :: _) _ _); refine wpList_if (by rfl) (wp_load1 3 (.tmp 83) rfl base 64 (by rfl) _ _ (vd) Try.underlying3 rfl ?_)))
          · go_returns
            have hall : ∀ u ∈ L, ¬ (u.par = v.id ∧ u.d - 1 ≠ v.d) := fun u hu => HN.out u hu (hdone u.id u.hi (by rw [lookV_mem HND.out hu]; rfl))
            exact ⟨(by rw [HRR.out, chk0 HPI.out HN8.out (Int.not_lt.2 HFL.out) HPO.out hall]; rfl), HB.out⟩
          · clear qe xp xd vi vd
            have HN' : Hid (NoneYet L v (done ++ [x.id])) := HN.out.add HND.out HV.out (fun e => h4.out e.1)
            go_roundg (L.length - (done ++ [x.id]).length)
            case rel => exact ⟨done ++ [x.id], rfl, HN', HRb, HAb, HBb⟩
            case measure =>
              have e2 := HGK.out
              have e1 : (done ++ [x.id]).length ≤ L.length := range_le HRb.out
              rw [List.length_append, List.length_singleton] at *
              omega
          · clear qe e1 e2 e3 e4 xp xd vi vd
            have HN' : Hid (NoneYet L v (done ++ [x.id])) := HN.out.add HND.out HV.out (fun e => e.2 h4.out)
            go_roundg (L.length - (done ++ [x.id]).length)
            case rel => exact ⟨done ++ [x.id], rfl, HN', HRb, HAb, HBb⟩
            case measure =>
              have e2 := HGK.out
              have e1 : (done ++ [x.id]).length ≤ L.length := range_le HRb.out
              rw [List.length_append, List.length_singleton] at *
              omega
          · go_returns
            exact ⟨(by rw [HRR.out, chk15b HPI.out HN8.out (Int.not_lt.2 HFL.out) HPO.out HV.out h4.out.1 h4.out.2]; rfl), HBb.out⟩
end Go.Proofs.Ytodnmhflafpefaa
