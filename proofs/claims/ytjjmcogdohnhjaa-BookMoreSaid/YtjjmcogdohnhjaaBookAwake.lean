/-
  The statements' example: awake.
-/
import Derived.Test.YtjjmcogdohnhjaaBookNote
import Derived.Test.YtjjmcogdohnhjaaBookSmall
import Derived.WalkLawsBesides
import Derived.Outline
import Derived.Handy
set_option linter.unusedSimpArgs false
set_option linter.unusedVariables false
namespace Go.Proofs.Ytjjmcogdohnhjaa
open Go.RowKit

theorem ntH (sm nm : Nat) : ¬ NT 39 := by unfold NT; decide
/-- A slice literal of two digests. -/
theorem wp_bsH2 {P : Program} {o : Oper} {a : Act} {w : World} {K : Act → World → Prop} {Q : Exit → Act → World → Prop} (t e : TypeId) (x y : Operand) (ho : o.op = .buildSlice t 2 #[(0, x), (1, y)])
    (l r : List UInt8) (hl : l.length = 32) (hr : r.length = 32) (hx : a.eval x = .agg (l.map bv).toArray) (hy : a.eval y = .agg (r.map bv).toArray) (hu : P.underlying t = some (.slice e)) (hz : (P.info? e).map (fun i => (i.zero, i.size)) = some (some (.agg Z32), 32))
    (h : ∀ g w', g = w.heap.size → w'.heap.size = g + 1 → Below w.heap.size w w' → Blk w' g ((l ++ r).map bv).toArray e → K (a.put o.dst (.slice (some ⟨g, 0, none⟩) 2 2)) w') : o.wp P a w K Q :=
  wp_bs64 t e x y ho l r hl hr hx hy hu hz (h _ _ rfl (by simp) (below_alloc1 _ _) (Blk.new _ _ _))
theorem wpList_bsH2 {P : Program} {ops : Array Oper} {rest : List Oper} {o : Oper} {a : Act} {w : World} {Q : Exit → Act → World → Prop} (hg : o.guard = none) (t e : TypeId) (x y : Operand) (ho : o.op = .buildSlice t 2 #[(0, x), (1, y)])
    (l r : List UInt8) (hl : l.length = 32) (hr : r.length = 32) (hx : a.eval x = .agg (l.map bv).toArray) (hy : a.eval y = .agg (r.map bv).toArray) (hu : P.underlying t = some (.slice e)) (hz : (P.info? e).map (fun i => (i.zero, i.size)) = some (some (.agg Z32), 32))
    (h : ∀ g w', g = w.heap.size → w'.heap.size = g + 1 → Below w.heap.size w w' → Blk w' g ((l ++ r).map bv).toArray e → wpList P ops Q rest (a.put o.dst (.slice (some ⟨g, 0, none⟩) 2 2)) w') : wpList P ops Q (o :: rest) a w :=
  wpList_plain hg fun _ hK => wp_bsH2 t e x y ho l r hl hr hx hy hu hz (fun g w' h1 h2 h3 h4 => hK _ _ (h g w' h1 h2 h3 h4))
theorem HashesAt.blk1 {w : World} {q c : Nat} {t : TypeId} {h : HsT} (hg : Blk w q (h.map bv).toArray t) (hh : h.length = 32) (hc : 1 ≤ c) : HashesAt w (.slice (some ⟨q, 0, none⟩) 1 c) [h] :=
  ⟨fun x hx => by rw [List.mem_singleton.1 hx]; exact hh, .inr ⟨q, 0, c, rfl, hc, hg.lt, fun j u hj => by rw [Nat.zero_add]; exact hg.cell j u (by rw [List.getElem?_toArray]; simpa using hj)⟩⟩
theorem HashesAt.blk2 {w : World} {q c : Nat} {t : TypeId} {h k : HsT} (hg : Blk w q ((h ++ k).map bv).toArray t) (hh : h.length = 32) (hk : k.length = 32) (hc : 2 ≤ c) : HashesAt w (.slice (some ⟨q, 0, none⟩) 2 c) [h, k] :=
  ⟨fun x hx => by
    rcases List.mem_cons.1 hx with rfl | hx
    · exact hh
    · rw [List.mem_singleton.1 hx]; exact hk, .inr ⟨q, 0, c, rfl, hc, hg.lt, fun j u hj => by rw [Nat.zero_add]; exact hg.cell j u (by rw [List.getElem?_toArray]; simpa using hj)⟩⟩
/-- The example. -/
def dA (n : UInt8) : HsT := n :: List.replicate 31 0
theorem dA_len (n : UInt8) : Hid ((dA n).length = 32) := by show _ = _; simp [dA]
def fA1 : FactT := ⟨[dA 1], [dA 2]⟩
def fA2 : FactT := ⟨[dA 2, dA 3], [dA 4]⟩
theorem fA1_ok : FOk fA1 := ⟨fun x hx => by rw [List.mem_singleton.1 hx]; exact (dA_len 1).out, fun x hx => by rw [List.mem_singleton.1 hx]; exact (dA_len 2).out, by simp [fA1], by simp [fA1]⟩
theorem fA2_ok : FOk fA2 := ⟨fun x hx => by
  rcases List.mem_cons.1 hx with rfl | hx
  · exact (dA_len 2).out
  · rw [List.mem_singleton.1 hx]; exact (dA_len 3).out, fun x hx => by rw [List.mem_singleton.1 hx]; exact (dA_len 4).out, by simp [fA2], by simp [fA2]⟩
theorem folA_no : ¬ Fol [fA1, fA2] [dA 1] (dA 4) := fun h => by
  have := closed_fol (O := [dA 1, dA 2]) (by decide) (by decide) h
  exact absurd this (by decide)
theorem folA_yes : Fol [fA1, fA2] [dA 1, dA 3] (dA 4) :=
  .step (f := fA2) (by decide) (fun x hx => by
    rcases List.mem_cons.1 hx with rfl | hx
    · exact .step (f := fA1) (by decide) (fun y hy => by rw [List.mem_singleton.1 hy]; exact .base (by decide)) (by decide)
    · rw [List.mem_singleton.1 hx]; exact .base (by decide)) (by decide)
theorem folA_all (h : HsT) : Fol [fA1, fA2] [dA 1] h ↔ h ∈ [dA 1, dA 2] :=
  ⟨fun h => closed_fol (by decide) (by decide) h, fun h => by
    rcases List.mem_cons.1 h with rfl | h
    · exact .base (by decide)
    · rw [List.mem_singleton.1 h]
      exact .step (f := fA1) (by decide) (fun y hy => by rw [List.mem_singleton.1 hy]; exact .base (by decide)) (by decide)⟩
theorem folA_len {R : List HsT} (hr : R.Nodup) (hm : ∀ h, h ∈ R ↔ Fol [fA1, fA2] [dA 1] h) : R.length = 2 := by
  have h1 : R.length ≤ [dA 1, dA 2].length := nodup_len hr (fun x hx => (folA_all x).1 ((hm x).1 hx))
  have h2 : [dA 1, dA 2].length ≤ R.length := nodup_len (by decide) (fun x hx => (hm x).2 ((folA_all x).2 hx))
  simp at h1 h2
  omega
set_option maxHeartbeats 16000000 in
set_option maxRecDepth 100000 in
theorem awake_calls (w : World) :
    Calls Try.prog 8 #[] w fun e w' => e = .returned (.bool true) ∧ Below w.heap.size w w' := by
  have HA := dA_len 1
  have HB := dA_len 2
  have HC := dA_len 3
  have HDD := dA_len 4
  obtain ⟨base, hbase⟩ : ∃ base, base = w.heap.size := ⟨_, rfl⟩
  have HBS : Hid (base = w.heap.size) := hbase
  rw [← hbase]
  have hB0 := Below.refl base w
  go_enter Try.func8, Try.ntmps8
  go_wp2_with (first | ((with_reducible show wpList _ _ _ (⟨some 8, _, _, _, _, _⟩ :: _) _ _); refine wpList_buildCells rfl 39 #[(0, .const (.int .u8 1))] rfl (((dA 1).map bv).toArray) (by kernel_rfl) ?_) | ((with_reducible show wpList _ _ _ (⟨some 9, _, _, _, _, _⟩ :: _) _ _); refine wpList_buildCells rfl 39 #[(0, .const (.int .u8 2))] rfl (((dA 2).map bv).toArray) (by kernel_rfl) ?_) | ((with_reducible show wpList _ _ _ (⟨some 10, _, _, _, _, _⟩ :: _) _ _); refine wpList_buildCells rfl 39 #[(0, .const (.int .u8 3))] rfl (((dA 3).map bv).toArray) (by kernel_rfl) ?_) | ((with_reducible show wpList _ _ _ (⟨some 11, _, _, _, _, _⟩ :: _) _ _); refine wpList_buildCells rfl 39 #[(0, .const (.int .u8 4))] rfl (((dA 4).map bv).toArray) (by kernel_rfl) ?_) | ((with_reducible show wpList _ _ _ (⟨some 1, _, _, _, _, _⟩ :: _) _ _); refine wpList_allocZ rfl 39 rfl _ Try.zeroHash ?_; intro wq1 hsq2 baq3 hNq4; have hBq5 := hB0.trans (baq3.mono (Nat.le_trans (Nat.le_of_eq HBS.out) hB0.size)); clear hB0; clear baq3 hsq2) | ((with_reducible show wpList _ _ _ (⟨some 2, _, _, _, _, _⟩ :: _) _ _); refine wpList_allocZ rfl 39 rfl _ Try.zeroHash ?_; intro wq6 hsq7 baq8 hNq9; have ltq10 : w.heap.size < wq1.heap.size := hNq4.lt; have hCq11 := hNq4.below baq8 hNq4.lt; have hBq12 := hBq5.trans (baq8.mono (Nat.le_trans (Nat.le_of_eq HBS.out) hBq5.size)); clear hNq4 hBq5; clear baq8 hsq7) | ((with_reducible show wpList _ _ _ (⟨some 3, _, _, _, _, _⟩ :: _) _ _); refine wpList_allocZ rfl 39 rfl _ Try.zeroHash ?_; intro wq13 hsq14 baq15 hNq16; have ltq17 : w.heap.size < wq6.heap.size := hCq11.lt; have ltq18 : wq1.heap.size < wq6.heap.size := hNq9.lt; have hCq19 := hCq11.below baq15 hCq11.lt; have hCq20 := hNq9.below baq15 hNq9.lt; have hBq21 := hBq12.trans (baq15.mono (Nat.le_trans (Nat.le_of_eq HBS.out) hBq12.size)); clear hCq11 hNq9 hBq12; clear baq15 hsq14) | ((with_reducible show wpList _ _ _ (⟨some 4, _, _, _, _, _⟩ :: _) _ _); refine wpList_allocZ rfl 39 rfl _ Try.zeroHash ?_; intro wq22 hsq23 baq24 hNq25; have ltq26 : w.heap.size < wq13.heap.size := hCq19.lt; have ltq27 : wq1.heap.size < wq13.heap.size := hCq20.lt; have ltq28 : wq6.heap.size < wq13.heap.size := hNq16.lt; have hCq29 := hCq19.below baq24 hCq19.lt; have hCq30 := hCq20.below baq24 hCq20.lt; have hCq31 := hNq16.below baq24 hNq16.lt; have hBq32 := hBq21.trans (baq24.mono (Nat.le_trans (Nat.le_of_eq HBS.out) hBq21.size)); clear hCq19 hCq20 hNq16 hBq21; clear baq24 hsq23) | ((with_reducible show wpList _ _ _ (⟨none, Op.store _ (.tmp 1) _, _, _, _, _⟩ :: _) _ _); refine wpList_storeBlk rfl 39 (.tmp 1) (.tmp 8) rfl (w.heap.size) (((dA 1).map bv).toArray) (by rfl) (by rfl) _ _ hCq29 (by rw [bv_size, HA.out]; exact Try.sizeHash) (by rw [bv_size, HA.out, Z32_size]) (bv_all _) ?_; intro wq33 hKq34 gq35; have ltq36 : w.heap.size < wq22.heap.size := hCq29.lt; have ltq37 : wq1.heap.size < wq22.heap.size := hCq30.lt; have ltq38 : wq6.heap.size < wq22.heap.size := hCq31.lt; have ltq39 : wq13.heap.size < wq22.heap.size := hNq25.lt; have hCq40 := hCq30.grown gq35 (by simp; omega); have hCq41 := hCq31.grown gq35 (by simp; omega); have hCq42 := hNq25.grown gq35 (by simp; omega); have hBq43 := hBq32.grown gq35 (Nat.le_trans (Nat.le_of_eq HBS.out) hBq32.size) (fun q e => by cases e; omega); clear gq35 hCq29 hCq30 hCq31 hNq25 hBq32) | ((with_reducible show wpList _ _ _ (⟨none, Op.store _ (.tmp 2) _, _, _, _, _⟩ :: _) _ _); refine wpList_storeBlk rfl 39 (.tmp 2) (.tmp 9) rfl (wq1.heap.size) (((dA 2).map bv).toArray) (by rfl) (by rfl) _ _ hCq40 (by rw [bv_size, HB.out]; exact Try.sizeHash) (by rw [bv_size, HB.out, Z32_size]) (bv_all _) ?_; intro wq44 hKq45 gq46; have ltq47 : w.heap.size < wq33.heap.size := hKq34.lt; have ltq48 : wq1.heap.size < wq33.heap.size := hCq40.lt; have ltq49 : wq6.heap.size < wq33.heap.size := hCq41.lt; have ltq50 : wq13.heap.size < wq33.heap.size := hCq42.lt; have hCq51 := hKq34.grown gq46 (by simp; omega); have hCq52 := hCq41.grown gq46 (by simp; omega); have hCq53 := hCq42.grown gq46 (by simp; omega); have hBq54 := hBq43.grown gq46 (Nat.le_trans (Nat.le_of_eq HBS.out) hBq43.size) (fun q e => by cases e; omega); clear gq46 hCq40 hKq34 hCq41 hCq42 hBq43) | ((with_reducible show wpList _ _ _ (⟨none, Op.store _ (.tmp 3) _, _, _, _, _⟩ :: _) _ _); refine wpList_storeBlk rfl 39 (.tmp 3) (.tmp 10) rfl (wq6.heap.size) (((dA 3).map bv).toArray) (by rfl) (by rfl) _ _ hCq52 (by rw [bv_size, HC.out]; exact Try.sizeHash) (by rw [bv_size, HC.out, Z32_size]) (bv_all _) ?_; intro wq55 hKq56 gq57; have ltq58 : w.heap.size < wq44.heap.size := hCq51.lt; have ltq59 : wq1.heap.size < wq44.heap.size := hKq45.lt; have ltq60 : wq6.heap.size < wq44.heap.size := hCq52.lt; have ltq61 : wq13.heap.size < wq44.heap.size := hCq53.lt; have hCq62 := hCq51.grown gq57 (by simp; omega); have hCq63 := hKq45.grown gq57 (by simp; omega); have hCq64 := hCq53.grown gq57 (by simp; omega); have hBq65 := hBq54.grown gq57 (Nat.le_trans (Nat.le_of_eq HBS.out) hBq54.size) (fun q e => by cases e; omega); clear gq57 hCq52 hCq51 hKq45 hCq53 hBq54) | ((with_reducible show wpList _ _ _ (⟨none, Op.store _ (.tmp 4) _, _, _, _, _⟩ :: _) _ _); refine wpList_storeBlk rfl 39 (.tmp 4) (.tmp 11) rfl (wq13.heap.size) (((dA 4).map bv).toArray) (by rfl) (by rfl) _ _ hCq64 (by rw [bv_size, HDD.out]; exact Try.sizeHash) (by rw [bv_size, HDD.out, Z32_size]) (bv_all _) ?_; intro wq66 hKq67 gq68; have ltq69 : w.heap.size < wq55.heap.size := hCq62.lt; have ltq70 : wq1.heap.size < wq55.heap.size := hCq63.lt; have ltq71 : wq6.heap.size < wq55.heap.size := hKq56.lt; have ltq72 : wq13.heap.size < wq55.heap.size := hCq64.lt; have hCq73 := hCq62.grown gq68 (by simp; omega); have hCq74 := hCq63.grown gq68 (by simp; omega); have hCq75 := hKq56.grown gq68 (by simp; omega); have hBq76 := hBq65.grown gq68 (Nat.le_trans (Nat.le_of_eq HBS.out) hBq65.size) (fun q e => by cases e; omega); clear gq68 hCq64 hCq62 hCq63 hKq56 hBq65))
  have ltq79 : w.heap.size < wq66.heap.size := hCq73.lt
  have ltq80 : wq1.heap.size < wq66.heap.size := hCq74.lt
  have ltq81 : wq6.heap.size < wq66.heap.size := hCq75.lt
  have ltq82 : wq13.heap.size < wq66.heap.size := hKq67.lt
  refine (New_calls _).mono ?_
  rintro e wq77 ⟨bk, sm, nm, dm, rfl, hbi, bq78⟩
  have hCq83 := hCq73.below bq78 hCq73.lt
  have hCq84 := hCq74.below bq78 hCq74.lt
  have hCq85 := hCq75.below bq78 hCq75.lt
  have hCq86 := hKq67.below bq78 hKq67.lt
  have hBq87 := hBq76.trans (bq78.mono (Nat.le_trans (Nat.le_of_eq HBS.out) hBq76.size))
  clear hCq73 hCq74 hCq75 hKq67 hBq76
  clear bq78
  have hHq88 := Lib.hid hbi
  clear hbi
  -- base
  have hbi2 := hHq88.out
  clear hHq88
  obtain ⟨B, hbi3, hBle, hBcur⟩ : ∃ B, BookIs wq77 B bk sm nm dm [] (fun _ => none) ∧ base ≤ B ∧ B ≤ wq77.heap.size := ⟨_, hbi2, by have := hBq87.size; have := HBS.out; omega, by have := hbi2.box; obtain ⟨_, hh, _⟩ := this; have := hh.lt; have := hbi2.above.1; omega⟩
  have HBI := Lib.hid hbi3
  clear hbi2 hbi3
  go_wp2_with (first | ((with_reducible show wpList _ _ _ (⟨some 14, _, _, _, _, _⟩ :: _) _ _); refine wpList_load_mid rfl 39 (.tmp 1) rfl (w.heap.size) 0 (by rfl) ((dA 1).map bv) _ (blk_rangeP hCq83) Try.underlying39 rfl (by rw [List.length_map, HA.out]; exact Try.sizeHash) ?_) | ((with_reducible show wpList _ _ _ (⟨some 15, _, _, _, _, _⟩ :: _) _ _); refine wpList_bsH rfl 23 39 (.tmp 14) rfl (dA 1) HA.out (by rfl) Try.underlying23 Try.infoHash2 ?_; intro qq89 wq90 eqq91 szq92 bbq93 hNq94; have ltq95 : w.heap.size < wq77.heap.size := hCq83.lt; have ltq96 : wq1.heap.size < wq77.heap.size := hCq84.lt; have ltq97 : wq6.heap.size < wq77.heap.size := hCq85.lt; have ltq98 : wq13.heap.size < wq77.heap.size := hCq86.lt; have hCq99 := hCq83.below bbq93 hCq83.lt; have hCq100 := hCq84.below bbq93 hCq84.lt; have hCq101 := hCq85.below bbq93 hCq85.lt; have hCq102 := hCq86.below bbq93 hCq86.lt; have hCq103 := Lib.hid (HBI.out.below bbq93); have hBq104 := hBq87.trans (bbq93.mono (Nat.le_trans (Nat.le_of_eq HBS.out) hBq87.size)); clear hCq83 hCq84 hCq85 hCq86 HBI hBq87; clear bbq93 eqq91 szq92) | ((with_reducible show wpList _ _ _ (⟨some 16, _, _, _, _, _⟩ :: _) _ _); refine wpList_load_mid rfl 39 (.tmp 2) rfl (wq1.heap.size) 0 (by rfl) ((dA 2).map bv) _ (blk_rangeP hCq100) Try.underlying39 rfl (by rw [List.length_map, HB.out]; exact Try.sizeHash) ?_) | ((with_reducible show wpList _ _ _ (⟨some 17, _, _, _, _, _⟩ :: _) _ _); refine wpList_bsH rfl 23 39 (.tmp 16) rfl (dA 2) HB.out (by rfl) Try.underlying23 Try.infoHash2 ?_; intro qq105 wq106 eqq107 szq108 bbq109 hNq110; have ltq111 : w.heap.size < wq90.heap.size := hCq99.lt; have ltq112 : wq1.heap.size < wq90.heap.size := hCq100.lt; have ltq113 : wq6.heap.size < wq90.heap.size := hCq101.lt; have ltq114 : wq13.heap.size < wq90.heap.size := hCq102.lt; have ltq115 : qq89 < wq90.heap.size := hNq94.lt; have hCq116 := hCq99.below bbq109 hCq99.lt; have hCq117 := hCq100.below bbq109 hCq100.lt; have hCq118 := hCq101.below bbq109 hCq101.lt; have hCq119 := hCq102.below bbq109 hCq102.lt; have hCq120 := Lib.hid (hCq103.out.below bbq109); have hCq121 := hNq94.below bbq109 hNq94.lt; have hBq122 := hBq104.trans (bbq109.mono (Nat.le_trans (Nat.le_of_eq HBS.out) hBq104.size)); clear hCq99 hCq100 hCq101 hCq102 hCq103 hNq94 hBq104; clear bbq109 eqq107 szq108))
  skip
  go_wp2_with fail
  have ltq127 : w.heap.size < wq106.heap.size := hCq116.lt
  have ltq128 : wq1.heap.size < wq106.heap.size := hCq117.lt
  have ltq129 : wq6.heap.size < wq106.heap.size := hCq118.lt
  have ltq130 : wq13.heap.size < wq106.heap.size := hCq119.lt
  have ltq131 : qq89 < wq106.heap.size := hCq121.lt
  have ltq132 : qq105 < wq106.heap.size := hNq110.lt
  refine (NoteNew_calls (.slice (some ⟨qq89, 0, none⟩) 1 1) (.slice (some ⟨qq105, 0, none⟩) 1 1) fA1 B bk sm nm dm [] _ wq106 hCq120.out (fun w' hf hb => ⟨HashesAt.blk1 (hCq121.frm hf (ntH 0 0)) HA.out (by omega), HashesAt.blk1 (hNq110.frm hf (ntH 0 0)) HB.out (by omega)⟩) fA1_ok (fun g hg => by cases hg) (by simp [fA1]) (by simp) (by simp [fA1]) (by have := hCq120.out.box; obtain ⟨_, hh, _⟩ := this; have := hh.lt; have := hCq120.out.above.1; omega) (by decide)).mono ?_
  rintro e wq123 ⟨rfl, hbiq124, hfrq125, bq126⟩
  have hCq133 := hCq116.frm hfrq125 (ntH 0 0)
  have hCq134 := hCq117.frm hfrq125 (ntH 0 0)
  have hCq135 := hCq118.frm hfrq125 (ntH 0 0)
  have hCq136 := hCq119.frm hfrq125 (ntH 0 0)
  have hCq137 := hCq121.frm hfrq125 (ntH 0 0)
  have hCq138 := hNq110.frm hfrq125 (ntH 0 0)
  have hBq139 := hBq122.trans (bq126.mono (hBle))
  have hHq140 := Lib.hid hbiq124
  clear hbiq124 hfrq125 bq126 hCq116 hCq117 hCq118 hCq119 hCq120 hCq121 hNq110 hBq122
  go_wp2_with (first | ((with_reducible show wpList _ _ _ (⟨some 21, _, _, _, _, _⟩ :: _) _ _); refine wpList_load_mid rfl 39 (.tmp 2) rfl (wq1.heap.size) 0 (by rfl) ((dA 2).map bv) _ (blk_rangeP hCq134) Try.underlying39 rfl (by rw [List.length_map, HB.out]; exact Try.sizeHash) ?_) | ((with_reducible show wpList _ _ _ (⟨some 22, _, _, _, _, _⟩ :: _) _ _); refine wpList_load_mid rfl 39 (.tmp 3) rfl (wq6.heap.size) 0 (by rfl) ((dA 3).map bv) _ (blk_rangeP hCq135) Try.underlying39 rfl (by rw [List.length_map, HC.out]; exact Try.sizeHash) ?_) | ((with_reducible show wpList _ _ _ (⟨some 23, _, _, _, _, _⟩ :: _) _ _); refine wpList_bsH2 rfl 23 39 (.tmp 21) (.tmp 22) rfl (dA 2) (dA 3) HB.out HC.out (by rfl) (by rfl) Try.underlying23 Try.infoHash2 ?_; intro qq141 wq142 eqq143 szq144 bbq145 hNq146; have ltq147 : w.heap.size < wq123.heap.size := hCq133.lt; have ltq148 : wq1.heap.size < wq123.heap.size := hCq134.lt; have ltq149 : wq6.heap.size < wq123.heap.size := hCq135.lt; have ltq150 : wq13.heap.size < wq123.heap.size := hCq136.lt; have hCq151 := hCq133.below bbq145 hCq133.lt; have hCq152 := hCq134.below bbq145 hCq134.lt; have hCq153 := hCq135.below bbq145 hCq135.lt; have hCq154 := hCq136.below bbq145 hCq136.lt; have hCq155 := Lib.hid (hHq140.out.below bbq145); have hBq156 := hBq139.trans (bbq145.mono (Nat.le_trans (Nat.le_of_eq HBS.out) hBq139.size)); clear hCq133 hCq134 hCq135 hCq136 hHq140 hBq139; clear bbq145 eqq143 szq144) | ((with_reducible show wpList _ _ _ (⟨some 24, _, _, _, _, _⟩ :: _) _ _); refine wpList_load_mid rfl 39 (.tmp 4) rfl (wq13.heap.size) 0 (by rfl) ((dA 4).map bv) _ (blk_rangeP hCq154) Try.underlying39 rfl (by rw [List.length_map, HDD.out]; exact Try.sizeHash) ?_) | ((with_reducible show wpList _ _ _ (⟨some 25, _, _, _, _, _⟩ :: _) _ _); refine wpList_bsH rfl 23 39 (.tmp 24) rfl (dA 4) HDD.out (by rfl) Try.underlying23 Try.infoHash2 ?_; intro qq157 wq158 eqq159 szq160 bbq161 hNq162; have ltq163 : w.heap.size < wq142.heap.size := hCq151.lt; have ltq164 : wq1.heap.size < wq142.heap.size := hCq152.lt; have ltq165 : wq6.heap.size < wq142.heap.size := hCq153.lt; have ltq166 : wq13.heap.size < wq142.heap.size := hCq154.lt; have ltq167 : qq141 < wq142.heap.size := hNq146.lt; have hCq168 := hCq151.below bbq161 hCq151.lt; have hCq169 := hCq152.below bbq161 hCq152.lt; have hCq170 := hCq153.below bbq161 hCq153.lt; have hCq171 := hCq154.below bbq161 hCq154.lt; have hCq172 := Lib.hid (hCq155.out.below bbq161); have hCq173 := hNq146.below bbq161 hNq146.lt; have hBq174 := hBq156.trans (bbq161.mono (Nat.le_trans (Nat.le_of_eq HBS.out) hBq156.size)); clear hCq151 hCq152 hCq153 hCq154 hCq155 hNq146 hBq156; clear bbq161 eqq159 szq160))
  go_wp2_with fail
  have ltq179 : w.heap.size < wq158.heap.size := hCq168.lt
  have ltq180 : wq1.heap.size < wq158.heap.size := hCq169.lt
  have ltq181 : wq6.heap.size < wq158.heap.size := hCq170.lt
  have ltq182 : wq13.heap.size < wq158.heap.size := hCq171.lt
  have ltq183 : qq141 < wq158.heap.size := hCq173.lt
  have ltq184 : qq157 < wq158.heap.size := hNq162.lt
  refine (NoteNew_calls (.slice (some ⟨qq141, 0, none⟩) 2 2) (.slice (some ⟨qq157, 0, none⟩) 1 1) fA2 B bk sm nm dm ([] ++ [fA1]) _ wq158 hCq172.out (fun w' hf hb => ⟨HashesAt.blk2 (hCq173.frm hf (ntH 0 0)) HB.out HC.out (by omega), HashesAt.blk1 (hNq162.frm hf (ntH 0 0)) HDD.out (by omega)⟩) fA2_ok (fun g hg => by rw [List.mem_singleton.1 hg]; exact fA1_ok) (by simp [fA2]) (by simp) (by simp [fA1]) (by have := hCq172.out.box; obtain ⟨_, hh, _⟩ := this; have := hh.lt; have := hCq172.out.above.1; omega) (by decide)).mono ?_
  rintro e wq175 ⟨rfl, hbiq176, hfrq177, bq178⟩
  have hCq185 := hCq168.frm hfrq177 (ntH 0 0)
  have hCq186 := hCq169.frm hfrq177 (ntH 0 0)
  have hCq187 := hCq170.frm hfrq177 (ntH 0 0)
  have hCq188 := hCq171.frm hfrq177 (ntH 0 0)
  have hCq189 := hCq173.frm hfrq177 (ntH 0 0)
  have hCq190 := hNq162.frm hfrq177 (ntH 0 0)
  have hBq191 := hBq174.trans (bq178.mono (hBle))
  have hHq192 := Lib.hid hbiq176
  clear hbiq176 hfrq177 bq178 hCq168 hCq169 hCq170 hCq171 hCq172 hCq173 hNq162 hBq174
  go_wp2_with fail
  refine (Len_calls B bk sm nm dm [fA1, fA2] _ _ hHq192.out).mono ?_
  rintro e ww ⟨rfl, hww⟩
  subst ww
  rw [show (([fA1, fA2].length : Nat) : Int) = 2 from rfl]
  go_wp2_with (first | ((with_reducible show wpList _ _ _ (⟨some 41, _, _, _, _, _⟩ :: _) _ _); refine wpList_if (by rfl) (wp_load_mid 39 (.tmp 4) rfl (wq13.heap.size) 0 (by rfl) ((dA 4).map bv) _ (blk_rangeP hCq188) Try.underlying39 rfl (by rw [List.length_map, HDD.out]; exact Try.sizeHash) ?_)) | ((with_reducible show wpList _ _ _ (⟨some 42, _, _, _, _, _⟩ :: _) _ _); refine wpList_if (by rfl) (wp_load_mid 39 (.tmp 1) rfl (w.heap.size) 0 (by rfl) ((dA 1).map bv) _ (blk_rangeP hCq185) Try.underlying39 rfl (by rw [List.length_map, HA.out]; exact Try.sizeHash) ?_)) | ((with_reducible show wpList _ _ _ (⟨some 43, _, _, _, _, _⟩ :: _) _ _); refine wpList_if (by rfl) (wp_bsH 23 39 (.tmp 42) rfl (dA 1) HA.out (by rfl) Try.underlying23 Try.infoHash2 ?_); intro qq193 wq194 eqq195 szq196 bbq197 hNq198; have ltq199 : w.heap.size < wq175.heap.size := hCq185.lt; have ltq200 : wq1.heap.size < wq175.heap.size := hCq186.lt; have ltq201 : wq6.heap.size < wq175.heap.size := hCq187.lt; have ltq202 : wq13.heap.size < wq175.heap.size := hCq188.lt; have hCq203 := hCq185.below bbq197 hCq185.lt; have hCq204 := hCq186.below bbq197 hCq186.lt; have hCq205 := hCq187.below bbq197 hCq187.lt; have hCq206 := hCq188.below bbq197 hCq188.lt; have hCq207 := Lib.hid (hHq192.out.below bbq197); have hBq208 := hBq191.trans (bbq197.mono (Nat.le_trans (Nat.le_of_eq HBS.out) hBq191.size)); clear hCq185 hCq186 hCq187 hCq188 hHq192 hBq191; clear bbq197 eqq195 szq196))
  have ltq211 : w.heap.size < wq194.heap.size := hCq203.lt
  have ltq212 : wq1.heap.size < wq194.heap.size := hCq204.lt
  have ltq213 : wq6.heap.size < wq194.heap.size := hCq205.lt
  have ltq214 : wq13.heap.size < wq194.heap.size := hCq206.lt
  have ltq215 : qq193 < wq194.heap.size := hNq198.lt
  refine (Knows_calls _ _ (dA 4) [dA 1] [fA1, fA2] _ HDD.out (fun w' hb => known_post _ [dA 1] bk [fA1, fA2] w' ((HashesAt.blk1 (c := 1) hNq198 HA.out (by omega)).below hb) ((hCq207.out.rd).below hb) (by simp [univ, fA1, fA2]) (by simp) (by simp [fA1, fA2])) false (by simp [folA_no])).mono ?_
  rintro e wq209 ⟨rfl, bq210⟩
  have hCq216 := hCq203.below bq210 hCq203.lt
  have hCq217 := hCq204.below bq210 hCq204.lt
  have hCq218 := hCq205.below bq210 hCq205.lt
  have hCq219 := hCq206.below bq210 hCq206.lt
  have hCq220 := Lib.hid (hCq207.out.below bq210)
  have hCq221 := hNq198.below bq210 hNq198.lt
  have hBq222 := hBq208.trans (bq210.mono (Nat.le_trans (Nat.le_of_eq HBS.out) hBq208.size))
  clear hCq203 hCq204 hCq205 hCq206 hCq207 hNq198 hBq208
  clear bq210
  go_wp2_with (first | ((with_reducible show wpList _ _ _ (⟨some 49, _, _, _, _, _⟩ :: _) _ _); refine wpList_if (by rfl) (wp_load_mid 39 (.tmp 4) rfl (wq13.heap.size) 0 (by rfl) ((dA 4).map bv) _ (blk_rangeP hCq219) Try.underlying39 rfl (by rw [List.length_map, HDD.out]; exact Try.sizeHash) ?_)) | ((with_reducible show wpList _ _ _ (⟨some 50, _, _, _, _, _⟩ :: _) _ _); refine wpList_if (by rfl) (wp_load_mid 39 (.tmp 1) rfl (w.heap.size) 0 (by rfl) ((dA 1).map bv) _ (blk_rangeP hCq216) Try.underlying39 rfl (by rw [List.length_map, HA.out]; exact Try.sizeHash) ?_)) | ((with_reducible show wpList _ _ _ (⟨some 51, _, _, _, _, _⟩ :: _) _ _); refine wpList_if (by rfl) (wp_load_mid 39 (.tmp 3) rfl (wq6.heap.size) 0 (by rfl) ((dA 3).map bv) _ (blk_rangeP hCq218) Try.underlying39 rfl (by rw [List.length_map, HC.out]; exact Try.sizeHash) ?_)) | ((with_reducible show wpList _ _ _ (⟨some 52, _, _, _, _, _⟩ :: _) _ _); refine wpList_if (by rfl) (wp_bsH2 23 39 (.tmp 50) (.tmp 51) rfl (dA 1) (dA 3) HA.out HC.out (by rfl) (by rfl) Try.underlying23 Try.infoHash2 ?_); intro qq223 wq224 eqq225 szq226 bbq227 hNq228; have ltq229 : w.heap.size < wq209.heap.size := hCq216.lt; have ltq230 : wq1.heap.size < wq209.heap.size := hCq217.lt; have ltq231 : wq6.heap.size < wq209.heap.size := hCq218.lt; have ltq232 : wq13.heap.size < wq209.heap.size := hCq219.lt; have hCq233 := hCq216.below bbq227 hCq216.lt; have hCq234 := hCq217.below bbq227 hCq217.lt; have hCq235 := hCq218.below bbq227 hCq218.lt; have hCq236 := hCq219.below bbq227 hCq219.lt; have hCq237 := Lib.hid (hCq220.out.below bbq227); have hBq238 := hBq222.trans (bbq227.mono (Nat.le_trans (Nat.le_of_eq HBS.out) hBq222.size)); clear hCq216 hCq217 hCq218 hCq219 hCq220 hBq222; clear bbq227 eqq225 szq226))
  have ltq241 : w.heap.size < wq224.heap.size := hCq233.lt
  have ltq242 : wq1.heap.size < wq224.heap.size := hCq234.lt
  have ltq243 : wq6.heap.size < wq224.heap.size := hCq235.lt
  have ltq244 : wq13.heap.size < wq224.heap.size := hCq236.lt
  have ltq245 : qq223 < wq224.heap.size := hNq228.lt
  refine (Knows_calls _ _ (dA 4) [dA 1, dA 3] [fA1, fA2] _ HDD.out (fun w' hb => known_post _ [dA 1, dA 3] bk [fA1, fA2] w' ((HashesAt.blk2 (c := 2) hNq228 HA.out HC.out (by omega)).below hb) ((hCq237.out.rd).below hb) (by simp [univ, fA1, fA2]) (by simp) (by simp [fA1, fA2])) true (by simp [folA_yes])).mono ?_
  rintro e wq239 ⟨rfl, bq240⟩
  have hCq246 := hCq233.below bq240 hCq233.lt
  have hCq247 := hCq234.below bq240 hCq234.lt
  have hCq248 := hCq235.below bq240 hCq235.lt
  have hCq249 := hCq236.below bq240 hCq236.lt
  have hCq250 := Lib.hid (hCq237.out.below bq240)
  have hCq251 := hNq228.below bq240 hNq228.lt
  have hBq252 := hBq238.trans (bq240.mono (Nat.le_trans (Nat.le_of_eq HBS.out) hBq238.size))
  clear hCq233 hCq234 hCq235 hCq236 hCq237 hNq228 hBq238
  clear bq240
  go_wp2_with (first | ((with_reducible show wpList _ _ _ (⟨some 57, _, _, _, _, _⟩ :: _) _ _); refine wpList_if (by rfl) (wp_load_mid 39 (.tmp 1) rfl (w.heap.size) 0 (by rfl) ((dA 1).map bv) _ (blk_rangeP hCq246) Try.underlying39 rfl (by rw [List.length_map, HA.out]; exact Try.sizeHash) ?_)) | ((with_reducible show wpList _ _ _ (⟨some 58, _, _, _, _, _⟩ :: _) _ _); refine wpList_if (by rfl) (wp_bsH 23 39 (.tmp 57) rfl (dA 1) HA.out (by rfl) Try.underlying23 Try.infoHash2 ?_); intro qq253 wq254 eqq255 szq256 bbq257 hNq258; have ltq259 : w.heap.size < wq239.heap.size := hCq246.lt; have ltq260 : wq1.heap.size < wq239.heap.size := hCq247.lt; have ltq261 : wq6.heap.size < wq239.heap.size := hCq248.lt; have ltq262 : wq13.heap.size < wq239.heap.size := hCq249.lt; have hCq263 := hCq246.below bbq257 hCq246.lt; have hCq264 := hCq247.below bbq257 hCq247.lt; have hCq265 := hCq248.below bbq257 hCq248.lt; have hCq266 := hCq249.below bbq257 hCq249.lt; have hCq267 := Lib.hid (hCq250.out.below bbq257); have hBq268 := hBq252.trans (bbq257.mono (Nat.le_trans (Nat.le_of_eq HBS.out) hBq252.size)); clear hCq246 hCq247 hCq248 hCq249 hCq250 hBq252; clear bbq257 eqq255 szq256))
  have ltq271 : w.heap.size < wq254.heap.size := hCq263.lt
  have ltq272 : wq1.heap.size < wq254.heap.size := hCq264.lt
  have ltq273 : wq6.heap.size < wq254.heap.size := hCq265.lt
  have ltq274 : wq13.heap.size < wq254.heap.size := hCq266.lt
  have ltq275 : qq253 < wq254.heap.size := hNq258.lt
  refine (Follows_gen _ _ [dA 1] [fA1, fA2] _ (known_post _ [dA 1] bk [fA1, fA2] _ (HashesAt.blk1 (c := 1) hNq258 HA.out (by omega)) hCq267.out.rd (by simp [univ, fA1, fA2]) (by simp) (by simp [fA1, fA2]))).mono ?_
  rintro e wq269 ⟨vr, R, rfl, hat, hri, hmm, -, bq270⟩
  have hCq276 := hCq263.below bq270 hCq263.lt
  have hCq277 := hCq264.below bq270 hCq264.lt
  have hCq278 := hCq265.below bq270 hCq265.lt
  have hCq279 := hCq266.below bq270 hCq266.lt
  have hCq280 := Lib.hid (hCq267.out.below bq270)
  have hCq281 := hNq258.below bq270 hNq258.lt
  have hBq282 := hBq268.trans (bq270.mono (Nat.le_trans (Nat.le_of_eq HBS.out) hBq268.size))
  clear hCq263 hCq264 hCq265 hCq266 hCq267 hNq258 hBq268
  clear bq270
  obtain ⟨ra, rc, rfl, -⟩ := hat.slice
  have hl2 := folA_len hri.nodup hmm
  rw [hl2]
  clear hat hri hmm hl2
  go_wp2_with fail
  go_returns
  exact ⟨rfl, hBq282⟩
end Go.Proofs.Ytjjmcogdohnhjaa
