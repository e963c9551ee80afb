/-
  bevyref08.Right, Place.
-/
import Derived.Test.YtjlpdbaknhbgdaaGreatTreePlace
import Derived.Test.YtjlpdbaknhbgdaaGreatQBough
import Derived.WalkLawsBesides
import Derived.Outline
import Derived.Handy
set_option linter.unusedSimpArgs false
set_option linter.unusedVariables false
namespace Go.Proofs.YtjlpdbaknhbgdaaGreat
open Go.RowKit

open Bg (holdsI Holds_calls leaves thereI leavesI thereI_nat)
theorem RHoldsI (n x l : Int) (w : World) : Calls Tryz.prog 183 #[.int .i64 n, .int .i64 x, .int .i64 l] w fun e w' => e = .returned (.bool (holdsI n x l)) ∧ w = w' := by
  have e : Bg.rholdsI n x l = holdsI n x l := by unfold Bg.rholdsI holdsI; rw [Bg.leavesI_eq]
  rw [← e]; exact Bg.RHolds_calls n x l w
theorem rightLeaf_in {L : List LeafA} {i : Nat} {l : LeafA} (h : L[i]? = some l) (hz : l.isZ = false) (h1 : 1 ≤ l.n) (h6 : l.n ≤ 64) (ha : ∀ k m, k < i → L[k]? = some m → m.n ≠ l.n) : rightLeaf L i = true := by
  unfold rightLeaf
  rw [h]
  show (l.isZ || (decide (1 ≤ l.n ∧ l.n ≤ 64) && _)) = true
  rw [hz, decide_eq_true ⟨h1, h6⟩, Bool.false_or, Bool.true_and, List.all_eq_true]
  intro m hm
  obtain ⟨k, hk, rfl⟩ := List.getElem_of_mem hm
  rw [List.length_take] at hk
  rw [decide_eq_true_eq, List.getElem_take]
  exact ha k _ (by omega) (List.getElem?_eq_getElem (by omega))
theorem rightLeaf_twice {L : List LeafA} {i k : Nat} {l m : LeafA} (h : L[i]? = some l) (hz : l.isZ = false) (hk : k < i) (hm : L[k]? = some m) (e : m.n = l.n) : rightLeaf L i = false := by
  unfold rightLeaf
  rw [h]
  show (l.isZ || (decide (1 ≤ l.n ∧ l.n ≤ 64) && _)) = false
  have : (L.take i).all (fun m => decide (m.n ≠ l.n)) = false := by
    rw [List.all_eq_false]
    refine ⟨m, List.mem_of_getElem? (i := k) (by rw [List.getElem?_take, if_pos hk]; exact hm), by simp [e]⟩
  rw [hz, this]
  simp
set_option maxHeartbeats 40000000 in
set_option maxRecDepth 100000 in
theorem RRight_calls (lo po : Option Addr) (n ac m pc : Nat) (lvs : List Value) (T : TreeT) (w : World) (h : TreeIs w lo n ac po m pc lvs T) (hn : n ≤ 1000000) (hm : m ≤ 1000000) :
    Calls Tryz.prog 129 #[.agg #[.slice lo n ac, .slice po m pc]] w fun e w' => e = .returned (.bool (rightT T)) ∧ Below w.heap.size w w' := by
  have HT := Lib.hid h
  have HLN := Lib.hid h.ln
  have HLM := Lib.hid h.lm
  have hb0 : Below w.heap.size w (w.alloc (.cells #[.slice lo n ac, .slice po m pc] 27)) := below_alloc1 _ _
  have hA0 : Blk (w.alloc (.cells #[.slice lo n ac, .slice po m pc] 27)) w.heap.size #[.slice lo n ac, .slice po m pc] 27 := Blk.new _ _ _
  have HT1 := Lib.hid (h.below hb0)
  obtain ⟨R, hR⟩ : ∃ R, R = rightT T := ⟨_, rfl⟩
  have HRR := Lib.hid hR
  rw [← hR]
  clear h hR
  by_cases h64 : 64 < n
  · have HF : Hid (R = false) := HRR.out.trans (rightT_big (by have := HLN.out; omega))
    go_enter Tryz.func129, Tryz.ntmps129
    go_wp2_with ((with_reducible show wpList _ _ _ (⟨some 12, _, _, _, _, _⟩ :: _) _ _); refine wpList_load1 rfl 24 (.tmp 11) rfl (w.heap.size) 0 (by rfl) _ _ (hA0.cell 0 _ rfl) Tryz.underlying24 rfl ?_)
    go_returns
    exact ⟨by rw [HF.out]; rfl, hb0⟩
  by_cases hmn : m ≠ n - 1
  · have HF : Hid (R = false) := HRR.out.trans (rightT_pars (by rw [HLN.out, HLM.out]; exact hmn))
    have HMN := Lib.hid hmn
    by_cases hn0 : n = 0
    · have e1 : ¬ (0 : Int) < n := by omega
      have e2 : ((n : Int) == 0) = true := by simp [hn0]
      have e3 : (0 : Int) < m := by omega
      have HN0 := Lib.hid hn0
      clear hn0 hmn
      go_enter Tryz.func129, Tryz.ntmps129
      go_wp2_with (first | ((with_reducible show wpList _ _ _ (⟨some 12, _, _, _, _, _⟩ :: _) _ _); refine wpList_load1 rfl 24 (.tmp 11) rfl (w.heap.size) 0 (by rfl) _ _ (hA0.cell 0 _ rfl) Tryz.underlying24 rfl ?_) | ((with_reducible show wpList _ _ _ (⟨some 33, _, _, _, _, _⟩ :: _) _ _); refine wpList_if (by rfl) (wp_load1 25 (.tmp 32) rfl (w.heap.size) 1 (by rfl) _ _ (hA0.cell 1 _ rfl) Tryz.underlying25 rfl ?_)))
      go_returns
      exact ⟨by rw [HF.out]; rfl, hb0⟩
    · have e1 : (0 : Int) < n := by omega
      have e2 : ((m : Int) != (n : Int) - 1) = true := by rw [bne_iff_ne]; omega
      have HN0 := Lib.hid hn0
      clear hn0 hmn
      go_enter Tryz.func129, Tryz.ntmps129
      go_wp2_with (first | ((with_reducible show wpList _ _ _ (⟨some 12, _, _, _, _, _⟩ :: _) _ _); refine wpList_load1 rfl 24 (.tmp 11) rfl (w.heap.size) 0 (by rfl) _ _ (hA0.cell 0 _ rfl) Tryz.underlying24 rfl ?_) | ((with_reducible show wpList _ _ _ (⟨some 21, _, _, _, _, _⟩ :: _) _ _); refine wpList_if (by rfl) (wp_load1 25 (.tmp 20) rfl (w.heap.size) 1 (by rfl) _ _ (hA0.cell 1 _ rfl) Tryz.underlying25 rfl ?_)))
      go_returns
      exact ⟨by rw [HF.out]; rfl, hb0⟩
  have HMN : Hid (m = n - 1) := by show _ = _; omega
  have hm64 : m ≤ 64 := by omega
  clear hmn
  by_cases hn0 : n = 0
  · have e1 : ¬ (0 : Int) < n := by omega
    have e2 : ((n : Int) == 0) = true := by simp [hn0]
    have e3 : ¬ (0 : Int) < m := by have := HMN.out; omega
    have HM0 : Hid (m = 0) := by show _ = _; have := HMN.out; omega
    have HN0 := Lib.hid hn0
    have HF : Hid (R = true) := HRR.out.trans (by rw [rightT_end (by rw [HLN.out]; omega) (by rw [HLN.out, HLM.out]; exact HMN.out) (fun i hi => by rw [HLN.out, HN0.out] at hi; omega) (fun i q hi => by have := (List.getElem?_eq_some_iff.1 hi).1; rw [HLM.out, HM0.out] at this; omega), show T.leaves.isEmpty = true by rw [List.isEmpty_iff_length_eq_zero, HLN.out]; exact HN0.out]; rfl)
    clear hn0
    go_enter Tryz.func129, Tryz.ntmps129
    go_wp2_with (first | ((with_reducible show wpList _ _ _ (⟨some 12, _, _, _, _, _⟩ :: _) _ _); refine wpList_load1 rfl 24 (.tmp 11) rfl (w.heap.size) 0 (by rfl) _ _ (hA0.cell 0 _ rfl) Tryz.underlying24 rfl ?_) | ((with_reducible show wpList _ _ _ (⟨some 33, _, _, _, _, _⟩ :: _) _ _); refine wpList_if (by rfl) (wp_load1 25 (.tmp 32) rfl (w.heap.size) 1 (by rfl) _ _ (hA0.cell 1 _ rfl) Tryz.underlying25 rfl ?_)))
    obtain ⟨W1, hW1⟩ : ∃ z, z = w.alloc (.cells #[.slice lo n ac, .slice po m pc] 27) := ⟨_, rfl⟩
    rw [← hW1] at hA0 hb0 ⊢
    have HA := Lib.hid hA0
    have HB := Lib.hid hb0
    clear hW1 hA0 hb0
    go_loopw [4] (fun j wr => j = .int .i64 0 ∧ Hid (Blk wr w.heap.size #[.slice lo n ac, .slice po m pc] 27) ∧ Hid (Below w.heap.size w wr)) (fun _ _ => 0)
    case atStart => exact ⟨rfl, HA, HB⟩
    case round =>
      clear HA HB
      obtain ⟨rfl, HA, HB⟩ := hrel
      obtain ⟨wr1, rfl⟩ : ∃ z, z = wr := ⟨_, rfl⟩
      go_wp2_with fail
      go_loopw [7] (fun j wr2 => j = .int .i64 0 ∧ Hid (Blk wr2 w.heap.size #[.slice lo n ac, .slice po m pc] 27) ∧ Hid (Below w.heap.size w wr2)) (fun _ _ => 0)
      case atStart => exact ⟨rfl, HA, HB⟩
      case round =>
        clear HA HB
        obtain ⟨rfl, HA, HB⟩ := hrel
        obtain ⟨wr2, rfl⟩ : ∃ z, z = wr := ⟨_, rfl⟩
        have hA := HA.out
        go_wp2_with ((with_reducible show wpList _ _ _ (⟨some 75, _, _, _, _, _⟩ :: _) _ _); refine wpList_load1 rfl 25 (.tmp 74) rfl w.heap.size 1 (by rfl) _ _ (hA.cell 1 _ rfl) Tryz.underlying25 rfl ?_)
        go_returns
        exact ⟨by rw [HF.out]; rfl, HB.out⟩
  have e1 : (0 : Int) < n := by omega
  have e2 : ((m : Int) != (n : Int) - 1) = false := by rw [bne_eq_false_iff_eq]; have := HMN.out; omega
  have e4 : ((n : Int) == 0) = false := by simp [hn0]
  have HN0 := Lib.hid hn0
  clear hn0
  go_enter Tryz.func129, Tryz.ntmps129
  go_wp2_with (first | ((with_reducible show wpList _ _ _ (⟨some 12, _, _, _, _, _⟩ :: _) _ _); refine wpList_load1 rfl 24 (.tmp 11) rfl (w.heap.size) 0 (by rfl) _ _ (hA0.cell 0 _ rfl) Tryz.underlying24 rfl ?_) | ((with_reducible show wpList _ _ _ (⟨some 21, _, _, _, _, _⟩ :: _) _ _); refine wpList_if (by rfl) (wp_load1 25 (.tmp 20) rfl (w.heap.size) 1 (by rfl) _ _ (hA0.cell 1 _ rfl) Tryz.underlying25 rfl ?_)))
  obtain ⟨W1, hW1⟩ : ∃ z, z = w.alloc (.cells #[.slice lo n ac, .slice po m pc] 27) := ⟨_, rfl⟩
  obtain ⟨bb, hbb⟩ : ∃ z, z = w.heap.size := ⟨_, rfl⟩
  have hbw : w.heap.size ≤ bb := by omega
  rw [← hW1] at hA0 hb0 HT1 ⊢
  rw [← hbb] at hA0 ⊢
  have HA := Lib.hid hA0
  have HB := Lib.hid hb0
  have HAL0 : Hid (∀ k, k < 0 → rightLeaf T.leaves k = true) := fun k hk => by omega
  clear hW1 hA0 hb0 e2 hbb HT1
  go_loopw [4] (fun j wr => ∃ i : Nat, i ≤ n ∧ j = .int .i64 i ∧ Hid (Blk wr bb #[.slice lo n ac, .slice po m pc] 27) ∧ Hid (Below w.heap.size w wr) ∧ Hid (∀ k, k < i → rightLeaf T.leaves k = true)) (fun j _ => n - (intOf j).toNat)
  case atStart => exact ⟨0, by omega, rfl, HA, HB, HAL0⟩
  case round =>
    clear HA HB HAL0
    obtain ⟨i, hi, rfl, HB, HE, HALL⟩ := hrel
    by_cases hlt : i < n
    · obtain ⟨g, off, l, rfl, hx, hrg⟩ := HT.out.el.at i hlt
      have hrw : wr.rangeAt g (off + i * 97) l.cells := (HT.out.el.below HE.out).at' i _ hx
      have HX := Lib.hid hx
      have heq : ∀ x, (Op.equalIn 10000 144 (.agg l.cells.toArray) (.agg zeroL.cells.toArray)).run Tryz.prog x = .ok l.isZ x := fun x => by rw [run_eq_leaf, LeafA.eqB_zero]
      have hB := HB.out
      have hE := HE.out
      have hlo : w.heap.size ≤ wr.heap.size := HE.out.size
      clear hx hrg HB HE
      by_cases hz : l.isZ = true
      · rw [hz] at heq
        have HZ := Lib.hid hz
        go_wp2_with (first | ((with_reducible show wpList _ _ _ (⟨some 44, _, _, _, _, _⟩ :: _) _ _); refine wpList_load1 rfl 24 (.tmp 43) rfl (bb) 0 (by rfl) _ _ (hB.cell 0 _ rfl) Tryz.underlying24 rfl ?_) | ((with_reducible show wpList _ _ _ (⟨some 47, _, _, _, _, _⟩ :: _) _ _); refine wpList_load_mid rfl 144 (.tmp 46) rfl g (off + i * 97) (by rfl) l.cells _ hrw Tryz.underlying144 rfl (leaf_sizeL l) ?_) | ((with_reducible show wpList _ _ _ (⟨some 5, _, _, _, _, _⟩ :: _) _ _); refine wpList_allocZ rfl 144 rfl _ Tryz.zeroLeaf ?_; intro wq1 hsq2 baq3 hNq4) | ((with_reducible show wpList _ _ _ (⟨none, Op.store _ (.tmp 5) _, _, _, _, _⟩ :: _) _ _); refine wpList_storeBlk rfl 144 (.tmp 5) (.tmp 47) rfl (wr.heap.size) (l.cells.toArray) (by rfl) (by rfl) _ _ hNq4 (leaf_sizeA l) (leaf_hold l) (leaf_all l) ?_; intro wq5 hKq6 gq7; have bbq8 := below_new baq3 gq7 (Nat.le_refl _) baq3.size; have ltq9 : bb < wr.heap.size := hB.lt; have hCq10 := hB.below bbq8 hB.lt; have hBq11 := hE.trans (bbq8.mono (hE.size)); clear hB hE; clear bbq8 baq3 hNq4 gq7 hsq2) | ((with_reducible show wpList _ _ _ (⟨some 48, _, _, _, _, _⟩ :: _) _ _); refine wpList_load_mid rfl 144 (.tmp 5) rfl (wr.heap.size) 0 (by rfl) l.cells _ (blk_rangeP hKq6) Tryz.underlying144 rfl (leaf_sizeL l) ?_) | ((with_reducible show wpList _ _ _ (⟨some 49, _, _, _, _, _⟩ :: _) _ _); refine wpList_buildCells rfl 144 #[] rfl (zeroL.cells.toArray) (by kernel_rfl) ?_))
        have HB9 := Lib.hid hCq10
        have HE9 := Lib.hid hBq11
        have HA9 : Hid (∀ k, k < i + 1 → rightLeaf T.leaves k = true) := fun k hk => by
          by_cases e : k = i
          · subst e; unfold rightLeaf; rw [HX.out]; show (l.isZ || _) = true; rw [HZ.out]; rfl
          · exact HALL.out k (by omega)
        clear hCq10 hBq11 hKq6 heq
        go_roundw
        case rel => exact ⟨i + 1, by omega, by go_num, HB9, HE9, HA9⟩
        case measure => simp [intOf]; omega
      · have hz2 : l.isZ = false := by simpa using hz
        rw [hz2] at heq
        have HZ := Lib.hid hz2
        clear hz hz2
        by_cases h1 : l.n < 1
        · have HF : Hid (R = false) := HRR.out.trans (rightT_leaf (by rw [HLN.out]; exact hlt) (by unfold rightLeaf; rw [HX.out]; show (l.isZ || (decide (1 ≤ l.n ∧ l.n ≤ 64) && _)) = false; rw [HZ.out, decide_eq_false (by omega)]; rfl))
          go_wp2_with (first | ((with_reducible show wpList _ _ _ (⟨some 44, _, _, _, _, _⟩ :: _) _ _); refine wpList_load1 rfl 24 (.tmp 43) rfl (bb) 0 (by rfl) _ _ (hB.cell 0 _ rfl) Tryz.underlying24 rfl ?_) | ((with_reducible show wpList _ _ _ (⟨some 47, _, _, _, _, _⟩ :: _) _ _); refine wpList_load_mid rfl 144 (.tmp 46) rfl g (off + i * 97) (by rfl) l.cells _ hrw Tryz.underlying144 rfl (leaf_sizeL l) ?_) | ((with_reducible show wpList _ _ _ (⟨some 5, _, _, _, _, _⟩ :: _) _ _); refine wpList_allocZ rfl 144 rfl _ Tryz.zeroLeaf ?_; intro wq12 hsq13 baq14 hNq15) | ((with_reducible show wpList _ _ _ (⟨none, Op.store _ (.tmp 5) _, _, _, _, _⟩ :: _) _ _); refine wpList_storeBlk rfl 144 (.tmp 5) (.tmp 47) rfl (wr.heap.size) (l.cells.toArray) (by rfl) (by rfl) _ _ hNq15 (leaf_sizeA l) (leaf_hold l) (leaf_all l) ?_; intro wq16 hKq17 gq18; have bbq19 := below_new baq14 gq18 (Nat.le_refl _) baq14.size; have ltq20 : bb < wr.heap.size := hB.lt; have hCq21 := hB.below bbq19 hB.lt; have hBq22 := hE.trans (bbq19.mono (hE.size)); clear hB hE; clear bbq19 baq14 hNq15 gq18 hsq13) | ((with_reducible show wpList _ _ _ (⟨some 48, _, _, _, _, _⟩ :: _) _ _); refine wpList_load_mid rfl 144 (.tmp 5) rfl (wr.heap.size) 0 (by rfl) l.cells _ (blk_rangeP hKq17) Tryz.underlying144 rfl (leaf_sizeL l) ?_) | ((with_reducible show wpList _ _ _ (⟨some 49, _, _, _, _, _⟩ :: _) _ _); refine wpList_buildCells rfl 144 #[] rfl (zeroL.cells.toArray) (by kernel_rfl) ?_) | ((with_reducible show wpList _ _ _ (⟨some 52, _, _, _, _, _⟩ :: _) _ _); refine wpList_load1 rfl 3 (.tmp 51) rfl (wr.heap.size) 0 (by rfl) _ _ (leaf_nR (blk_rangeP hKq17)) Tryz.underlying3 rfl ?_))
          go_returns
          exact ⟨by rw [HF.out]; rfl, hBq22⟩
        by_cases h2 : 64 < l.n
        · have HF : Hid (R = false) := HRR.out.trans (rightT_leaf (by rw [HLN.out]; exact hlt) (by unfold rightLeaf; rw [HX.out]; show (l.isZ || (decide (1 ≤ l.n ∧ l.n ≤ 64) && _)) = false; rw [HZ.out, decide_eq_false (by omega)]; rfl))
          have h1' : ¬ l.n < 1 := h1
          go_wp2_with (first | ((with_reducible show wpList _ _ _ (⟨some 44, _, _, _, _, _⟩ :: _) _ _); refine wpList_load1 rfl 24 (.tmp 43) rfl (bb) 0 (by rfl) _ _ (hB.cell 0 _ rfl) Tryz.underlying24 rfl ?_) | ((with_reducible show wpList _ _ _ (⟨some 47, _, _, _, _, _⟩ :: _) _ _); refine wpList_load_mid rfl 144 (.tmp 46) rfl g (off + i * 97) (by rfl) l.cells _ hrw Tryz.underlying144 rfl (leaf_sizeL l) ?_) | ((with_reducible show wpList _ _ _ (⟨some 5, _, _, _, _, _⟩ :: _) _ _); refine wpList_allocZ rfl 144 rfl _ Tryz.zeroLeaf ?_; intro wq23 hsq24 baq25 hNq26) | ((with_reducible show wpList _ _ _ (⟨none, Op.store _ (.tmp 5) _, _, _, _, _⟩ :: _) _ _); refine wpList_storeBlk rfl 144 (.tmp 5) (.tmp 47) rfl (wr.heap.size) (l.cells.toArray) (by rfl) (by rfl) _ _ hNq26 (leaf_sizeA l) (leaf_hold l) (leaf_all l) ?_; intro wq27 hKq28 gq29; have bbq30 := below_new baq25 gq29 (Nat.le_refl _) baq25.size; have ltq31 : bb < wr.heap.size := hB.lt; have hCq32 := hB.below bbq30 hB.lt; have hBq33 := hE.trans (bbq30.mono (hE.size)); clear hB hE; clear bbq30 baq25 hNq26 gq29 hsq24) | ((with_reducible show wpList _ _ _ (⟨some 48, _, _, _, _, _⟩ :: _) _ _); refine wpList_load_mid rfl 144 (.tmp 5) rfl (wr.heap.size) 0 (by rfl) l.cells _ (blk_rangeP hKq28) Tryz.underlying144 rfl (leaf_sizeL l) ?_) | ((with_reducible show wpList _ _ _ (⟨some 49, _, _, _, _, _⟩ :: _) _ _); refine wpList_buildCells rfl 144 #[] rfl (zeroL.cells.toArray) (by kernel_rfl) ?_) | ((with_reducible show wpList _ _ _ (⟨some 52, _, _, _, _, _⟩ :: _) _ _); refine wpList_load1 rfl 3 (.tmp 51) rfl (wr.heap.size) 0 (by rfl) _ _ (leaf_nR (blk_rangeP hKq28)) Tryz.underlying3 rfl ?_) | ((with_reducible show wpList _ _ _ (⟨some 56, _, _, _, _, _⟩ :: _) _ _); refine wpList_if (by rfl) (wp_load1 3 (.tmp 55) rfl (wr.heap.size) 0 (by rfl) _ _ (leaf_nR (blk_rangeP hKq28)) Tryz.underlying3 rfl ?_)))
          go_returns
          exact ⟨by rw [HF.out]; rfl, hBq33⟩
        go_wp2_with (first | ((with_reducible show wpList _ _ _ (⟨some 44, _, _, _, _, _⟩ :: _) _ _); refine wpList_load1 rfl 24 (.tmp 43) rfl (bb) 0 (by rfl) _ _ (hB.cell 0 _ rfl) Tryz.underlying24 rfl ?_) | ((with_reducible show wpList _ _ _ (⟨some 47, _, _, _, _, _⟩ :: _) _ _); refine wpList_load_mid rfl 144 (.tmp 46) rfl g (off + i * 97) (by rfl) l.cells _ hrw Tryz.underlying144 rfl (leaf_sizeL l) ?_) | ((with_reducible show wpList _ _ _ (⟨some 5, _, _, _, _, _⟩ :: _) _ _); refine wpList_allocZ rfl 144 rfl _ Tryz.zeroLeaf ?_; intro wq34 hsq35 baq36 hNq37) | ((with_reducible show wpList _ _ _ (⟨none, Op.store _ (.tmp 5) _, _, _, _, _⟩ :: _) _ _); refine wpList_storeBlk rfl 144 (.tmp 5) (.tmp 47) rfl (wr.heap.size) (l.cells.toArray) (by rfl) (by rfl) _ _ hNq37 (leaf_sizeA l) (leaf_hold l) (leaf_all l) ?_; intro wq38 hKq39 gq40; have bbq41 := below_new baq36 gq40 (Nat.le_refl _) baq36.size; have ltq42 : bb < wr.heap.size := hB.lt; have hCq43 := hB.below bbq41 hB.lt; have hBq44 := hE.trans (bbq41.mono (hE.size)); clear hB hE; clear bbq41 baq36 hNq37 gq40 hsq35) | ((with_reducible show wpList _ _ _ (⟨some 48, _, _, _, _, _⟩ :: _) _ _); refine wpList_load_mid rfl 144 (.tmp 5) rfl (wr.heap.size) 0 (by rfl) l.cells _ (blk_rangeP hKq39) Tryz.underlying144 rfl (leaf_sizeL l) ?_) | ((with_reducible show wpList _ _ _ (⟨some 49, _, _, _, _, _⟩ :: _) _ _); refine wpList_buildCells rfl 144 #[] rfl (zeroL.cells.toArray) (by kernel_rfl) ?_) | ((with_reducible show wpList _ _ _ (⟨some 52, _, _, _, _, _⟩ :: _) _ _); refine wpList_load1 rfl 3 (.tmp 51) rfl (wr.heap.size) 0 (by rfl) _ _ (leaf_nR (blk_rangeP hKq39)) Tryz.underlying3 rfl ?_) | ((with_reducible show wpList _ _ _ (⟨some 56, _, _, _, _, _⟩ :: _) _ _); refine wpList_if (by rfl) (wp_load1 3 (.tmp 55) rfl (wr.heap.size) 0 (by rfl) _ _ (leaf_nR (blk_rangeP hKq39)) Tryz.underlying3 rfl ?_)))
        have HLR : Hid (1 ≤ l.n ∧ l.n ≤ 64) := by show _ ∧ _; omega
        obtain ⟨pb, hpb⟩ : ∃ z, z = wr.heap.size := ⟨_, rfl⟩
        have hPP := hKq39
        rw [← hpb] at hPP ⊢
        have HPP := Lib.hid hPP
        have HBB := Lib.hid hCq43
        have HEE := Lib.hid hBq44
        have HN2 : Hid (∀ k m, k < 0 → T.leaves[k]? = some m → m.n ≠ l.n) := fun k m hk => by omega
        clear hPP hKq39 hCq43 hBq44 hpb hrw heq h1 h2 hlo
        go_loopw [6] (fun j wr2 => ∃ k : Nat, k ≤ i ∧ j = .int .i64 k ∧ Hid (Blk wr2 bb #[.slice (some ⟨g, off, none⟩) n ac, .slice po m pc] 27) ∧ Hid (Blk wr2 pb l.cells.toArray 144) ∧ Hid (Below w.heap.size w wr2) ∧ Hid (∀ k' m, k' < k → T.leaves[k']? = some m → m.n ≠ l.n)) (fun j _ => i - (intOf j).toNat)
        case atStart => exact ⟨0, by omega, rfl, HBB, HPP, HEE, HN2⟩
        case round =>
          clear HBB HPP HEE HN2
          obtain ⟨k, hk, rfl, HBB, HPP, HEE, HN2⟩ := hrel
          obtain ⟨wr2, rfl⟩ : ∃ z, z = wr := ⟨_, rfl⟩
          by_cases hki : k < i
          · obtain ⟨m2, hm2⟩ : ∃ m2, T.leaves[k]? = some m2 := ⟨_, List.getElem?_eq_getElem (by rw [HLN.out]; omega)⟩
            have hkn : k < n := by omega
            have hcm : wr2.cell? ⟨g, off + k * 97, none⟩ = some (.int .i64 m2.n) := leaf_nR ((HT.out.el.below HEE.out).at' k _ hm2)
            have hcl : wr2.cell? ⟨pb, 0, none⟩ = some (.int .i64 l.n) := leaf_nR (blk_rangeP HPP.out)
            have hcb : wr2.cell? ⟨bb, 0, none⟩ = some (.slice (some ⟨g, off, none⟩) n ac) := HBB.out.cell 0 _ rfl
            have HM2 := Lib.hid hm2
            clear hm2
            obtain ⟨d, hd⟩ : ∃ d, (m2.n == l.n) = d := ⟨_, rfl⟩
            have HD := Lib.hid hd
            rcases d with _ | _
            case true =>
              have HF : Hid (R = false) := HRR.out.trans (rightT_leaf (by rw [HLN.out]; exact hlt) (rightLeaf_twice HX.out HZ.out hki HM2.out (beq_iff_eq.1 HD.out)))
              go_wp2_with fail
              go_quiet (fail)
              go_wp2_with fail
              go_returns
              exact ⟨by rw [HF.out]; rfl, below_drewN HEE.out _⟩
            case false =>
              have HN3 : Hid (∀ k' m, k' < k + 1 → T.leaves[k']? = some m → m.n ≠ l.n) := fun k' m hk' hm' => by
                by_cases e : k' = k
                · subst e
                  rw [HM2.out] at hm'
                  obtain rfl := Option.some.inj hm'
                  exact beq_eq_false_iff_ne.1 HD.out
                · exact HN2.out k' m (by omega) hm'
              go_wp2_with fail
              go_quiet (fail)
              clear hcm hcl hcb hd
              have HB3 := Lib.hid (HBB.out.drewN nq)
              have HP3 := Lib.hid (HPP.out.drewN nq)
              have HE3 := Lib.hid (below_drewN HEE.out nq)
              clear HBB HPP HEE HN2
              go_wp2_with fail
              go_roundw
              case rel => exact ⟨k + 1, by omega, by go_num, HB3, HP3, HE3, HN3⟩
              case measure => simp [intOf]; omega
          · obtain rfl : k = i := by omega
            have hB := HBB.out
            have hE := HEE.out
            have HOK := Lib.hid (rightLeaf_in HX.out HZ.out HLR.out.1 HLR.out.2 HN2.out)
            clear HBB HPP HEE hki hk
            obtain ⟨i, rfl⟩ : ∃ i, i = k := ⟨_, rfl⟩
            go_wp2_with fail
            have HB9 := Lib.hid hB
            have HE9 := Lib.hid hE
            have HA9 : Hid (∀ k, k < i + 1 → rightLeaf T.leaves k = true) := fun k hk => by
              by_cases e : k = i
              · subst e; exact HOK.out
              · exact HALL.out k (by omega)
            clear hB hE 
            go_roundw
            case rel => exact ⟨i + 1, by omega, by go_num, HB9, HE9, HA9⟩
            case measure => simp [intOf]; omega
    · obtain rfl : i = n := by omega
      obtain ⟨n, rfl⟩ : ∃ n, n = i := ⟨_, rfl⟩
      have HALL1 : Hid (∀ k, k < T.leaves.length → rightLeaf T.leaves k = true) := fun k hk => HALL.out k (by rw [← HLN.out]; exact hk)
      have HB2 := HB
      have HE2 := HE
      have HP0 : Hid (∀ k q, k < 0 → T.pars[k]? = some q → rightPar T.leaves k q = true) := fun k q hk => by omega
      clear HB HE HALL hlt hi
      go_wp2_with fail
      go_loopw [7] (fun j wr2 => ∃ i : Nat, i ≤ m ∧ j = .int .i64 i ∧ Hid (Blk wr2 bb #[.slice lo n ac, .slice po m pc] 27) ∧ Hid (Below w.heap.size w wr2) ∧ Hid (∀ k q, k < i → T.pars[k]? = some q → rightPar T.leaves k q = true)) (fun j _ => m - (intOf j).toNat)
      case atStart => exact ⟨0, by omega, rfl, HB2, HE2, HP0⟩
      case round =>
        clear HB2 HE2 HP0
        obtain ⟨i, hi, rfl, HB, HE, HALL⟩ := hrel
        obtain ⟨wr2, rfl⟩ : ∃ z, z = wr := ⟨_, rfl⟩
        by_cases hlt : i < m
        · obtain ⟨g, off, qu, rfl, hx, hrg⟩ := HT.out.ep.at i hlt
          obtain ⟨q, u⟩ := qu
          have hrw : wr2.rangeAt g (off + i * 66) (q.cells u) := (HT.out.ep.below HE.out).at' i _ hx
          obtain ⟨hq, hu⟩ := List.getElem?_zip_eq_some.1 hx
          obtain ⟨qo, qc, rfl, hqc, hqe, hqw, hqm⟩ := HT.out.lo i q u hq hu
          obtain ⟨ql, hql⟩ : ∃ ql, ql = q.loose.length := ⟨_, rfl⟩
          rw [← hql] at hqc hqe hqm hrw
          have HQ := Lib.hid hq
          have HQE := Lib.hid hqe
          have HQW := Lib.hid hqw
          have HQL := Lib.hid hql
          have hqm2 : ql ≤ 9223372036854775807 := by unfold maxLen at hqm; omega
          have hsz2 : w.heap.size ≤ wr2.heap.size := HE.out.size
          have HZ : Hid (q.isZ = ((q.p == z32L) && ((q.a == z32L) && decide (ql = 0)))) := by show _ = _; unfold ParA.isZ; rw [hql]; cases q.loose <;> simp
          have hqp : ∀ z, (Op.equalIn 10000 23 (.agg (q.p.map bv).toArray) (.agg (z32L.map bv).toArray)).run Tryz.prog z = .ok (q.p == z32L) z := fun z => run_eq_hash z _ _ q.hp rfl
          have hqa : ∀ z, (Op.equalIn 10000 23 (.agg (q.a.map bv).toArray) (.agg (z32L.map bv).toArray)).run Tryz.prog z = .ok (q.a == z32L) z := fun z => run_eq_hash z _ _ q.ha rfl
          have HQP : Hid (q.p.length = 32) := q.hp
          have HQA : Hid (q.a.length = 32) := q.ha
          have hB := HB.out
          have hE := HE.out
          clear hx hrg HB HE hq hu hqe hqw hql hqm
          obtain ⟨s, hs⟩ : ∃ s, q.s = s := ⟨_, rfl⟩
          obtain ⟨b1, hb1⟩ : ∃ b, b = (q.p == z32L) := ⟨_, rfl⟩
          obtain ⟨b2, hb2⟩ : ∃ b, b = (q.a == z32L) := ⟨_, rfl⟩
          obtain ⟨b3, hb3⟩ : ∃ b, b = decide (ql = 0) := ⟨_, rfl⟩
          have HSZ0 : Hid ((q.s || q.isZ) = (s || (b1 && (b2 && b3)))) := by show _ = _; rw [HZ.out, ← hb1, ← hb2, ← hb3, hs]
          have hk0 : decide ((0 : Int) < (ql : Int)) = !b3 := by rw [hb3]; by_cases e : ql = 0 <;> simp [e] <;> omega
          have HS := Lib.hid hs
          rw [← hb1] at hqp
          rw [← hb2] at hqa
          clear hb1 hb2 hb3 hs HZ
          rcases s with _ | _
          case false =>
            rcases b1 with _ | _
            case false =>
              have HF : Hid (R = false) := HRR.out.trans (rightT_par HQ.out (by unfold rightPar; rw [HSZ0.out]; rfl))
              go_wp2_with (first | ((with_reducible show wpList _ _ _ (⟨some 75, _, _, _, _, _⟩ :: _) _ _); refine wpList_load1 rfl 25 (.tmp 74) rfl (bb) 1 (by rfl) _ _ (hB.cell 1 _ rfl) Tryz.underlying25 rfl ?_) | ((with_reducible show wpList _ _ _ (⟨some 81, _, _, _, _, _⟩ :: _) _ _); refine wpList_load1 rfl 25 (.tmp 80) rfl (bb) 1 (by rfl) _ _ (hB.cell 1 _ rfl) Tryz.underlying25 rfl ?_) | ((with_reducible show wpList _ _ _ (⟨some 84, _, _, _, _, _⟩ :: _) _ _); refine wpList_load_mid rfl 126 (.tmp 83) rfl g (off + i * 66) (by rfl) (q.cells (.slice qo ql qc)) _ hrw Tryz.underlying126 rfl (par_sizeL q _) ?_) | ((with_reducible show wpList _ _ _ (⟨some 8, _, _, _, _, _⟩ :: _) _ _); refine wpList_allocZ rfl 126 rfl _ Tryz.zeroPar ?_; intro wq45 hsq46 baq47 hNq48) | ((with_reducible show wpList _ _ _ (⟨none, Op.store _ (.tmp 8) _, _, _, _, _⟩ :: _) _ _); refine wpList_storeBlk rfl 126 (.tmp 8) (.tmp 84) rfl (wr2.heap.size) ((q.cells (.slice qo ql qc)).toArray) (by rfl) (by rfl) _ _ hNq48 (par_sizeA q _) (par_hold q _) (par_all q _ _ _) ?_; intro wq49 hKq50 gq51; have bbq52 := below_new baq47 gq51 (Nat.le_refl _) baq47.size; have ltq53 : bb < wr2.heap.size := hB.lt; have hCq54 := hB.below bbq52 hB.lt; have hBq55 := hE.trans (bbq52.mono (hE.size)); clear hB hE; clear bbq52 baq47 hNq48 gq51 hsq46) | ((with_reducible show wpList _ _ _ (⟨some 86, _, _, _, _, _⟩ :: _) _ _); refine wpList_load1 rfl 4 (.tmp 85) rfl (wr2.heap.size) 0 (by rfl) _ _ ((by have hc := par_s (blk_rangeP hKq50); rw [HS.out] at hc; exact hc)) Tryz.underlying4 rfl ?_) | ((with_reducible show wpList _ _ _ (⟨some 90, _, _, _, _, _⟩ :: _) _ _); refine wpList_if (by rfl) (wp_load_mid 23 (.tmp 89) rfl (wr2.heap.size) 1 (by rfl) (q.p.map bv) _ (by have hc := par_p (blk_rangeP hKq50); rwa [Nat.zero_add] at hc) Tryz.underlying23 rfl (by rw [List.length_map, HQP.out]; exact Tryz.sizeHash) ?_)) | ((with_reducible show wpList _ _ _ (⟨some 91, _, _, _, _, _⟩ :: _) _ _); refine wpList_if (by rfl) (wp_buildCells 23 #[] rfl ((z32L.map bv).toArray) (by kernel_rfl) ?_)) | ((with_reducible show wpList _ _ _ (⟨some 95, _, _, _, _, _⟩ :: _) _ _); refine wpList_if (by rfl) (wp_load_mid 23 (.tmp 94) rfl (wr2.heap.size) 33 (by rfl) (q.a.map bv) _ (by have hc := par_a (blk_rangeP hKq50); rwa [Nat.zero_add] at hc) Tryz.underlying23 rfl (by rw [List.length_map, HQA.out]; exact Tryz.sizeHash) ?_)) | ((with_reducible show wpList _ _ _ (⟨some 96, _, _, _, _, _⟩ :: _) _ _); refine wpList_if (by rfl) (wp_buildCells 23 #[] rfl ((z32L.map bv).toArray) (by kernel_rfl) ?_)) | ((with_reducible show wpList _ _ _ (⟨some 101, _, _, _, _, _⟩ :: _) _ _); refine wpList_if (by rfl) (wp_load1 40 (.tmp 100) rfl (wr2.heap.size) 65 (by rfl) _ _ ((by have hc := par_l (blk_rangeP hKq50); rwa [Nat.zero_add] at hc)) Tryz.underlying40 rfl ?_)))
              go_returns
              exact ⟨by rw [HF.out]; rfl, hBq55⟩
            rcases b2 with _ | _
            case false =>
              have HF : Hid (R = false) := HRR.out.trans (rightT_par HQ.out (by unfold rightPar; rw [HSZ0.out]; rfl))
              go_wp2_with (first | ((with_reducible show wpList _ _ _ (⟨some 75, _, _, _, _, _⟩ :: _) _ _); refine wpList_load1 rfl 25 (.tmp 74) rfl (bb) 1 (by rfl) _ _ (hB.cell 1 _ rfl) Tryz.underlying25 rfl ?_) | ((with_reducible show wpList _ _ _ (⟨some 81, _, _, _, _, _⟩ :: _) _ _); refine wpList_load1 rfl 25 (.tmp 80) rfl (bb) 1 (by rfl) _ _ (hB.cell 1 _ rfl) Tryz.underlying25 rfl ?_) | ((with_reducible show wpList _ _ _ (⟨some 84, _, _, _, _, _⟩ :: _) _ _); refine wpList_load_mid rfl 126 (.tmp 83) rfl g (off + i * 66) (by rfl) (q.cells (.slice qo ql qc)) _ hrw Tryz.underlying126 rfl (par_sizeL q _) ?_) | ((with_reducible show wpList _ _ _ (⟨some 8, _, _, _, _, _⟩ :: _) _ _); refine wpList_allocZ rfl 126 rfl _ Tryz.zeroPar ?_; intro wq56 hsq57 baq58 hNq59) | ((with_reducible show wpList _ _ _ (⟨none, Op.store _ (.tmp 8) _, _, _, _, _⟩ :: _) _ _); refine wpList_storeBlk rfl 126 (.tmp 8) (.tmp 84) rfl (wr2.heap.size) ((q.cells (.slice qo ql qc)).toArray) (by rfl) (by rfl) _ _ hNq59 (par_sizeA q _) (par_hold q _) (par_all q _ _ _) ?_; intro wq60 hKq61 gq62; have bbq63 := below_new baq58 gq62 (Nat.le_refl _) baq58.size; have ltq64 : bb < wr2.heap.size := hB.lt; have hCq65 := hB.below bbq63 hB.lt; have hBq66 := hE.trans (bbq63.mono (hE.size)); clear hB hE; clear bbq63 baq58 hNq59 gq62 hsq57) | ((with_reducible show wpList _ _ _ (⟨some 86, _, _, _, _, _⟩ :: _) _ _); refine wpList_load1 rfl 4 (.tmp 85) rfl (wr2.heap.size) 0 (by rfl) _ _ ((by have hc := par_s (blk_rangeP hKq61); rw [HS.out] at hc; exact hc)) Tryz.underlying4 rfl ?_) | ((with_reducible show wpList _ _ _ (⟨some 90, _, _, _, _, _⟩ :: _) _ _); refine wpList_if (by rfl) (wp_load_mid 23 (.tmp 89) rfl (wr2.heap.size) 1 (by rfl) (q.p.map bv) _ (by have hc := par_p (blk_rangeP hKq61); rwa [Nat.zero_add] at hc) Tryz.underlying23 rfl (by rw [List.length_map, HQP.out]; exact Tryz.sizeHash) ?_)) | ((with_reducible show wpList _ _ _ (⟨some 91, _, _, _, _, _⟩ :: _) _ _); refine wpList_if (by rfl) (wp_buildCells 23 #[] rfl ((z32L.map bv).toArray) (by kernel_rfl) ?_)) | ((with_reducible show wpList _ _ _ (⟨some 95, _, _, _, _, _⟩ :: _) _ _); refine wpList_if (by rfl) (wp_load_mid 23 (.tmp 94) rfl (wr2.heap.size) 33 (by rfl) (q.a.map bv) _ (by have hc := par_a (blk_rangeP hKq61); rwa [Nat.zero_add] at hc) Tryz.underlying23 rfl (by rw [List.length_map, HQA.out]; exact Tryz.sizeHash) ?_)) | ((with_reducible show wpList _ _ _ (⟨some 96, _, _, _, _, _⟩ :: _) _ _); refine wpList_if (by rfl) (wp_buildCells 23 #[] rfl ((z32L.map bv).toArray) (by kernel_rfl) ?_)) | ((with_reducible show wpList _ _ _ (⟨some 101, _, _, _, _, _⟩ :: _) _ _); refine wpList_if (by rfl) (wp_load1 40 (.tmp 100) rfl (wr2.heap.size) 65 (by rfl) _ _ ((by have hc := par_l (blk_rangeP hKq61); rwa [Nat.zero_add] at hc)) Tryz.underlying40 rfl ?_)))
              go_returns
              exact ⟨by rw [HF.out]; rfl, hBq66⟩
            rcases b3 with _ | _
            case false =>
              have hk1 : 0 < ql := by have := of_decide_eq_true (show decide ((0 : Int) < (ql : Int)) = true from hk0); omega
              have HF : Hid (R = false) := HRR.out.trans (rightT_par HQ.out (by unfold rightPar; rw [HSZ0.out]; rfl))
              go_wp2_with (first | ((with_reducible show wpList _ _ _ (⟨some 75, _, _, _, _, _⟩ :: _) _ _); refine wpList_load1 rfl 25 (.tmp 74) rfl (bb) 1 (by rfl) _ _ (hB.cell 1 _ rfl) Tryz.underlying25 rfl ?_) | ((with_reducible show wpList _ _ _ (⟨some 81, _, _, _, _, _⟩ :: _) _ _); refine wpList_load1 rfl 25 (.tmp 80) rfl (bb) 1 (by rfl) _ _ (hB.cell 1 _ rfl) Tryz.underlying25 rfl ?_) | ((with_reducible show wpList _ _ _ (⟨some 84, _, _, _, _, _⟩ :: _) _ _); refine wpList_load_mid rfl 126 (.tmp 83) rfl g (off + i * 66) (by rfl) (q.cells (.slice qo ql qc)) _ hrw Tryz.underlying126 rfl (par_sizeL q _) ?_) | ((with_reducible show wpList _ _ _ (⟨some 8, _, _, _, _, _⟩ :: _) _ _); refine wpList_allocZ rfl 126 rfl _ Tryz.zeroPar ?_; intro wq67 hsq68 baq69 hNq70) | ((with_reducible show wpList _ _ _ (⟨none, Op.store _ (.tmp 8) _, _, _, _, _⟩ :: _) _ _); refine wpList_storeBlk rfl 126 (.tmp 8) (.tmp 84) rfl (wr2.heap.size) ((q.cells (.slice qo ql qc)).toArray) (by rfl) (by rfl) _ _ hNq70 (par_sizeA q _) (par_hold q _) (par_all q _ _ _) ?_; intro wq71 hKq72 gq73; have bbq74 := below_new baq69 gq73 (Nat.le_refl _) baq69.size; have ltq75 : bb < wr2.heap.size := hB.lt; have hCq76 := hB.below bbq74 hB.lt; have hBq77 := hE.trans (bbq74.mono (hE.size)); clear hB hE; clear bbq74 baq69 hNq70 gq73 hsq68) | ((with_reducible show wpList _ _ _ (⟨some 86, _, _, _, _, _⟩ :: _) _ _); refine wpList_load1 rfl 4 (.tmp 85) rfl (wr2.heap.size) 0 (by rfl) _ _ ((by have hc := par_s (blk_rangeP hKq72); rw [HS.out] at hc; exact hc)) Tryz.underlying4 rfl ?_) | ((with_reducible show wpList _ _ _ (⟨some 90, _, _, _, _, _⟩ :: _) _ _); refine wpList_if (by rfl) (wp_load_mid 23 (.tmp 89) rfl (wr2.heap.size) 1 (by rfl) (q.p.map bv) _ (by have hc := par_p (blk_rangeP hKq72); rwa [Nat.zero_add] at hc) Tryz.underlying23 rfl (by rw [List.length_map, HQP.out]; exact Tryz.sizeHash) ?_)) | ((with_reducible show wpList _ _ _ (⟨some 91, _, _, _, _, _⟩ :: _) _ _); refine wpList_if (by rfl) (wp_buildCells 23 #[] rfl ((z32L.map bv).toArray) (by kernel_rfl) ?_)) | ((with_reducible show wpList _ _ _ (⟨some 95, _, _, _, _, _⟩ :: _) _ _); refine wpList_if (by rfl) (wp_load_mid 23 (.tmp 94) rfl (wr2.heap.size) 33 (by rfl) (q.a.map bv) _ (by have hc := par_a (blk_rangeP hKq72); rwa [Nat.zero_add] at hc) Tryz.underlying23 rfl (by rw [List.length_map, HQA.out]; exact Tryz.sizeHash) ?_)) | ((with_reducible show wpList _ _ _ (⟨some 96, _, _, _, _, _⟩ :: _) _ _); refine wpList_if (by rfl) (wp_buildCells 23 #[] rfl ((z32L.map bv).toArray) (by kernel_rfl) ?_)) | ((with_reducible show wpList _ _ _ (⟨some 101, _, _, _, _, _⟩ :: _) _ _); refine wpList_if (by rfl) (wp_load1 40 (.tmp 100) rfl (wr2.heap.size) 65 (by rfl) _ _ ((by have hc := par_l (blk_rangeP hKq72); rwa [Nat.zero_add] at hc)) Tryz.underlying40 rfl ?_)))
              go_returns
              exact ⟨by rw [HF.out]; rfl, hBq77⟩
            have hk1 : ¬ 0 < ql := by have := of_decide_eq_false (show decide ((0 : Int) < (ql : Int)) = false from hk0); omega
            go_wp2_with (first | ((with_reducible show wpList _ _ _ (⟨some 75, _, _, _, _, _⟩ :: _) _ _); refine wpList_load1 rfl 25 (.tmp 74) rfl (bb) 1 (by rfl) _ _ (hB.cell 1 _ rfl) Tryz.underlying25 rfl ?_) | ((with_reducible show wpList _ _ _ (⟨some 81, _, _, _, _, _⟩ :: _) _ _); refine wpList_load1 rfl 25 (.tmp 80) rfl (bb) 1 (by rfl) _ _ (hB.cell 1 _ rfl) Tryz.underlying25 rfl ?_) | ((with_reducible show wpList _ _ _ (⟨some 84, _, _, _, _, _⟩ :: _) _ _); refine wpList_load_mid rfl 126 (.tmp 83) rfl g (off + i * 66) (by rfl) (q.cells (.slice qo ql qc)) _ hrw Tryz.underlying126 rfl (par_sizeL q _) ?_) | ((with_reducible show wpList _ _ _ (⟨some 8, _, _, _, _, _⟩ :: _) _ _); refine wpList_allocZ rfl 126 rfl _ Tryz.zeroPar ?_; intro wq78 hsq79 baq80 hNq81) | ((with_reducible show wpList _ _ _ (⟨none, Op.store _ (.tmp 8) _, _, _, _, _⟩ :: _) _ _); refine wpList_storeBlk rfl 126 (.tmp 8) (.tmp 84) rfl (wr2.heap.size) ((q.cells (.slice qo ql qc)).toArray) (by rfl) (by rfl) _ _ hNq81 (par_sizeA q _) (par_hold q _) (par_all q _ _ _) ?_; intro wq82 hKq83 gq84; have bbq85 := below_new baq80 gq84 (Nat.le_refl _) baq80.size; have ltq86 : bb < wr2.heap.size := hB.lt; have hCq87 := hB.below bbq85 hB.lt; have hBq88 := hE.trans (bbq85.mono (hE.size)); clear hB hE; clear bbq85 baq80 hNq81 gq84 hsq79) | ((with_reducible show wpList _ _ _ (⟨some 86, _, _, _, _, _⟩ :: _) _ _); refine wpList_load1 rfl 4 (.tmp 85) rfl (wr2.heap.size) 0 (by rfl) _ _ ((by have hc := par_s (blk_rangeP hKq83); rw [HS.out] at hc; exact hc)) Tryz.underlying4 rfl ?_) | ((with_reducible show wpList _ _ _ (⟨some 90, _, _, _, _, _⟩ :: _) _ _); refine wpList_if (by rfl) (wp_load_mid 23 (.tmp 89) rfl (wr2.heap.size) 1 (by rfl) (q.p.map bv) _ (by have hc := par_p (blk_rangeP hKq83); rwa [Nat.zero_add] at hc) Tryz.underlying23 rfl (by rw [List.length_map, HQP.out]; exact Tryz.sizeHash) ?_)) | ((with_reducible show wpList _ _ _ (⟨some 91, _, _, _, _, _⟩ :: _) _ _); refine wpList_if (by rfl) (wp_buildCells 23 #[] rfl ((z32L.map bv).toArray) (by kernel_rfl) ?_)) | ((with_reducible show wpList _ _ _ (⟨some 95, _, _, _, _, _⟩ :: _) _ _); refine wpList_if (by rfl) (wp_load_mid 23 (.tmp 94) rfl (wr2.heap.size) 33 (by rfl) (q.a.map bv) _ (by have hc := par_a (blk_rangeP hKq83); rwa [Nat.zero_add] at hc) Tryz.underlying23 rfl (by rw [List.length_map, HQA.out]; exact Tryz.sizeHash) ?_)) | ((with_reducible show wpList _ _ _ (⟨some 96, _, _, _, _, _⟩ :: _) _ _); refine wpList_if (by rfl) (wp_buildCells 23 #[] rfl ((z32L.map bv).toArray) (by kernel_rfl) ?_)) | ((with_reducible show wpList _ _ _ (⟨some 101, _, _, _, _, _⟩ :: _) _ _); refine wpList_if (by rfl) (wp_load1 40 (.tmp 100) rfl (wr2.heap.size) 65 (by rfl) _ _ ((by have hc := par_l (blk_rangeP hKq83); rwa [Nat.zero_add] at hc)) Tryz.underlying40 rfl ?_)))
            obtain ⟨pb, hpb⟩ : ∃ z, z = wr2.heap.size := ⟨_, rfl⟩
            have hPP := hKq83
            rw [← hpb] at hPP ⊢
            have HPP := Lib.hid hPP
            have HBB := Lib.hid hCq87
            have HEE := Lib.hid hBq88
            have HSZ : Hid ((q.s || q.isZ) = true) := HSZ0.out
            have HL0 : Hid (∀ k', k' < 0 → rightLoose T.leaves i q.loose k' = true) := fun k' hk => by omega
            clear hPP hKq83 hCq87 hBq88 hpb hrw hsz2 hqp hqa hk1 hk0 HSZ0
            go_loopw [9] (fun j wr3 => ∃ k : Nat, k ≤ ql ∧ j = .int .i64 k ∧ Hid (Blk wr3 bb #[.slice lo n ac, .slice (some ⟨g, off, none⟩) m pc] 27) ∧ Hid (Blk wr3 pb (q.cells (.slice qo ql qc)).toArray 126) ∧ Hid (Below w.heap.size w wr3) ∧ Hid (∀ k', k' < k → rightLoose T.leaves i q.loose k' = true)) (fun j _ => ql - (intOf j).toNat)
            case atStart => exact ⟨0, by omega, rfl, HBB, HPP, HEE, HL0⟩
            case round =>
              clear HBB HPP HEE HL0
              obtain ⟨k, hk, rfl, HBB, HPP, HEE, HAL⟩ := hrel
              obtain ⟨wr3, rfl⟩ : ∃ z, z = wr := ⟨_, rfl⟩
              have hcq : wr3.cell? ⟨pb, 65, none⟩ = some (.slice qo ql qc) := by have h65 := par_l (blk_rangeP HPP.out); rwa [Nat.zero_add] at h65
              by_cases hkl : k < ql
              · obtain ⟨qg, qoff, x, rfl, hx, hrx⟩ := HQE.out.at k hkl
                obtain ⟨hx1, hx2⟩ := HQW.out x (List.mem_of_getElem? hx)
                have hcx : wr3.cell? ⟨qg, qoff + k, none⟩ = some (.int .i64 x) := by
                  have := (HQE.out.below HEE.out).at' k _ hx 0 _ rfl
                  rwa [Nat.mul_one] at this
                have HX := Lib.hid hx
                have hB := HBB.out
                have hP := HPP.out
                have hE := HEE.out
                have HRL : Hid (rightLoose T.leaves i q.loose k = (holdsI n (2 * (i : Int) + 1) x && (decide (nameAt T.leaves x ≠ 0) && (k == 0 || decide (q.loose.getD (k - 1) 0 < x))))) := by
                  show _ = _
                  unfold rightLoose
                  rw [HX.out, HLN.out]
                clear hx hrx HBB HPP HEE
                by_cases hh : holdsI n (2 * (i : Int) + 1) x = true
                case neg =>
                  have hh : holdsI n (2 * (i : Int) + 1) x = false := by simpa using hh
                  have HF : Hid (R = false) := HRR.out.trans (rightT_par HQ.out (rightPar_loose (by rw [← HQL.out]; exact hkl) (by rw [HRL.out, hh]; simp)))
                  go_wp2_with (first | ((with_reducible show wpList _ _ _ (⟨some 108, _, _, _, _, _⟩ :: _) _ _); refine wpList_load1 rfl 40 (.tmp 107) rfl (pb) 65 (by rfl) _ _ (hcq) Tryz.underlying40 rfl ?_) | ((with_reducible show wpList _ _ _ (⟨some 114, _, _, _, _, _⟩ :: _) _ _); refine wpList_load1 rfl 40 (.tmp 113) rfl (pb) 65 (by rfl) _ _ (hcq) Tryz.underlying40 rfl ?_) | ((with_reducible show wpList _ _ _ (⟨some 117, _, _, _, _, _⟩ :: _) _ _); refine wpList_load1 rfl 3 (.tmp 116) rfl (qg) (qoff + k) (by rfl) _ _ (hcx) Tryz.underlying3 rfl ?_))
                  refine (RHoldsI _ _ _ _).mono ?_
                  rintro e ww ⟨rfl, hww⟩
                  subst ww
                  rw [hh]
                  go_wp2_with fail
                  go_returns
                  exact ⟨by rw [HF.out]; rfl, hE⟩
                case pos =>
                  obtain ⟨hx0, hxn⟩ := holds_in hh
                  obtain ⟨y, rfl⟩ : ∃ y : Nat, x = y := ⟨x.toNat, by omega⟩
                  have hyn : y < n := by omega
                  obtain ⟨lg, loff, l2, rfl, hl2, hrl⟩ := HT.out.el.at y hyn
                  have hcl : wr3.cell? ⟨lg, loff + y * 97, none⟩ = some (.int .i64 l2.n) := leaf_nR ((HT.out.el.below hE).at' y _ hl2)
                  have hna : nameAt T.leaves (y : Int) = l2.n := by unfold nameAt; rw [Int.toNat_natCast, hl2]; rfl
                  have HNA := Lib.hid hna
                  have HH := Lib.hid hh
                  clear hl2 hrl hna
                  by_cases h0 : l2.n = 0
                  · have hn0 : (l2.n == 0) = true := by simp [h0]
                    have HF : Hid (R = false) := HRR.out.trans (rightT_par HQ.out (rightPar_loose (by rw [← HQL.out]; exact hkl) (by rw [HRL.out, HNA.out, h0]; simp)))
                    go_wp2_with (first | ((with_reducible show wpList _ _ _ (⟨some 108, _, _, _, _, _⟩ :: _) _ _); refine wpList_load1 rfl 40 (.tmp 107) rfl (pb) 65 (by rfl) _ _ (hcq) Tryz.underlying40 rfl ?_) | ((with_reducible show wpList _ _ _ (⟨some 114, _, _, _, _, _⟩ :: _) _ _); refine wpList_load1 rfl 40 (.tmp 113) rfl (pb) 65 (by rfl) _ _ (hcq) Tryz.underlying40 rfl ?_) | ((with_reducible show wpList _ _ _ (⟨some 117, _, _, _, _, _⟩ :: _) _ _); refine wpList_load1 rfl 3 (.tmp 116) rfl (qg) (qoff + k) (by rfl) _ _ (hcx) Tryz.underlying3 rfl ?_))
                    refine (RHoldsI _ _ _ _).mono ?_
                    rintro e ww ⟨rfl, hww⟩
                    subst ww
                    rw [hh]
                    go_wp2_with (first | ((with_reducible show wpList _ _ _ (⟨some 127, _, _, _, _, _⟩ :: _) _ _); refine wpList_if (by rfl) (wp_load1 24 (.tmp 126) rfl (bb) 0 (by rfl) _ _ (hB.cell 0 _ rfl) Tryz.underlying24 rfl ?_)) | ((with_reducible show wpList _ _ _ (⟨some 131, _, _, _, _, _⟩ :: _) _ _); refine wpList_if (by rfl) (wp_load1 3 (.tmp 130) rfl (lg) (loff + y * 97) (by rfl) _ _ (hcl) Tryz.underlying3 rfl ?_)))
                    go_returns
                    exact ⟨by rw [HF.out]; rfl, hE⟩
                  have hn0 : (l2.n == 0) = false := by simp [h0]
                  by_cases hk0 : k = 0
                  · have hg0 : ¬ (0 : Int) < k := by omega
                    have HK0 := Lib.hid hk0
                    clear hk0
                    go_wp2_with (first | ((with_reducible show wpList _ _ _ (⟨some 108, _, _, _, _, _⟩ :: _) _ _); refine wpList_load1 rfl 40 (.tmp 107) rfl (pb) 65 (by rfl) _ _ (hcq) Tryz.underlying40 rfl ?_) | ((with_reducible show wpList _ _ _ (⟨some 114, _, _, _, _, _⟩ :: _) _ _); refine wpList_load1 rfl 40 (.tmp 113) rfl (pb) 65 (by rfl) _ _ (hcq) Tryz.underlying40 rfl ?_) | ((with_reducible show wpList _ _ _ (⟨some 117, _, _, _, _, _⟩ :: _) _ _); refine wpList_load1 rfl 3 (.tmp 116) rfl (qg) (qoff + k) (by rfl) _ _ (hcx) Tryz.underlying3 rfl ?_))
                    refine (RHoldsI _ _ _ _).mono ?_
                    rintro e ww ⟨rfl, hww⟩
                    subst ww
                    rw [hh]
                    go_wp2_with (first | ((with_reducible show wpList _ _ _ (⟨some 127, _, _, _, _, _⟩ :: _) _ _); refine wpList_if (by rfl) (wp_load1 24 (.tmp 126) rfl (bb) 0 (by rfl) _ _ (hB.cell 0 _ rfl) Tryz.underlying24 rfl ?_)) | ((with_reducible show wpList _ _ _ (⟨some 131, _, _, _, _, _⟩ :: _) _ _); refine wpList_if (by rfl) (wp_load1 3 (.tmp 130) rfl (lg) (loff + y * 97) (by rfl) _ _ (hcl) Tryz.underlying3 rfl ?_)))
                    have HAL2 : Hid (∀ k', k' < (k + 1) → rightLoose T.leaves i q.loose k' = true) := fun k' hk' => by
                      by_cases e : k' = k
                      · subst e; rw [HRL.out, HH.out, HNA.out]; simp [h0, HK0.out]
                      · exact HAL.out k' (by omega)
                    have HB3 := Lib.hid hB
                    have HP3 := Lib.hid hP
                    have HE3 := Lib.hid hE
                    clear hB hP hE hcx hcl hcq
                    go_roundw
                    case rel => exact ⟨k + 1, by omega, by go_num, HB3, HP3, HE3, HAL2⟩
                    case measure => simp [intOf]; omega
                  obtain ⟨k0, hk1⟩ : ∃ k0, k = k0 + 1 := ⟨k - 1, by omega⟩
                  have hK1 : (k : Int) - 1 = (k0 : Int) := by omega
                  obtain ⟨z, hz⟩ : ∃ z, q.loose[k0]? = some z := ⟨_, List.getElem?_eq_getElem (by rw [← HQL.out]; omega)⟩
                  obtain ⟨hz1, hz2⟩ := HQW.out z (List.mem_of_getElem? hz)
                  have hcz : wr3.cell? ⟨qg, qoff + k0, none⟩ = some (.int .i64 z) := by
                    have := (HQE.out.below hE).at' k0 _ hz 0 _ rfl
                    rwa [Nat.mul_one] at this
                  have HGD : Hid (q.loose.getD (k - 1) 0 = z) := by show _ = _; rw [hk1, Nat.add_sub_cancel, List.getD_eq_getElem?_getD, hz]; rfl
                  have HK1 := Lib.hid hk1
                  have hk0n : k0 < ql := by omega
                  clear hz hk1
                  by_cases hlt3 : z < y
                  case neg =>
                    have HF : Hid (R = false) := HRR.out.trans (rightT_par HQ.out (rightPar_loose (by rw [← HQL.out]; exact hkl) (by rw [HRL.out, HGD.out, decide_eq_false hlt3, show (k == 0) = false by simp [hk0]]; simp)))
                    have hge : (y : Int) ≤ z := by omega
                    go_wp2_with (first | ((with_reducible show wpList _ _ _ (⟨some 108, _, _, _, _, _⟩ :: _) _ _); refine wpList_load1 rfl 40 (.tmp 107) rfl (pb) 65 (by rfl) _ _ (hcq) Tryz.underlying40 rfl ?_) | ((with_reducible show wpList _ _ _ (⟨some 114, _, _, _, _, _⟩ :: _) _ _); refine wpList_load1 rfl 40 (.tmp 113) rfl (pb) 65 (by rfl) _ _ (hcq) Tryz.underlying40 rfl ?_) | ((with_reducible show wpList _ _ _ (⟨some 117, _, _, _, _, _⟩ :: _) _ _); refine wpList_load1 rfl 3 (.tmp 116) rfl (qg) (qoff + k) (by rfl) _ _ (hcx) Tryz.underlying3 rfl ?_))
                    refine (RHoldsI _ _ _ _).mono ?_
                    rintro e ww ⟨rfl, hww⟩
                    subst ww
                    rw [hh]
                    go_wp2_with (first | ((with_reducible show wpList _ _ _ (⟨some 127, _, _, _, _, _⟩ :: _) _ _); refine wpList_if (by rfl) (wp_load1 24 (.tmp 126) rfl (bb) 0 (by rfl) _ _ (hB.cell 0 _ rfl) Tryz.underlying24 rfl ?_)) | ((with_reducible show wpList _ _ _ (⟨some 131, _, _, _, _, _⟩ :: _) _ _); refine wpList_if (by rfl) (wp_load1 3 (.tmp 130) rfl (lg) (loff + y * 97) (by rfl) _ _ (hcl) Tryz.underlying3 rfl ?_)) | ((with_reducible show wpList _ _ _ (⟨some 139, _, _, _, _, _⟩ :: _) _ _); refine wpList_if (by rfl) (wp_load1 40 (.tmp 138) rfl (pb) 65 (by rfl) _ _ (hcq) Tryz.underlying40 rfl ?_)) | ((with_reducible show wpList _ _ _ (⟨some 143, _, _, _, _, _⟩ :: _) _ _); refine wpList_if (by rfl) (wp_load1 3 (.tmp 142) rfl (qg) (qoff + k0) (by rfl) _ _ (hcz) Tryz.underlying3 rfl ?_)))
                    go_returns
                    exact ⟨by rw [HF.out]; rfl, hE⟩
                  case pos =>
                    have hge : ¬ (y : Int) ≤ z := by omega
                    go_wp2_with (first | ((with_reducible show wpList _ _ _ (⟨some 108, _, _, _, _, _⟩ :: _) _ _); refine wpList_load1 rfl 40 (.tmp 107) rfl (pb) 65 (by rfl) _ _ (hcq) Tryz.underlying40 rfl ?_) | ((with_reducible show wpList _ _ _ (⟨some 114, _, _, _, _, _⟩ :: _) _ _); refine wpList_load1 rfl 40 (.tmp 113) rfl (pb) 65 (by rfl) _ _ (hcq) Tryz.underlying40 rfl ?_) | ((with_reducible show wpList _ _ _ (⟨some 117, _, _, _, _, _⟩ :: _) _ _); refine wpList_load1 rfl 3 (.tmp 116) rfl (qg) (qoff + k) (by rfl) _ _ (hcx) Tryz.underlying3 rfl ?_))
                    refine (RHoldsI _ _ _ _).mono ?_
                    rintro e ww ⟨rfl, hww⟩
                    subst ww
                    rw [hh]
                    go_wp2_with (first | ((with_reducible show wpList _ _ _ (⟨some 127, _, _, _, _, _⟩ :: _) _ _); refine wpList_if (by rfl) (wp_load1 24 (.tmp 126) rfl (bb) 0 (by rfl) _ _ (hB.cell 0 _ rfl) Tryz.underlying24 rfl ?_)) | ((with_reducible show wpList _ _ _ (⟨some 131, _, _, _, _, _⟩ :: _) _ _); refine wpList_if (by rfl) (wp_load1 3 (.tmp 130) rfl (lg) (loff + y * 97) (by rfl) _ _ (hcl) Tryz.underlying3 rfl ?_)) | ((with_reducible show wpList _ _ _ (⟨some 139, _, _, _, _, _⟩ :: _) _ _); refine wpList_if (by rfl) (wp_load1 40 (.tmp 138) rfl (pb) 65 (by rfl) _ _ (hcq) Tryz.underlying40 rfl ?_)) | ((with_reducible show wpList _ _ _ (⟨some 143, _, _, _, _, _⟩ :: _) _ _); refine wpList_if (by rfl) (wp_load1 3 (.tmp 142) rfl (qg) (qoff + k0) (by rfl) _ _ (hcz) Tryz.underlying3 rfl ?_)))
                    clear hcz
                    have HAL2 : Hid (∀ k', k' < (k + 1) → rightLoose T.leaves i q.loose k' = true) := fun k' hk' => by
                      by_cases e : k' = k
                      · subst e; rw [HRL.out, HH.out, HNA.out]; rw [HGD.out, decide_eq_true hlt3]; simp [h0]
                      · exact HAL.out k' (by omega)
                    have HB3 := Lib.hid hB
                    have HP3 := Lib.hid hP
                    have HE3 := Lib.hid hE
                    clear hB hP hE hcx hcl hcq
                    go_roundw
                    case rel => exact ⟨k + 1, by omega, by go_num, HB3, HP3, HE3, HAL2⟩
                    case measure => simp [intOf]; omega
              · obtain rfl : k = ql := by omega
                have HALP : Hid (∀ k' q', k' < i + 1 → T.pars[k']? = some q' → rightPar T.leaves k' q' = true) := fun k' q' hk' hq' => by
                  by_cases e : k' = i
                  · subst e
                    rw [HQ.out] at hq'
                    obtain rfl := Option.some.inj hq'
                    unfold rightPar
                    rw [HSZ.out, Bool.true_and, List.all_eq_true]
                    exact fun z hz => HAL.out z (by rw [HQL.out]; exact List.mem_range.1 hz)
                  · exact HALL.out k' q' (by omega) hq'
                clear HAL HALL HPP HSZ
                go_wp2_with ((with_reducible show wpList _ _ _ (⟨some 108, _, _, _, _, _⟩ :: _) _ _); refine wpList_load1 rfl 40 (.tmp 107) rfl pb 65 (by rfl) _ _ hcq Tryz.underlying40 rfl ?_)
                clear hcq
                go_roundw
                case rel => exact ⟨i + 1, by omega, by go_num, HBB, HEE, HALP⟩
                case measure => simp [intOf]; omega
          case true =>
            go_wp2_with (first | ((with_reducible show wpList _ _ _ (⟨some 75, _, _, _, _, _⟩ :: _) _ _); refine wpList_load1 rfl 25 (.tmp 74) rfl (bb) 1 (by rfl) _ _ (hB.cell 1 _ rfl) Tryz.underlying25 rfl ?_) | ((with_reducible show wpList _ _ _ (⟨some 81, _, _, _, _, _⟩ :: _) _ _); refine wpList_load1 rfl 25 (.tmp 80) rfl (bb) 1 (by rfl) _ _ (hB.cell 1 _ rfl) Tryz.underlying25 rfl ?_) | ((with_reducible show wpList _ _ _ (⟨some 84, _, _, _, _, _⟩ :: _) _ _); refine wpList_load_mid rfl 126 (.tmp 83) rfl g (off + i * 66) (by rfl) (q.cells (.slice qo ql qc)) _ hrw Tryz.underlying126 rfl (par_sizeL q _) ?_) | ((with_reducible show wpList _ _ _ (⟨some 8, _, _, _, _, _⟩ :: _) _ _); refine wpList_allocZ rfl 126 rfl _ Tryz.zeroPar ?_; intro wq89 hsq90 baq91 hNq92) | ((with_reducible show wpList _ _ _ (⟨none, Op.store _ (.tmp 8) _, _, _, _, _⟩ :: _) _ _); refine wpList_storeBlk rfl 126 (.tmp 8) (.tmp 84) rfl (wr2.heap.size) ((q.cells (.slice qo ql qc)).toArray) (by rfl) (by rfl) _ _ hNq92 (par_sizeA q _) (par_hold q _) (par_all q _ _ _) ?_; intro wq93 hKq94 gq95; have bbq96 := below_new baq91 gq95 (Nat.le_refl _) baq91.size; have ltq97 : bb < wr2.heap.size := hB.lt; have hCq98 := hB.below bbq96 hB.lt; have hBq99 := hE.trans (bbq96.mono (hE.size)); clear hB hE; clear bbq96 baq91 hNq92 gq95 hsq90) | ((with_reducible show wpList _ _ _ (⟨some 86, _, _, _, _, _⟩ :: _) _ _); refine wpList_load1 rfl 4 (.tmp 85) rfl (wr2.heap.size) 0 (by rfl) _ _ ((by have hc := par_s (blk_rangeP hKq94); rw [HS.out] at hc; exact hc)) Tryz.underlying4 rfl ?_) | ((with_reducible show wpList _ _ _ (⟨some 90, _, _, _, _, _⟩ :: _) _ _); refine wpList_if (by rfl) (wp_load_mid 23 (.tmp 89) rfl (wr2.heap.size) 1 (by rfl) (q.p.map bv) _ (by have hc := par_p (blk_rangeP hKq94); rwa [Nat.zero_add] at hc) Tryz.underlying23 rfl (by rw [List.length_map, HQP.out]; exact Tryz.sizeHash) ?_)) | ((with_reducible show wpList _ _ _ (⟨some 91, _, _, _, _, _⟩ :: _) _ _); refine wpList_if (by rfl) (wp_buildCells 23 #[] rfl ((z32L.map bv).toArray) (by kernel_rfl) ?_)) | ((with_reducible show wpList _ _ _ (⟨some 95, _, _, _, _, _⟩ :: _) _ _); refine wpList_if (by rfl) (wp_load_mid 23 (.tmp 94) rfl (wr2.heap.size) 33 (by rfl) (q.a.map bv) _ (by have hc := par_a (blk_rangeP hKq94); rwa [Nat.zero_add] at hc) Tryz.underlying23 rfl (by rw [List.length_map, HQA.out]; exact Tryz.sizeHash) ?_)) | ((with_reducible show wpList _ _ _ (⟨some 96, _, _, _, _, _⟩ :: _) _ _); refine wpList_if (by rfl) (wp_buildCells 23 #[] rfl ((z32L.map bv).toArray) (by kernel_rfl) ?_)) | ((with_reducible show wpList _ _ _ (⟨some 101, _, _, _, _, _⟩ :: _) _ _); refine wpList_if (by rfl) (wp_load1 40 (.tmp 100) rfl (wr2.heap.size) 65 (by rfl) _ _ ((by have hc := par_l (blk_rangeP hKq94); rwa [Nat.zero_add] at hc)) Tryz.underlying40 rfl ?_)))
            obtain ⟨pb, hpb⟩ : ∃ z, z = wr2.heap.size := ⟨_, rfl⟩
            have hPP := hKq94
            rw [← hpb] at hPP ⊢
            have HPP := Lib.hid hPP
            have HBB := Lib.hid hCq98
            have HEE := Lib.hid hBq99
            have HSZ : Hid ((q.s || q.isZ) = true) := HSZ0.out
            have HL0 : Hid (∀ k', k' < 0 → rightLoose T.leaves i q.loose k' = true) := fun k' hk => by omega
            clear hPP hKq94 hCq98 hBq99 hpb hrw hsz2 hqp hqa hk0 HSZ0
            go_loopw [9] (fun j wr3 => ∃ k : Nat, k ≤ ql ∧ j = .int .i64 k ∧ Hid (Blk wr3 bb #[.slice lo n ac, .slice (some ⟨g, off, none⟩) m pc] 27) ∧ Hid (Blk wr3 pb (q.cells (.slice qo ql qc)).toArray 126) ∧ Hid (Below w.heap.size w wr3) ∧ Hid (∀ k', k' < k → rightLoose T.leaves i q.loose k' = true)) (fun j _ => ql - (intOf j).toNat)
            case atStart => exact ⟨0, by omega, rfl, HBB, HPP, HEE, HL0⟩
            case round =>
              clear HBB HPP HEE HL0
              obtain ⟨k, hk, rfl, HBB, HPP, HEE, HAL⟩ := hrel
              obtain ⟨wr3, rfl⟩ : ∃ z, z = wr := ⟨_, rfl⟩
              have hcq : wr3.cell? ⟨pb, 65, none⟩ = some (.slice qo ql qc) := by have h65 := par_l (blk_rangeP HPP.out); rwa [Nat.zero_add] at h65
              by_cases hkl : k < ql
              · obtain ⟨qg, qoff, x, rfl, hx, hrx⟩ := HQE.out.at k hkl
                obtain ⟨hx1, hx2⟩ := HQW.out x (List.mem_of_getElem? hx)
                have hcx : wr3.cell? ⟨qg, qoff + k, none⟩ = some (.int .i64 x) := by
                  have := (HQE.out.below HEE.out).at' k _ hx 0 _ rfl
                  rwa [Nat.mul_one] at this
                have HX := Lib.hid hx
                have hB := HBB.out
                have hP := HPP.out
                have hE := HEE.out
                have HRL : Hid (rightLoose T.leaves i q.loose k = (holdsI n (2 * (i : Int) + 1) x && (decide (nameAt T.leaves x ≠ 0) && (k == 0 || decide (q.loose.getD (k - 1) 0 < x))))) := by
                  show _ = _
                  unfold rightLoose
                  rw [HX.out, HLN.out]
                clear hx hrx HBB HPP HEE
                by_cases hh : holdsI n (2 * (i : Int) + 1) x = true
                case neg =>
                  have hh : holdsI n (2 * (i : Int) + 1) x = false := by simpa using hh
                  have HF : Hid (R = false) := HRR.out.trans (rightT_par HQ.out (rightPar_loose (by rw [← HQL.out]; exact hkl) (by rw [HRL.out, hh]; simp)))
                  go_wp2_with (first | ((with_reducible show wpList _ _ _ (⟨some 108, _, _, _, _, _⟩ :: _) _ _); refine wpList_load1 rfl 40 (.tmp 107) rfl (pb) 65 (by rfl) _ _ (hcq) Tryz.underlying40 rfl ?_) | ((with_reducible show wpList _ _ _ (⟨some 114, _, _, _, _, _⟩ :: _) _ _); refine wpList_load1 rfl 40 (.tmp 113) rfl (pb) 65 (by rfl) _ _ (hcq) Tryz.underlying40 rfl ?_) | ((with_reducible show wpList _ _ _ (⟨some 117, _, _, _, _, _⟩ :: _) _ _); refine wpList_load1 rfl 3 (.tmp 116) rfl (qg) (qoff + k) (by rfl) _ _ (hcx) Tryz.underlying3 rfl ?_))
                  refine (RHoldsI _ _ _ _).mono ?_
                  rintro e ww ⟨rfl, hww⟩
                  subst ww
                  rw [hh]
                  go_wp2_with fail
                  go_returns
                  exact ⟨by rw [HF.out]; rfl, hE⟩
                case pos =>
                  obtain ⟨hx0, hxn⟩ := holds_in hh
                  obtain ⟨y, rfl⟩ : ∃ y : Nat, x = y := ⟨x.toNat, by omega⟩
                  have hyn : y < n := by omega
                  obtain ⟨lg, loff, l2, rfl, hl2, hrl⟩ := HT.out.el.at y hyn
                  have hcl : wr3.cell? ⟨lg, loff + y * 97, none⟩ = some (.int .i64 l2.n) := leaf_nR ((HT.out.el.below hE).at' y _ hl2)
                  have hna : nameAt T.leaves (y : Int) = l2.n := by unfold nameAt; rw [Int.toNat_natCast, hl2]; rfl
                  have HNA := Lib.hid hna
                  have HH := Lib.hid hh
                  clear hl2 hrl hna
                  by_cases h0 : l2.n = 0
                  · have hn0 : (l2.n == 0) = true := by simp [h0]
                    have HF : Hid (R = false) := HRR.out.trans (rightT_par HQ.out (rightPar_loose (by rw [← HQL.out]; exact hkl) (by rw [HRL.out, HNA.out, h0]; simp)))
                    go_wp2_with (first | ((with_reducible show wpList _ _ _ (⟨some 108, _, _, _, _, _⟩ :: _) _ _); refine wpList_load1 rfl 40 (.tmp 107) rfl (pb) 65 (by rfl) _ _ (hcq) Tryz.underlying40 rfl ?_) | ((with_reducible show wpList _ _ _ (⟨some 114, _, _, _, _, _⟩ :: _) _ _); refine wpList_load1 rfl 40 (.tmp 113) rfl (pb) 65 (by rfl) _ _ (hcq) Tryz.underlying40 rfl ?_) | ((with_reducible show wpList _ _ _ (⟨some 117, _, _, _, _, _⟩ :: _) _ _); refine wpList_load1 rfl 3 (.tmp 116) rfl (qg) (qoff + k) (by rfl) _ _ (hcx) Tryz.underlying3 rfl ?_))
                    refine (RHoldsI _ _ _ _).mono ?_
                    rintro e ww ⟨rfl, hww⟩
                    subst ww
                    rw [hh]
                    go_wp2_with (first | ((with_reducible show wpList _ _ _ (⟨some 127, _, _, _, _, _⟩ :: _) _ _); refine wpList_if (by rfl) (wp_load1 24 (.tmp 126) rfl (bb) 0 (by rfl) _ _ (hB.cell 0 _ rfl) Tryz.underlying24 rfl ?_)) | ((with_reducible show wpList _ _ _ (⟨some 131, _, _, _, _, _⟩ :: _) _ _); refine wpList_if (by rfl) (wp_load1 3 (.tmp 130) rfl (lg) (loff + y * 97) (by rfl) _ _ (hcl) Tryz.underlying3 rfl ?_)))
                    go_returns
                    exact ⟨by rw [HF.out]; rfl, hE⟩
                  have hn0 : (l2.n == 0) = false := by simp [h0]
                  by_cases hk0 : k = 0
                  · have hg0 : ¬ (0 : Int) < k := by omega
                    have HK0 := Lib.hid hk0
                    clear hk0
                    go_wp2_with (first | ((with_reducible show wpList _ _ _ (⟨some 108, _, _, _, _, _⟩ :: _) _ _); refine wpList_load1 rfl 40 (.tmp 107) rfl (pb) 65 (by rfl) _ _ (hcq) Tryz.underlying40 rfl ?_) | ((with_reducible show wpList _ _ _ (⟨some 114, _, _, _, _, _⟩ :: _) _ _); refine wpList_load1 rfl 40 (.tmp 113) rfl (pb) 65 (by rfl) _ _ (hcq) Tryz.underlying40 rfl ?_) | ((with_reducible show wpList _ _ _ (⟨some 117, _, _, _, _, _⟩ :: _) _ _); refine wpList_load1 rfl 3 (.tmp 116) rfl (qg) (qoff + k) (by rfl) _ _ (hcx) Tryz.underlying3 rfl ?_))
                    refine (RHoldsI _ _ _ _).mono ?_
                    rintro e ww ⟨rfl, hww⟩
                    subst ww
                    rw [hh]
                    go_wp2_with (first | ((with_reducible show wpList _ _ _ (⟨some 127, _, _, _, _, _⟩ :: _) _ _); refine wpList_if (by rfl) (wp_load1 24 (.tmp 126) rfl (bb) 0 (by rfl) _ _ (hB.cell 0 _ rfl) Tryz.underlying24 rfl ?_)) | ((with_reducible show wpList _ _ _ (⟨some 131, _, _, _, _, _⟩ :: _) _ _); refine wpList_if (by rfl) (wp_load1 3 (.tmp 130) rfl (lg) (loff + y * 97) (by rfl) _ _ (hcl) Tryz.underlying3 rfl ?_)))
                    have HAL2 : Hid (∀ k', k' < (k + 1) → rightLoose T.leaves i q.loose k' = true) := fun k' hk' => by
                      by_cases e : k' = k
                      · subst e; rw [HRL.out, HH.out, HNA.out]; simp [h0, HK0.out]
                      · exact HAL.out k' (by omega)
                    have HB3 := Lib.hid hB
                    have HP3 := Lib.hid hP
                    have HE3 := Lib.hid hE
                    clear hB hP hE hcx hcl hcq
                    go_roundw
                    case rel => exact ⟨k + 1, by omega, by go_num, HB3, HP3, HE3, HAL2⟩
                    case measure => simp [intOf]; omega
                  obtain ⟨k0, hk1⟩ : ∃ k0, k = k0 + 1 := ⟨k - 1, by omega⟩
                  have hK1 : (k : Int) - 1 = (k0 : Int) := by omega
                  obtain ⟨z, hz⟩ : ∃ z, q.loose[k0]? = some z := ⟨_, List.getElem?_eq_getElem (by rw [← HQL.out]; omega)⟩
                  obtain ⟨hz1, hz2⟩ := HQW.out z (List.mem_of_getElem? hz)
                  have hcz : wr3.cell? ⟨qg, qoff + k0, none⟩ = some (.int .i64 z) := by
                    have := (HQE.out.below hE).at' k0 _ hz 0 _ rfl
                    rwa [Nat.mul_one] at this
                  have HGD : Hid (q.loose.getD (k - 1) 0 = z) := by show _ = _; rw [hk1, Nat.add_sub_cancel, List.getD_eq_getElem?_getD, hz]; rfl
                  have HK1 := Lib.hid hk1
                  have hk0n : k0 < ql := by omega
                  clear hz hk1
                  by_cases hlt3 : z < y
                  case neg =>
                    have HF : Hid (R = false) := HRR.out.trans (rightT_par HQ.out (rightPar_loose (by rw [← HQL.out]; exact hkl) (by rw [HRL.out, HGD.out, decide_eq_false hlt3, show (k == 0) = false by simp [hk0]]; simp)))
                    have hge : (y : Int) ≤ z := by omega
                    go_wp2_with (first | ((with_reducible show wpList _ _ _ (⟨some 108, _, _, _, _, _⟩ :: _) _ _); refine wpList_load1 rfl 40 (.tmp 107) rfl (pb) 65 (by rfl) _ _ (hcq) Tryz.underlying40 rfl ?_) | ((with_reducible show wpList _ _ _ (⟨some 114, _, _, _, _, _⟩ :: _) _ _); refine wpList_load1 rfl 40 (.tmp 113) rfl (pb) 65 (by rfl) _ _ (hcq) Tryz.underlying40 rfl ?_) | ((with_reducible show wpList _ _ _ (⟨some 117, _, _, _, _, _⟩ :: _) _ _); refine wpList_load1 rfl 3 (.tmp 116) rfl (qg) (qoff + k) (by rfl) _ _ (hcx) Tryz.underlying3 rfl ?_))
                    refine (RHoldsI _ _ _ _).mono ?_
                    rintro e ww ⟨rfl, hww⟩
                    subst ww
                    rw [hh]
                    go_wp2_with (first | ((with_reducible show wpList _ _ _ (⟨some 127, _, _, _, _, _⟩ :: _) _ _); refine wpList_if (by rfl) (wp_load1 24 (.tmp 126) rfl (bb) 0 (by rfl) _ _ (hB.cell 0 _ rfl) Tryz.underlying24 rfl ?_)) | ((with_reducible show wpList _ _ _ (⟨some 131, _, _, _, _, _⟩ :: _) _ _); refine wpList_if (by rfl) (wp_load1 3 (.tmp 130) rfl (lg) (loff + y * 97) (by rfl) _ _ (hcl) Tryz.underlying3 rfl ?_)) | ((with_reducible show wpList _ _ _ (⟨some 139, _, _, _, _, _⟩ :: _) _ _); refine wpList_if (by rfl) (wp_load1 40 (.tmp 138) rfl (pb) 65 (by rfl) _ _ (hcq) Tryz.underlying40 rfl ?_)) | ((with_reducible show wpList _ _ _ (⟨some 143, _, _, _, _, _⟩ :: _) _ _); refine wpList_if (by rfl) (wp_load1 3 (.tmp 142) rfl (qg) (qoff + k0) (by rfl) _ _ (hcz) Tryz.underlying3 rfl ?_)))
                    go_returns
                    exact ⟨by rw [HF.out]; rfl, hE⟩
                  case pos =>
                    have hge : ¬ (y : Int) ≤ z := by omega
                    go_wp2_with (first | ((with_reducible show wpList _ _ _ (⟨some 108, _, _, _, _, _⟩ :: _) _ _); refine wpList_load1 rfl 40 (.tmp 107) rfl (pb) 65 (by rfl) _ _ (hcq) Tryz.underlying40 rfl ?_) | ((with_reducible show wpList _ _ _ (⟨some 114, _, _, _, _, _⟩ :: _) _ _); refine wpList_load1 rfl 40 (.tmp 113) rfl (pb) 65 (by rfl) _ _ (hcq) Tryz.underlying40 rfl ?_) | ((with_reducible show wpList _ _ _ (⟨some 117, _, _, _, _, _⟩ :: _) _ _); refine wpList_load1 rfl 3 (.tmp 116) rfl (qg) (qoff + k) (by rfl) _ _ (hcx) Tryz.underlying3 rfl ?_))
                    refine (RHoldsI _ _ _ _).mono ?_
                    rintro e ww ⟨rfl, hww⟩
                    subst ww
                    rw [hh]
                    go_wp2_with (first | ((with_reducible show wpList _ _ _ (⟨some 127, _, _, _, _, _⟩ :: _) _ _); refine wpList_if (by rfl) (wp_load1 24 (.tmp 126) rfl (bb) 0 (by rfl) _ _ (hB.cell 0 _ rfl) Tryz.underlying24 rfl ?_)) | ((with_reducible show wpList _ _ _ (⟨some 131, _, _, _, _, _⟩ :: _) _ _); refine wpList_if (by rfl) (wp_load1 3 (.tmp 130) rfl (lg) (loff + y * 97) (by rfl) _ _ (hcl) Tryz.underlying3 rfl ?_)) | ((with_reducible show wpList _ _ _ (⟨some 139, _, _, _, _, _⟩ :: _) _ _); refine wpList_if (by rfl) (wp_load1 40 (.tmp 138) rfl (pb) 65 (by rfl) _ _ (hcq) Tryz.underlying40 rfl ?_)) | ((with_reducible show wpList _ _ _ (⟨some 143, _, _, _, _, _⟩ :: _) _ _); refine wpList_if (by rfl) (wp_load1 3 (.tmp 142) rfl (qg) (qoff + k0) (by rfl) _ _ (hcz) Tryz.underlying3 rfl ?_)))
                    clear hcz
                    have HAL2 : Hid (∀ k', k' < (k + 1) → rightLoose T.leaves i q.loose k' = true) := fun k' hk' => by
                      by_cases e : k' = k
                      · subst e; rw [HRL.out, HH.out, HNA.out]; rw [HGD.out, decide_eq_true hlt3]; simp [h0]
                      · exact HAL.out k' (by omega)
                    have HB3 := Lib.hid hB
                    have HP3 := Lib.hid hP
                    have HE3 := Lib.hid hE
                    clear hB hP hE hcx hcl hcq
                    go_roundw
                    case rel => exact ⟨k + 1, by omega, by go_num, HB3, HP3, HE3, HAL2⟩
                    case measure => simp [intOf]; omega
              · obtain rfl : k = ql := by omega
                have HALP : Hid (∀ k' q', k' < i + 1 → T.pars[k']? = some q' → rightPar T.leaves k' q' = true) := fun k' q' hk' hq' => by
                  by_cases e : k' = i
                  · subst e
                    rw [HQ.out] at hq'
                    obtain rfl := Option.some.inj hq'
                    unfold rightPar
                    rw [HSZ.out, Bool.true_and, List.all_eq_true]
                    exact fun z hz => HAL.out z (by rw [HQL.out]; exact List.mem_range.1 hz)
                  · exact HALL.out k' q' (by omega) hq'
                clear HAL HALL HPP HSZ
                go_wp2_with ((with_reducible show wpList _ _ _ (⟨some 108, _, _, _, _, _⟩ :: _) _ _); refine wpList_load1 rfl 40 (.tmp 107) rfl pb 65 (by rfl) _ _ hcq Tryz.underlying40 rfl ?_)
                clear hcq
                go_roundw
                case rel => exact ⟨i + 1, by omega, by go_num, HBB, HEE, HALP⟩
                case measure => simp [intOf]; omega
        · obtain rfl : i = m := by omega
          have HR : Hid (rightT T = (T.leaves.isEmpty || decide (nameAt T.leaves (T.leaves.length - 1 : Nat) ≠ 0))) := rightT_end (by have := HLN.out; omega) (by rw [HLM.out, HLN.out]; exact HMN.out) HALL1.out (fun k q hk => HALL.out k q (by rw [← HLM.out]; exact (List.getElem?_eq_some_iff.1 hk).1) hk)
          have hB := HB.out
          have hE := HE.out
          have hn0 := HN0.out
          clear HB HE HALL hi hlt
          obtain ⟨n0, hn2⟩ : ∃ n0, n0 + 1 = n := ⟨n - 1, by omega⟩
          have hN1 : (n : Int) - 1 = (n0 : Int) := by omega
          have hn0n : n0 < n := by omega
          obtain ⟨lg, loff, l, rfl, hl, hrl⟩ := HT.out.el.at n0 hn0n
          have hcl : wr2.cell? ⟨lg, loff + n0 * 97, none⟩ = some (.int .i64 l.n) := leaf_nR ((HT.out.el.below hE).at' n0 _ hl)
          have hna : nameAt T.leaves ((T.leaves.length - 1 : Nat) : Int) = l.n := by unfold nameAt; rw [Int.toNat_natCast, HLN.out, show n - 1 = n0 by omega, hl]; rfl
          have he : T.leaves.isEmpty = false := by rw [Bool.eq_false_iff]; intro e; rw [List.isEmpty_iff_length_eq_zero, HLN.out] at e; exact hn0 e
          have HF : Hid (R = (l.n != 0)) := by
            show _ = _
            rw [HRR.out, HR.out, he, hna, Bool.false_or]
            by_cases e : l.n = 0 <;> simp [e]
          clear HR HALL1 hl hrl hna he hn2 hn0
          go_wp2_with (first | ((with_reducible show wpList _ _ _ (⟨some 75, _, _, _, _, _⟩ :: _) _ _); refine wpList_load1 rfl 25 (.tmp 74) rfl bb 1 (by rfl) _ _ (hB.cell 1 _ rfl) Tryz.underlying25 rfl ?_) | ((with_reducible show wpList _ _ _ (⟨some 152, _, _, _, _, _⟩ :: _) _ _); refine wpList_if (by rfl) (wp_load1 24 (.tmp 151) rfl bb 0 (by rfl) _ _ (hB.cell 0 _ rfl) Tryz.underlying24 rfl ?_)) | ((with_reducible show wpList _ _ _ (⟨some 157, _, _, _, _, _⟩ :: _) _ _); refine wpList_if (by rfl) (wp_load1 3 (.tmp 156) rfl lg (loff + n0 * 97) (by rfl) _ _ hcl Tryz.underlying3 rfl ?_)))
          go_returns
          exact ⟨by rw [HF.out]; rfl, hE⟩
set_option maxHeartbeats 4000000 in
set_option maxRecDepth 100000 in
theorem RPlace_calls (lo po : Option Addr) (n ac m pc : Nat) (lvs : List Value) (T : TreeT) (x : Int) (w : World) (h : TreeIs w lo n ac po m pc lvs T) (hn : n ≤ 1000000) :
    Calls Tryz.prog 89 #[.agg #[.slice lo n ac, .slice po m pc], .int .i64 x] w fun e w' => e = .returned (.int .i64 (if x < 1 then -1 else firstL x T.leaves)) ∧ Below w.heap.size w w' := by
  have HT := Lib.hid h
  have HN := Lib.hid h.ln
  have hb0 : Below w.heap.size w (w.alloc (.cells #[.slice lo n ac, .slice po m pc] 27)) := below_alloc1 _ _
  have hA0 : Blk (w.alloc (.cells #[.slice lo n ac, .slice po m pc] 27)) w.heap.size #[.slice lo n ac, .slice po m pc] 27 := Blk.new _ _ _
  obtain ⟨r, hr⟩ : ∃ r, r = (if x < 1 then -1 else firstL x T.leaves) := ⟨_, rfl⟩
  have HR := Lib.hid hr
  rw [← hr]
  clear h hr
  go_enter Tryz.func89, Tryz.ntmps89
  go_wp2_with fail
  obtain ⟨W1, hW1⟩ : ∃ z, z = w.alloc (.cells #[.slice lo n ac, .slice po m pc] 27) := ⟨_, rfl⟩
  obtain ⟨bb, hbb⟩ : ∃ z, z = w.heap.size := ⟨_, rfl⟩
  rw [← hW1] at hA0 hb0 ⊢
  rw [← hbb] at hA0 ⊢
  have HA := Lib.hid hA0
  have HB := Lib.hid hb0
  clear hW1 hbb hA0 hb0
  go_loopw [5] (fun j wr => ∃ k : Nat, k ≤ n ∧ j = .int .i64 k ∧ Hid (Blk wr bb #[.slice lo n ac, .slice po m pc] 27) ∧ Hid (Below w.heap.size w wr) ∧ Hid (∀ j l, j < k → T.leaves[j]? = some l → l.n ≠ x)) (fun j _ => n - (intOf j).toNat)
  case atStart => exact ⟨0, by omega, rfl, HA, HB, Lib.hid (fun j l hj => by omega)⟩
  case round =>
    clear HA HB
    obtain ⟨k, hk, rfl, HA, HB, HNO⟩ := hrel
    have hcb := HA.out.cell 0 _ rfl
    by_cases hlt : k < n
    · by_cases hx : x < 1
      · have hx' : ¬ (0 : Int) < x := by omega
        have HF : Hid (r = -1) := HR.out.trans (if_pos hx)
        go_wp2_with ((with_reducible show wpList _ _ _ (⟨some 8, _, _, _, _, _⟩ :: _) _ _); refine wpList_load1 rfl 24 (.tmp 7) rfl bb 0 (by rfl) _ _ hcb Tryz.underlying24 rfl ?_)
        go_returns
        exact ⟨by rw [HF.out]; rfl, HB.out⟩
      · have hx' : (0 : Int) < x := by omega
        obtain ⟨g, off, l, rfl, hl, _⟩ := HT.out.el.at k hlt
        have hcl : wr.cell? ⟨g, off + k * 97, none⟩ = some (.int .i64 l.n) := leaf_nR ((HT.out.el.below HB.out).at' k _ hl)
        have HL := Lib.hid hl
        have HX := Lib.hid hx
        clear hl hx
        obtain ⟨d, hd⟩ : ∃ d, (l.n == x) = d := ⟨_, rfl⟩
        have HD := Lib.hid hd
        rcases d with _ | _
        case true =>
          have HF : Hid (r = (k : Int)) := HR.out.trans ((if_neg HX.out).trans (firstL_some HNO.out HL.out (beq_iff_eq.1 HD.out)))
          go_wp2_with (first | ((with_reducible show wpList _ _ _ (⟨some 8, _, _, _, _, _⟩ :: _) _ _); refine wpList_load1 rfl 24 (.tmp 7) rfl bb 0 (by rfl) _ _ hcb Tryz.underlying24 rfl ?_) | ((with_reducible show wpList _ _ _ (⟨some 18, _, _, _, _, _⟩ :: _) _ _); refine wpList_load1 rfl 24 (.tmp 17) rfl bb 0 (by rfl) _ _ hcb Tryz.underlying24 rfl ?_) | ((with_reducible show wpList _ _ _ (⟨some 22, _, _, _, _, _⟩ :: _) _ _); refine wpList_load1 rfl 3 (.tmp 21) rfl g (off + k * 97) (by rfl) _ _ hcl Tryz.underlying3 rfl ?_))
          go_returns
          exact ⟨by rw [HF.out]; rfl, HB.out⟩
        case false =>
          have HN3 : Hid (∀ j l, j < k + 1 → T.leaves[j]? = some l → l.n ≠ x) := fun j l' hj hl' => by
            by_cases e : j = k
            · subst e
              rw [HL.out] at hl'
              obtain rfl := Option.some.inj hl'
              exact beq_eq_false_iff_ne.1 HD.out
            · exact HNO.out j l' (by omega) hl'
          go_wp2_with (first | ((with_reducible show wpList _ _ _ (⟨some 8, _, _, _, _, _⟩ :: _) _ _); refine wpList_load1 rfl 24 (.tmp 7) rfl bb 0 (by rfl) _ _ hcb Tryz.underlying24 rfl ?_) | ((with_reducible show wpList _ _ _ (⟨some 18, _, _, _, _, _⟩ :: _) _ _); refine wpList_load1 rfl 24 (.tmp 17) rfl bb 0 (by rfl) _ _ hcb Tryz.underlying24 rfl ?_) | ((with_reducible show wpList _ _ _ (⟨some 22, _, _, _, _, _⟩ :: _) _ _); refine wpList_load1 rfl 3 (.tmp 21) rfl g (off + k * 97) (by rfl) _ _ hcl Tryz.underlying3 rfl ?_))
          clear hcb hcl hd
          go_roundw
          case rel => exact ⟨k + 1, by omega, by go_num, HA, HB, HN3⟩
          case measure => simp [intOf]; omega
    · obtain rfl : k = n := by omega
      have HF : Hid (r = -1) := by
        show _ = _
        rw [HR.out]
        by_cases hx : x < 1
        · rw [if_pos hx]
        · rw [if_neg hx, firstL_none (fun j l hj hl => HNO.out j l (by rw [← HN.out]; exact hj) hl)]
      go_wp2_with ((with_reducible show wpList _ _ _ (⟨some 8, _, _, _, _, _⟩ :: _) _ _); refine wpList_load1 rfl 24 (.tmp 7) rfl bb 0 (by rfl) _ _ hcb Tryz.underlying24 rfl ?_)
      go_returns
      exact ⟨by rw [HF.out]; rfl, HB.out⟩
end Go.Proofs.YtjlpdbaknhbgdaaGreat
