/-
  tree.Right.
-/
import Derived.Test.YtjlpdbaknhbgdaaGreatQBough
import Derived.Test.YtjlpdbaknhbgdaaGreatQBase
import Derived.WalkLawsBesides
import Derived.Outline
import Derived.Handy
set_option linter.unusedSimpArgs false
set_option linter.unusedVariables false
namespace Go.Proofs.YtjlpdbaknhbgdaaGreat
open Go.RowKit

open Bg (holdsI Holds_calls leaves thereI leavesI thereI_nat)
theorem Tryz.zeroLeaf : (Tryz.prog.info? 144).bind (·.zero) = some (.agg zeroL.cells.toArray) := by kernel_rfl
theorem Tryz.sizeLeaf : (Tryz.prog.info? 144).map (·.size) = some 97 := by kernel_rfl
theorem leaf_sizeA (l : LeafA) : (Tryz.prog.info? 144).map (·.size) = some l.cells.toArray.size := by rw [List.size_toArray, l.cells_len]; exact Tryz.sizeLeaf
theorem leaf_sizeL (l : LeafA) : (Tryz.prog.info? 144).map (·.size) = some l.cells.length := by rw [l.cells_len]; exact Tryz.sizeLeaf
theorem leaf_hold (l : LeafA) : zeroL.cells.toArray.size = l.cells.toArray.size := by rw [List.size_toArray, List.size_toArray, zeroL.cells_len, l.cells_len]
theorem leaf_all (l : LeafA) : l.cells.toArray.all Value.oneCell' = true := by
  rw [List.all_toArray, List.all_eq_true]
  intro x hx
  rw [LeafA.cells] at hx
  simp only [List.mem_cons, List.mem_append, List.mem_map] at hx
  rcases hx with rfl | ⟨y, _, rfl⟩ | ⟨y, _, rfl⟩ | ⟨y, _, rfl⟩ <;> rfl
/-- The names that were seen. -/
def seenB (L : List LeafA) (i j : Nat) : Bool := (L.take i).any fun m => !m.isZ && decide (m.n = j)
def seenC (L : List LeafA) (i : Nat) : List Value := (List.range 65).map fun j => .bool (seenB L i j)
theorem seenC_len (L : List LeafA) (i : Nat) : (seenC L i).length = 65 := by simp [seenC]
theorem seenC_zero (L : List LeafA) : seenC L 0 = List.replicate 65 (.bool false) := by
  simp [seenC, seenB]
  rfl
theorem seenC_skip (L : List LeafA) (i : Nat) (l : LeafA) (h : L[i]? = some l) (hz : l.isZ = true) : seenC L (i + 1) = seenC L i := by
  unfold seenC seenB
  rw [List.take_add_one, h]
  simp [hz]
theorem seenC_set (L : List LeafA) (i k : Nat) (l : LeafA) (h : L[i]? = some l) (hz : l.isZ = false) (hk : l.n = k) (h6 : k ≤ 64) : seenC L (i + 1) = (seenC L i).set k (.bool true) := by
  apply List.ext_getElem?
  intro j
  unfold seenC seenB
  rw [List.take_add_one, h, List.getElem?_set]
  simp only [List.getElem?_map, List.length_map, List.length_range, Option.toList_some, List.any_append, List.any_cons, List.any_nil, hz, Bool.not_false, Bool.true_and, Bool.or_false]
  by_cases hj : k = j
  · subst hj
    rw [if_pos rfl, if_pos (by omega), List.getElem?_range (by omega)]
    simp [hk]
  · rw [if_neg hj]
    by_cases hj2 : j < 65
    · rw [List.getElem?_range hj2]
      simp [hk]
      intro e
      omega
    · rw [List.getElem?_eq_none (by simp; omega)]
      rfl
theorem seen_get (L : List LeafA) (i k : Nat) (h6 : k ≤ 64) : (seenC L i)[k]? = some (.bool (seenB L i k)) := by
  unfold seenC
  rw [List.getElem?_map, List.getElem?_range (by omega)]
  rfl
/-- What was seen tells whether a leaf is right. -/
theorem right_seen (L : List LeafA) (i k : Nat) (l : LeafA) (h : L[i]? = some l) (hz : l.isZ = false) (hk : l.n = k) (h1 : 1 ≤ k) (h6 : k ≤ 64) : rightLeaf L i = !seenB L i k := by
  unfold rightLeaf seenB
  rw [h]
  simp only [hz, Bool.false_or]
  rw [decide_eq_true (by omega), Bool.true_and, List.not_any_eq_all_not]
  congr 1
  funext m
  by_cases hm : m.n = k
  · have : m.isZ = false := by
      unfold LeafA.isZ
      rw [decide_eq_false (by omega)]
      rfl
    rw [hm, this, hk]
    simp
  · rw [hk]
    simp [hm]
theorem Tryz.sizeBool : (Tryz.prog.info? 4).map (·.size) = some 1 := by kernel_rfl
theorem Tryz.zeroSeen : Tryz.zeroCells282 = (List.replicate 65 (Value.bool false)).toArray := by kernel_rfl
theorem leaves_in : ∀ n, n < 65 → ∀ x, x < 127 → (leaves n x).2 ≤ n := by decide +kernel
theorem holds_in {n : Nat} {x l : Int} (h : holdsI n x l = true) : 0 ≤ l ∧ l < n := by
  unfold holdsI leavesI at h
  by_cases ht : thereI n x = true
  · obtain ⟨n', x', e1, rfl, -, h1, h2⟩ := thereI_nat ht
    obtain rfl : n = n' := by omega
    rw [if_pos ht, Int.toNat_natCast, Int.toNat_natCast, Bool.and_eq_true, decide_eq_true_eq, decide_eq_true_eq] at h
    have := leaves_in n h1 x' h2
    simp only at h
    omega
  · rw [if_neg ht, Bool.and_eq_true, decide_eq_true_eq, decide_eq_true_eq] at h
    simp only at h
    omega
theorem range_mid {w : World} {g o k : Nat} {A B C : List Value} (h : w.rangeAt g o (A ++ (B ++ C))) (ho : A.length = k) : w.rangeAt g (o + k) B := fun j u hj => by
  have := h (k + j) u (by subst ho; rw [List.getElem?_append_right (by omega), Nat.add_sub_cancel_left, List.getElem?_append_left (List.getElem?_eq_some_iff.1 hj).1]; exact hj)
  rwa [← Nat.add_assoc] at this
theorem par_p {w : World} {g o : Nat} {q : ParA} {lv : Value} (h : w.rangeAt g o (q.cells lv)) : w.rangeAt g (o + 1) (q.p.map bv) := range_mid (A := [.bool q.s]) (C := q.a.map bv ++ [lv]) h rfl
theorem par_a {w : World} {g o : Nat} {q : ParA} {lv : Value} (h : w.rangeAt g o (q.cells lv)) : w.rangeAt g (o + 33) (q.a.map bv) := range_mid (A := .bool q.s :: q.p.map bv) (C := [lv]) h (by simp [q.hp])
theorem par_l {w : World} {g o : Nat} {q : ParA} {lv : Value} (h : w.rangeAt g o (q.cells lv)) : w.cell? ⟨g, o + 65, none⟩ = some lv := h 65 lv (by
  rw [ParA.cells, List.getElem?_cons_succ, List.getElem?_append_right (by simp [q.hp]), List.getElem?_append_right (by simp [q.hp, q.ha])]; simp [q.hp, q.ha])
theorem par_s {w : World} {g o : Nat} {q : ParA} {lv : Value} (h : w.rangeAt g o (q.cells lv)) : w.cell? ⟨g, o, none⟩ = some (.bool q.s) := h 0 _ rfl
theorem leaf_nR {w : World} {g o : Nat} {l : LeafA} (h : w.rangeAt g o l.cells) : w.cell? ⟨g, o, none⟩ = some (.int .i64 l.n) := h 0 _ rfl
def zeroP : ParA := ⟨false, z32L, z32L, [], rfl, rfl⟩
theorem Tryz.zeroPar : (Tryz.prog.info? 126).bind (·.zero) = some (.agg (zeroP.cells (.slice none 0 0)).toArray) := by kernel_rfl
theorem Tryz.sizePar : (Tryz.prog.info? 126).map (·.size) = some 66 := by kernel_rfl
theorem par_sizeA (q : ParA) (u : Value) : (Tryz.prog.info? 126).map (·.size) = some (q.cells u).toArray.size := by rw [List.size_toArray, q.cells_len]; exact Tryz.sizePar
theorem par_sizeL (q : ParA) (u : Value) : (Tryz.prog.info? 126).map (·.size) = some (q.cells u).length := by rw [q.cells_len]; exact Tryz.sizePar
theorem par_hold (q : ParA) (u : Value) : (zeroP.cells (.slice none 0 0)).toArray.size = (q.cells u).toArray.size := by rw [List.size_toArray, List.size_toArray, zeroP.cells_len, q.cells_len]
theorem par_all (q : ParA) (ao : Option Addr) (n c : Nat) : (q.cells (.slice ao n c)).toArray.all Value.oneCell' = true := by
  rw [List.all_toArray, List.all_eq_true]
  intro x hx
  rw [ParA.cells] at hx
  simp only [List.mem_cons, List.mem_append, List.mem_map, List.not_mem_nil, or_false] at hx
  rcases hx with rfl | ⟨y, _, rfl⟩ | ⟨y, _, rfl⟩ | rfl <;> rfl
set_option maxHeartbeats 4000000 in
set_option maxRecDepth 100000 in
theorem Zero_calls (q : ParA) (ao : Option Addr) (k c : Nat) (hk : k = q.loose.length) (w : World) :
    Calls Tryz.prog 180 #[.agg (q.cells (.slice ao k c)).toArray] w fun e w' => e = .returned (.bool (!q.s && q.isZ)) ∧ Below w.heap.size w w' := by
  have hZ : q.isZ = ((q.p == z32L) && ((q.a == z32L) && decide (k = 0))) := by unfold ParA.isZ; rw [hk]; cases q.loose <;> simp
  rw [hZ]
  clear hk hZ
  have hA0 : Blk (w.alloc (.cells (q.cells (.slice ao k c)).toArray 126)) w.heap.size (q.cells (.slice ao k c)).toArray 126 := Blk.new _ _ _
  have hb0 : Below w.heap.size w (w.alloc (.cells (q.cells (.slice ao k c)).toArray 126)) := below_alloc1 _ _
  have hrg := blk_rangeP hA0
  have hqp : ∀ z, (Op.equalIn 10000 23 (.agg (q.p.map bv).toArray) (.agg (z32L.map bv).toArray)).run Tryz.prog z = .ok (q.p == z32L) z := fun z => run_eq_hash z _ _ q.hp rfl
  have hqa : ∀ z, (Op.equalIn 10000 23 (.agg (q.a.map bv).toArray) (.agg (z32L.map bv).toArray)).run Tryz.prog z = .ok (q.a == z32L) z := fun z => run_eq_hash z _ _ q.ha rfl
  have hs := par_s hrg
  have hp := par_p hrg
  have ha := par_a hrg
  have hl := par_l hrg
  rw [Nat.zero_add] at hp ha hl
  have HP : Hid (q.p.length = 32) := q.hp
  have HA : Hid (q.a.length = 32) := q.ha
  clear hrg hA0
  generalize (q.p == z32L) = b1 at hqp ⊢
  generalize (q.a == z32L) = b2 at hqa ⊢
  generalize q.s = s at hs ⊢
  obtain ⟨b3, hb3⟩ : ∃ b, b = decide (k = 0) := ⟨_, rfl⟩
  have hk0 : ((k : Int) == 0) = b3 := by rw [hb3]; by_cases e : k = 0 <;> simp [e]
  rw [← hb3]
  clear hb3
  have fin : ∀ x : Bool, x = (!s && (b1 && (b2 && b3))) → Ending.returned (.bool x) = .returned (.bool (!s && (b1 && (b2 && b3)))) := fun x h => by rw [h]
  go_enter Tryz.func180, Tryz.ntmps180
  rcases s with _ | _ <;> rcases b1 with _ | _ <;> rcases b2 with _ | _ <;> rcases b3 with _ | _
  all_goals
    go_wp2_with (first | ((with_reducible show wpList _ _ _ (⟨some 4, _, _, _, _, _⟩ :: _) _ _); refine wpList_load1 rfl 4 (.tmp 3) rfl w.heap.size 0 (by rfl) _ _ hs Tryz.underlying4 rfl ?_) | ((with_reducible show wpList _ _ _ (⟨some 8, _, _, _, _, _⟩ :: _) _ _); refine wpList_if (by rfl) (wp_load_mid 23 (.tmp 7) rfl w.heap.size 1 (by rfl) (q.p.map bv) _ hp Tryz.underlying23 rfl (by rw [List.length_map, HP.out]; exact Tryz.sizeHash) ?_)) | ((with_reducible show wpList _ _ _ (⟨some 9, _, _, _, _, _⟩ :: _) _ _); refine wpList_if (by rfl) (wp_buildCells 23 #[] rfl (z32L.map bv).toArray (by kernel_rfl) ?_)) | ((with_reducible show wpList _ _ _ (⟨some 14, _, _, _, _, _⟩ :: _) _ _); refine wpList_if (by rfl) (wp_load_mid 23 (.tmp 13) rfl w.heap.size 33 (by rfl) (q.a.map bv) _ ha Tryz.underlying23 rfl (by rw [List.length_map, HA.out]; exact Tryz.sizeHash) ?_)) | ((with_reducible show wpList _ _ _ (⟨some 15, _, _, _, _, _⟩ :: _) _ _); refine wpList_if (by rfl) (wp_buildCells 23 #[] rfl (z32L.map bv).toArray (by kernel_rfl) ?_)) | ((with_reducible show wpList _ _ _ (⟨some 20, _, _, _, _, _⟩ :: _) _ _); refine wpList_if (by rfl) (wp_load1 40 (.tmp 19) rfl w.heap.size 65 (by rfl) _ _ hl Tryz.underlying40 rfl ?_)))
    go_returns
    exact ⟨fin _ rfl, hb0⟩
set_option maxHeartbeats 40000000 in
set_option maxRecDepth 100000 in
theorem TreeRight_calls (lo po : Option Addr) (n ac m pc : Nat) (lvs : List Value) (T : TreeT) (w : World) (h : TreeIs w lo n ac po m pc lvs T) (hn : n ≤ 1000000) (hm : m ≤ 1000000) :
    Calls Tryz.prog 124 #[.agg #[.slice lo n ac, .slice po m pc]] w fun e w' => e = .returned (.bool (rightT T)) ∧ Below w.heap.size w w' := by
  have HT := Lib.hid h
  have hln := h.ln
  have hlm := h.lm
  clear h
  have hB0 := Below.refl w.heap.size w
  have hb0 : Below w.heap.size w (w.alloc (.cells #[.slice lo n ac, .slice po m pc] 27)) := below_alloc1 _ _
  have hA0 : Blk (w.alloc (.cells #[.slice lo n ac, .slice po m pc] 27)) w.heap.size #[.slice lo n ac, .slice po m pc] 27 := Blk.new _ _ _
  by_cases h64 : 64 < n
  · have hr : rightT T = false := rightT_big (by omega)
    rw [hr]
    go_enter Tryz.func124, Tryz.ntmps124
    go_wp2_with ((with_reducible show wpList _ _ _ (⟨some 12, _, _, _, _, _⟩ :: _) _ _); refine wpList_load1 rfl 24 (.tmp 11) rfl (w.heap.size) 0 (by rfl) _ _ (hA0.cell 0 _ rfl) Tryz.underlying24 rfl ?_)
    go_returns
    exact ⟨rfl, hb0⟩
  by_cases hmn : m ≠ n - 1
  · have hr : rightT T = false := rightT_pars (by omega)
    rw [hr]
    have hmx : ((m : Int) != max ((n : Int) - 1) 0) = true := by rw [bne_iff_ne]; omega
    go_enter Tryz.func124, Tryz.ntmps124
    go_wp2_with (first | ((with_reducible show wpList _ _ _ (⟨some 12, _, _, _, _, _⟩ :: _) _ _); refine wpList_load1 rfl 24 (.tmp 11) rfl (w.heap.size) 0 (by rfl) _ _ (hA0.cell 0 _ rfl) Tryz.underlying24 rfl ?_) | ((with_reducible show wpList _ _ _ (⟨some 18, _, _, _, _, _⟩ :: _) _ _); refine wpList_if (by rfl) (wp_load1 25 (.tmp 17) rfl (w.heap.size) 1 (by rfl) _ _ (hA0.cell 1 _ rfl) Tryz.underlying25 rfl ?_)))
    go_returns
    exact ⟨rfl, hb0⟩
  obtain ⟨R, hR⟩ : ∃ R, R = rightT T := ⟨_, rfl⟩
  have HRR := Lib.hid hR
  rw [← hR]
  clear hR
  have hmx : ((m : Int) != max ((n : Int) - 1) 0) = false := by rw [bne_eq_false_iff_eq]; omega
  have HBX : Hid (Blk ((w.alloc (.cells #[.slice lo n ac, .slice po m pc] 27)).alloc (.cells Tryz.zeroCells282 282)) w.heap.size #[.slice lo n ac, .slice po m pc] 27) := hA0.below (below_alloc1 _ _) hA0.lt
  have hsz : (w.alloc (.cells #[.slice lo n ac, .slice po m pc] 27)).heap.size = w.heap.size + 1 := by simp
  have HSX : Hid (Blk ((w.alloc (.cells #[.slice lo n ac, .slice po m pc] 27)).alloc (.cells Tryz.zeroCells282 282)) (w.heap.size + 1) (seenC T.leaves 0).toArray 282) := by show Blk _ _ _ _; rw [seenC_zero, ← Tryz.zeroSeen, ← hsz]; exact Blk.new _ _ _
  have HBE : Hid (Below w.heap.size w ((w.alloc (.cells #[.slice lo n ac, .slice po m pc] 27)).alloc (.cells Tryz.zeroCells282 282))) := hb0.trans ((below_alloc1 _ _).mono hb0.size)
  go_enter Tryz.func124, Tryz.ntmps124
  go_wp2_with (first | ((with_reducible show wpList _ _ _ (⟨some 12, _, _, _, _, _⟩ :: _) _ _); refine wpList_load1 rfl 24 (.tmp 11) rfl (w.heap.size) 0 (by rfl) _ _ (hA0.cell 0 _ rfl) Tryz.underlying24 rfl ?_) | ((with_reducible show wpList _ _ _ (⟨some 18, _, _, _, _, _⟩ :: _) _ _); refine wpList_if (by rfl) (wp_load1 25 (.tmp 17) rfl (w.heap.size) 1 (by rfl) _ _ (hA0.cell 1 _ rfl) Tryz.underlying25 rfl ?_)) | ((with_reducible show wpList _ _ _ (⟨some 26, _, _, _, _, _⟩ :: _) _ _); refine wpList_load1 rfl 24 (.tmp 25) rfl (w.heap.size) 0 (by rfl) _ _ (hA0.cell 0 _ rfl) Tryz.underlying24 rfl ?_))
  obtain ⟨sb, hsb⟩ : ∃ z, z = w.heap.size + 1 := ⟨_, rfl⟩
  have hsbl : w.heap.size ≤ sb := by omega
  rw [← hsb] at HSX ⊢
  obtain ⟨W1, hW1⟩ : ∃ z, z = (w.alloc (.cells #[.slice lo n ac, .slice po m pc] 27)).alloc (.cells Tryz.zeroCells282 282) := ⟨_, rfl⟩
  rw [← hW1] at HBX HSX HBE ⊢
  obtain ⟨bb, hbb⟩ : ∃ z, z = w.heap.size := ⟨_, rfl⟩
  have HBW : Hid (w.heap.size ≤ bb ∧ bb < sb) := by show _ ∧ _; omega
  have HSBL := Lib.hid hsbl
  rw [← hbb] at HBX ⊢
  clear hsb hW1 hbb hb0 hA0 hB0 hsbl
  have HALL0 : Hid (∀ k, k < 0 → rightLeaf T.leaves k = true) := fun k hk => by omega
  go_loopw [28] (fun j wr => ∃ i : Nat, i ≤ n ∧ j = .int .i64 i ∧ Hid (Blk wr bb #[.slice lo n ac, .slice po m pc] 27) ∧ Hid (Blk wr sb (seenC T.leaves i).toArray 282) ∧ Hid (Below w.heap.size w wr) ∧ Hid (∀ k, k < i → rightLeaf T.leaves k = true)) (fun j _ => n - (intOf j).toNat)
  case atStart => exact ⟨0, by omega, rfl, HBX, HSX, HBE, HALL0⟩
  case round =>
    obtain ⟨i, hi, rfl, HB, HS, HE, HALL⟩ := hrel
    clear HBX HSX HBE HALL0
    by_cases hlt : i < n
    · obtain ⟨g, off, l, rfl, hx, hrg⟩ := HT.out.el.at i hlt
      have hrw : wr.rangeAt g (off + i * 97) l.cells := (HT.out.el.below HE.out).at' i _ hx
      have HX := Lib.hid hx
      have heq : ∀ x, (Op.equalIn 10000 144 (.agg l.cells.toArray) (.agg zeroL.cells.toArray)).run Tryz.prog x = .ok l.isZ x := fun x => by rw [run_eq_leaf, LeafA.eqB_zero]
      have hB := HB.out
      have hS := HS.out
      have hE := HE.out
      have hsl := HSBL.out
      have hlo : w.heap.size ≤ wr.heap.size := HE.out.size
      clear hx hrg HB HS HE
      by_cases hz : l.isZ = true
      · rw [hz] at heq
        have HZ := Lib.hid hz
        go_wp2_with (first | ((with_reducible show wpList _ _ _ (⟨some 31, _, _, _, _, _⟩ :: _) _ _); refine wpList_load_mid rfl 144 (.tmp 30) rfl g (off + i * 97) (by rfl) l.cells _ hrw Tryz.underlying144 rfl (leaf_sizeL l) ?_) | ((with_reducible show wpList _ _ _ (⟨some 6, _, _, _, _, _⟩ :: _) _ _); refine wpList_allocZ rfl 144 rfl _ Tryz.zeroLeaf ?_; intro wq1 hsq2 baq3 hNq4) | ((with_reducible show wpList _ _ _ (⟨none, Op.store _ (.tmp 6) _, _, _, _, _⟩ :: _) _ _); refine wpList_storeBlk rfl 144 (.tmp 6) (.tmp 31) rfl (wr.heap.size) (l.cells.toArray) (by rfl) (by rfl) _ _ hNq4 (leaf_sizeA l) (leaf_hold l) (leaf_all l) ?_; intro wq5 hKq6 gq7; have bbq8 := below_new baq3 gq7 (Nat.le_refl _) baq3.size; have ltq9 : bb < wr.heap.size := hB.lt; have ltq10 : sb < wr.heap.size := hS.lt; have hCq11 := hB.below bbq8 hB.lt; have hCq12 := hS.below bbq8 hS.lt; have hBq13 := hE.trans (bbq8.mono (hE.size)); clear hB hS hE; clear bbq8 baq3 hNq4 gq7 hsq2) | ((with_reducible show wpList _ _ _ (⟨some 33, _, _, _, _, _⟩ :: _) _ _); refine wpList_load_mid rfl 144 (.tmp 6) rfl (wr.heap.size) 0 (by rfl) l.cells _ (blk_rangeP hKq6) Tryz.underlying144 rfl (leaf_sizeL l) ?_) | ((with_reducible show wpList _ _ _ (⟨some 34, _, _, _, _, _⟩ :: _) _ _); refine wpList_buildCells rfl 144 #[] rfl (zeroL.cells.toArray) (by kernel_rfl) ?_))
        have HS9 : Hid (Blk wq5 sb (seenC T.leaves (i + 1)).toArray 282) := by
          show Blk _ _ _ _
          rw [seenC_skip _ _ l HX.out HZ.out]
          exact hCq12
        have HB9 := Lib.hid hCq11
        have HE9 := Lib.hid hBq13
        have HA9 : Hid (∀ k, k < i + 1 → rightLeaf T.leaves k = true) := fun k hk => by
          by_cases e : k = i
          · subst e; unfold rightLeaf; rw [HX.out]; show (l.isZ || _) = true; rw [HZ.out]; rfl
          · exact HALL.out k (by omega)
        clear hCq11 hCq12 hBq13 hKq6 heq
        go_roundw
        case rel => exact ⟨i + 1, by omega, by go_num, HB9, HS9, HE9, HA9⟩
        case measure => simp [intOf]; omega
      · have hz2 : l.isZ = false := by simpa using hz
        rw [hz2] at heq
        have HZ := Lib.hid hz2
        clear hz hz2
        by_cases h1 : l.n < 1
        · have HF : Hid (R = false) := HRR.out.trans (rightT_leaf (by rw [hln]; exact hlt) (by unfold rightLeaf; rw [HX.out]; show (l.isZ || (decide (1 ≤ l.n ∧ l.n ≤ 64) && _)) = false; rw [HZ.out, decide_eq_false (by omega)]; rfl))
          go_wp2_with (first | ((with_reducible show wpList _ _ _ (⟨some 31, _, _, _, _, _⟩ :: _) _ _); refine wpList_load_mid rfl 144 (.tmp 30) rfl g (off + i * 97) (by rfl) l.cells _ hrw Tryz.underlying144 rfl (leaf_sizeL l) ?_) | ((with_reducible show wpList _ _ _ (⟨some 6, _, _, _, _, _⟩ :: _) _ _); refine wpList_allocZ rfl 144 rfl _ Tryz.zeroLeaf ?_; intro wq14 hsq15 baq16 hNq17) | ((with_reducible show wpList _ _ _ (⟨none, Op.store _ (.tmp 6) _, _, _, _, _⟩ :: _) _ _); refine wpList_storeBlk rfl 144 (.tmp 6) (.tmp 31) rfl (wr.heap.size) (l.cells.toArray) (by rfl) (by rfl) _ _ hNq17 (leaf_sizeA l) (leaf_hold l) (leaf_all l) ?_; intro wq18 hKq19 gq20; have bbq21 := below_new baq16 gq20 (Nat.le_refl _) baq16.size; have ltq22 : bb < wr.heap.size := hB.lt; have ltq23 : sb < wr.heap.size := hS.lt; have hCq24 := hB.below bbq21 hB.lt; have hCq25 := hS.below bbq21 hS.lt; have hBq26 := hE.trans (bbq21.mono (hE.size)); clear hB hS hE; clear bbq21 baq16 hNq17 gq20 hsq15) | ((with_reducible show wpList _ _ _ (⟨some 33, _, _, _, _, _⟩ :: _) _ _); refine wpList_load_mid rfl 144 (.tmp 6) rfl (wr.heap.size) 0 (by rfl) l.cells _ (blk_rangeP hKq19) Tryz.underlying144 rfl (leaf_sizeL l) ?_) | ((with_reducible show wpList _ _ _ (⟨some 34, _, _, _, _, _⟩ :: _) _ _); refine wpList_buildCells rfl 144 #[] rfl (zeroL.cells.toArray) (by kernel_rfl) ?_) | ((with_reducible show wpList _ _ _ (⟨some 38, _, _, _, _, _⟩ :: _) _ _); refine wpList_load1 rfl 3 (.tmp 37) rfl (wr.heap.size) 0 (by rfl) _ _ (leaf_nR (blk_rangeP hKq19)) Tryz.underlying3 rfl ?_))
          go_returns
          exact ⟨by rw [HF.out]; rfl, hBq26⟩
        by_cases h2 : 64 < l.n
        · have HF : Hid (R = false) := HRR.out.trans (rightT_leaf (by rw [hln]; exact hlt) (by unfold rightLeaf; rw [HX.out]; show (l.isZ || (decide (1 ≤ l.n ∧ l.n ≤ 64) && _)) = false; rw [HZ.out, decide_eq_false (by omega)]; rfl))
          have h1' : ¬ l.n < 1 := h1
          go_wp2_with (first | ((with_reducible show wpList _ _ _ (⟨some 31, _, _, _, _, _⟩ :: _) _ _); refine wpList_load_mid rfl 144 (.tmp 30) rfl g (off + i * 97) (by rfl) l.cells _ hrw Tryz.underlying144 rfl (leaf_sizeL l) ?_) | ((with_reducible show wpList _ _ _ (⟨some 6, _, _, _, _, _⟩ :: _) _ _); refine wpList_allocZ rfl 144 rfl _ Tryz.zeroLeaf ?_; intro wq27 hsq28 baq29 hNq30) | ((with_reducible show wpList _ _ _ (⟨none, Op.store _ (.tmp 6) _, _, _, _, _⟩ :: _) _ _); refine wpList_storeBlk rfl 144 (.tmp 6) (.tmp 31) rfl (wr.heap.size) (l.cells.toArray) (by rfl) (by rfl) _ _ hNq30 (leaf_sizeA l) (leaf_hold l) (leaf_all l) ?_; intro wq31 hKq32 gq33; have bbq34 := below_new baq29 gq33 (Nat.le_refl _) baq29.size; have ltq35 : bb < wr.heap.size := hB.lt; have ltq36 : sb < wr.heap.size := hS.lt; have hCq37 := hB.below bbq34 hB.lt; have hCq38 := hS.below bbq34 hS.lt; have hBq39 := hE.trans (bbq34.mono (hE.size)); clear hB hS hE; clear bbq34 baq29 hNq30 gq33 hsq28) | ((with_reducible show wpList _ _ _ (⟨some 33, _, _, _, _, _⟩ :: _) _ _); refine wpList_load_mid rfl 144 (.tmp 6) rfl (wr.heap.size) 0 (by rfl) l.cells _ (blk_rangeP hKq32) Tryz.underlying144 rfl (leaf_sizeL l) ?_) | ((with_reducible show wpList _ _ _ (⟨some 34, _, _, _, _, _⟩ :: _) _ _); refine wpList_buildCells rfl 144 #[] rfl (zeroL.cells.toArray) (by kernel_rfl) ?_) | ((with_reducible show wpList _ _ _ (⟨some 38, _, _, _, _, _⟩ :: _) _ _); refine wpList_load1 rfl 3 (.tmp 37) rfl (wr.heap.size) 0 (by rfl) _ _ (leaf_nR (blk_rangeP hKq32)) Tryz.underlying3 rfl ?_) | ((with_reducible show wpList _ _ _ (⟨some 42, _, _, _, _, _⟩ :: _) _ _); refine wpList_if (by rfl) (wp_load1 3 (.tmp 41) rfl (wr.heap.size) 0 (by rfl) _ _ (leaf_nR (blk_rangeP hKq32)) Tryz.underlying3 rfl ?_)))
          go_returns
          exact ⟨by rw [HF.out]; rfl, hBq39⟩
        obtain ⟨k, hk⟩ : ∃ k : Nat, l.n = k := ⟨l.n.toNat, by omega⟩
        have hk1 : 1 ≤ k := by omega
        have hk6 : k ≤ 64 := by omega
        have HK := Lib.hid hk
        have hd1 : ¬ (k : Int) < 1 := by omega
        have hd6 : ¬ (64 : Int) < k := by omega
        have hsz5 := seenC_len T.leaves i
        have hsg := seen_get T.leaves i k hk6
        have hrs : rightLeaf T.leaves i = !seenB T.leaves i k := right_seen T.leaves i k l HX.out HZ.out hk hk1 hk6
        have HRS := Lib.hid hrs
        clear h1 h2 hk hrs
        obtain ⟨D, hD⟩ : ∃ D, D = seenB T.leaves i k := ⟨_, rfl⟩
        rw [← hD] at hsg
        have HD := Lib.hid hD
        have HSG := Lib.hid hsg
        clear hD hsg hsz5
        rcases D with _ | _
        case false =>
          go_wp2_with (first | ((with_reducible show wpList _ _ _ (⟨some 31, _, _, _, _, _⟩ :: _) _ _); refine wpList_load_mid rfl 144 (.tmp 30) rfl g (off + i * 97) (by rfl) l.cells _ hrw Tryz.underlying144 rfl (leaf_sizeL l) ?_) | ((with_reducible show wpList _ _ _ (⟨some 6, _, _, _, _, _⟩ :: _) _ _); refine wpList_allocZ rfl 144 rfl _ Tryz.zeroLeaf ?_; intro wq40 hsq41 baq42 hNq43) | ((with_reducible show wpList _ _ _ (⟨none, Op.store _ (.tmp 6) _, _, _, _, _⟩ :: _) _ _); refine wpList_storeBlk rfl 144 (.tmp 6) (.tmp 31) rfl (wr.heap.size) (l.cells.toArray) (by rfl) (by rfl) _ _ hNq43 (leaf_sizeA l) (leaf_hold l) (leaf_all l) ?_; intro wq44 hKq45 gq46; have bbq47 := below_new baq42 gq46 (Nat.le_refl _) baq42.size; have ltq48 : bb < wr.heap.size := hB.lt; have ltq49 : sb < wr.heap.size := hS.lt; have hCq50 := hB.below bbq47 hB.lt; have hCq51 := hS.below bbq47 hS.lt; have hBq52 := hE.trans (bbq47.mono (hE.size)); clear hB hS hE; clear bbq47 baq42 hNq43 gq46 hsq41) | ((with_reducible show wpList _ _ _ (⟨some 33, _, _, _, _, _⟩ :: _) _ _); refine wpList_load_mid rfl 144 (.tmp 6) rfl (wr.heap.size) 0 (by rfl) l.cells _ (blk_rangeP hKq45) Tryz.underlying144 rfl (leaf_sizeL l) ?_) | ((with_reducible show wpList _ _ _ (⟨some 34, _, _, _, _, _⟩ :: _) _ _); refine wpList_buildCells rfl 144 #[] rfl (zeroL.cells.toArray) (by kernel_rfl) ?_) | ((with_reducible show wpList _ _ _ (⟨some 38, _, _, _, _, _⟩ :: _) _ _); refine wpList_load1 rfl 3 (.tmp 37) rfl (wr.heap.size) 0 (by rfl) _ _ ((by have hc := leaf_nR (blk_rangeP hKq45); rw [HK.out] at hc; exact hc)) Tryz.underlying3 rfl ?_) | ((with_reducible show wpList _ _ _ (⟨some 42, _, _, _, _, _⟩ :: _) _ _); refine wpList_if (by rfl) (wp_load1 3 (.tmp 41) rfl (wr.heap.size) 0 (by rfl) _ _ ((by have hc := leaf_nR (blk_rangeP hKq45); rw [HK.out] at hc; exact hc)) Tryz.underlying3 rfl ?_)) | ((with_reducible show wpList _ _ _ (⟨some 47, _, _, _, _, _⟩ :: _) _ _); refine wpList_if (by rfl) (wp_load1 3 (.tmp 46) rfl (wr.heap.size) 0 (by rfl) _ _ ((by have hc := leaf_nR (blk_rangeP hKq45); rw [HK.out] at hc; exact hc)) Tryz.underlying3 rfl ?_)) | ((with_reducible show wpList _ _ _ (⟨some 49, _, _, _, _, _⟩ :: _) _ _); refine wpList_if (by rfl) (wp_load1 4 (.tmp 48) rfl (sb) k (by rfl) _ _ (hCq51.cell k _ (by rw [List.getElem?_toArray]; exact HSG.out)) Tryz.underlying4 rfl ?_)) | ((with_reducible show wpList _ _ _ (⟨some 52, _, _, _, _, _⟩ :: _) _ _); refine wpList_load1 rfl 3 (.tmp 51) rfl (wr.heap.size) 0 (by rfl) _ _ ((by have hc := leaf_nR (blk_rangeP hKq45); rw [HK.out] at hc; exact hc)) Tryz.underlying3 rfl ?_) | ((with_reducible show wpList _ _ _ (⟨none, Op.store _ (.tmp 53) _, _, _, _, _⟩ :: _) _ _); refine wpList_store1 rfl 4 (.tmp 53) (.const (.bool true)) rfl sb k (.bool true) (by rfl) (by rfl) _ _ hCq51 (by simp [seenC_len]; omega) Tryz.sizeBool rfl rfl ?_; intro wq53 hSq54 gq55; have hB8 := hCq50.grown gq55 (fun e => by have := HBW.out.2; have e2 := Option.some.inj e; omega); have hE8 := hBq52.grown gq55 hBq52.size (fun q e => by cases e; omega); clear hCq50 hBq52 gq55))
          have HS9 : Hid (Blk wq53 sb (seenC T.leaves (i + 1)).toArray 282) := by
            show Blk _ _ _ _
            rw [seenC_set _ _ k l HX.out HZ.out HK.out hk6, ← List.setIfInBounds_toArray]
            exact hSq54
          have HB9 := Lib.hid hB8
          have HE9 := Lib.hid hE8
          have HA9 : Hid (∀ k, k < i + 1 → rightLeaf T.leaves k = true) := fun k hk => by
            by_cases e : k = i
            · subst e; rw [HRS.out, ← HD.out]; rfl
            · exact HALL.out k (by omega)
          clear hB8 hSq54 hE8 hKq45 heq
          go_roundw
          case rel => exact ⟨i + 1, by omega, by go_num, HB9, HS9, HE9, HA9⟩
          case measure => simp [intOf]; omega
        case true =>
          have HF : Hid (R = false) := HRR.out.trans (rightT_leaf (by rw [hln]; exact hlt) (by rw [HRS.out, ← HD.out]; rfl))
          go_wp2_with (first | ((with_reducible show wpList _ _ _ (⟨some 31, _, _, _, _, _⟩ :: _) _ _); refine wpList_load_mid rfl 144 (.tmp 30) rfl g (off + i * 97) (by rfl) l.cells _ hrw Tryz.underlying144 rfl (leaf_sizeL l) ?_) | ((with_reducible show wpList _ _ _ (⟨some 6, _, _, _, _, _⟩ :: _) _ _); refine wpList_allocZ rfl 144 rfl _ Tryz.zeroLeaf ?_; intro wq56 hsq57 baq58 hNq59) | ((with_reducible show wpList _ _ _ (⟨none, Op.store _ (.tmp 6) _, _, _, _, _⟩ :: _) _ _); refine wpList_storeBlk rfl 144 (.tmp 6) (.tmp 31) rfl (wr.heap.size) (l.cells.toArray) (by rfl) (by rfl) _ _ hNq59 (leaf_sizeA l) (leaf_hold l) (leaf_all l) ?_; intro wq60 hKq61 gq62; have bbq63 := below_new baq58 gq62 (Nat.le_refl _) baq58.size; have ltq64 : bb < wr.heap.size := hB.lt; have ltq65 : sb < wr.heap.size := hS.lt; have hCq66 := hB.below bbq63 hB.lt; have hCq67 := hS.below bbq63 hS.lt; have hBq68 := hE.trans (bbq63.mono (hE.size)); clear hB hS hE; clear bbq63 baq58 hNq59 gq62 hsq57) | ((with_reducible show wpList _ _ _ (⟨some 33, _, _, _, _, _⟩ :: _) _ _); refine wpList_load_mid rfl 144 (.tmp 6) rfl (wr.heap.size) 0 (by rfl) l.cells _ (blk_rangeP hKq61) Tryz.underlying144 rfl (leaf_sizeL l) ?_) | ((with_reducible show wpList _ _ _ (⟨some 34, _, _, _, _, _⟩ :: _) _ _); refine wpList_buildCells rfl 144 #[] rfl (zeroL.cells.toArray) (by kernel_rfl) ?_) | ((with_reducible show wpList _ _ _ (⟨some 38, _, _, _, _, _⟩ :: _) _ _); refine wpList_load1 rfl 3 (.tmp 37) rfl (wr.heap.size) 0 (by rfl) _ _ ((by have hc := leaf_nR (blk_rangeP hKq61); rw [HK.out] at hc; exact hc)) Tryz.underlying3 rfl ?_) | ((with_reducible show wpList _ _ _ (⟨some 42, _, _, _, _, _⟩ :: _) _ _); refine wpList_if (by rfl) (wp_load1 3 (.tmp 41) rfl (wr.heap.size) 0 (by rfl) _ _ ((by have hc := leaf_nR (blk_rangeP hKq61); rw [HK.out] at hc; exact hc)) Tryz.underlying3 rfl ?_)) | ((with_reducible show wpList _ _ _ (⟨some 47, _, _, _, _, _⟩ :: _) _ _); refine wpList_if (by rfl) (wp_load1 3 (.tmp 46) rfl (wr.heap.size) 0 (by rfl) _ _ ((by have hc := leaf_nR (blk_rangeP hKq61); rw [HK.out] at hc; exact hc)) Tryz.underlying3 rfl ?_)) | ((with_reducible show wpList _ _ _ (⟨some 49, _, _, _, _, _⟩ :: _) _ _); refine wpList_if (by rfl) (wp_load1 4 (.tmp 48) rfl (sb) k (by rfl) _ _ (hCq67.cell k _ (by rw [List.getElem?_toArray]; exact HSG.out)) Tryz.underlying4 rfl ?_)))
          go_returns
          exact ⟨by rw [HF.out]; rfl, hBq68⟩
    · obtain rfl : i = n := by omega
      have HALL1 : Hid (∀ k, k < T.leaves.length → rightLeaf T.leaves k = true) := fun k hk => HALL.out k (by rw [← hln]; exact hk)
      have hB := HB.out
      have hE := HE.out
      clear HS HB HE HALL HSBL HBW hlt hi
      have HLN := Lib.hid hln
      have HLM := Lib.hid hlm
      clear hln hlm
      go_wp2_with ((with_reducible show wpList _ _ _ (⟨some 56, _, _, _, _, _⟩ :: _) _ _); refine wpList_load1 rfl 25 (.tmp 55) rfl (bb) 1 (by rfl) _ _ (hB.cell 1 _ rfl) Tryz.underlying25 rfl ?_)
      have HB2 := Lib.hid hB
      have HE2 := Lib.hid hE
      have HP0 : Hid (∀ k q, k < 0 → T.pars[k]? = some q → rightPar T.leaves k q = true) := fun k q hk => by omega
      clear hB hE
      obtain ⟨n, rfl⟩ : ∃ n, n = i := ⟨_, rfl⟩
      go_loopw [58] (fun j wr2 => ∃ i : Nat, i ≤ m ∧ j = .int .i64 i ∧ Hid (Blk wr2 bb #[.slice lo n ac, .slice po m pc] 27) ∧ Hid (Below w.heap.size w wr2) ∧ Hid (∀ k q, k < i → T.pars[k]? = some q → rightPar T.leaves k q = true)) (fun j _ => m - (intOf j).toNat)
      case atStart => exact ⟨0, by omega, rfl, HB2, HE2, HP0⟩
      case round =>
        clear HB2 HE2 HP0
        obtain ⟨i, hi, rfl, HB, HE, HALL⟩ := hrel
        obtain ⟨wr2, rfl⟩ : ∃ z, z = wr := ⟨_, rfl⟩
        by_cases hlt : i < m
        · obtain ⟨g, off, qu, rfl, hx, hrg⟩ := HT.out.ep.at i hlt
          obtain ⟨q, u⟩ := qu
          have hrw : wr2.rangeAt g (off + i * 66) (q.cells u) := (HT.out.ep.below HE.out).at' i _ hx
          obtain ⟨hq, hu⟩ := List.getElem?_zip_eq_some.1 hx
          obtain ⟨qo, qc, rfl, hqc, hqe, hqw, hqm⟩ := HT.out.lo i q u hq hu
          obtain ⟨ql, hql⟩ : ∃ ql, ql = q.loose.length := ⟨_, rfl⟩
          rw [← hql] at hqc hqe hqm hrw
          have HQ := Lib.hid hq
          have HQE := Lib.hid hqe
          have HQW := Lib.hid hqw
          have HQL := Lib.hid hql
          have hqm2 : ql ≤ 9223372036854775807 := by unfold maxLen at hqm; omega
          have hsz2 : w.heap.size ≤ wr2.heap.size := HE.out.size
          have cZ : ∀ y, Calls Tryz.prog 180 #[.agg (q.cells (.slice qo ql qc)).toArray] y fun e w' => e = .returned (.bool (!q.s && q.isZ)) ∧ Below y.heap.size y w' := fun y => Zero_calls q qo ql qc hql y
          have hB := HB.out
          have hE := HE.out
          clear hx hrg HB HE hq hu hqe hqw hql
          have hor : q.s = true ∨ (q.s = false ∧ q.isZ = true) ∨ (q.s = false ∧ q.isZ = false) := by cases q.s <;> cases q.isZ <;> simp
          rcases hor with hs | ⟨hs, hz⟩ | ⟨hs, hz⟩
          · have HS0 := Lib.hid hs
            go_wp2_with (first | ((with_reducible show wpList _ _ _ (⟨some 62, _, _, _, _, _⟩ :: _) _ _); refine wpList_load_mid rfl 126 (.tmp 61) rfl g (off + i * 66) (by rfl) (q.cells (.slice qo ql qc)) _ hrw Tryz.underlying126 rfl (par_sizeL q _) ?_) | ((with_reducible show wpList _ _ _ (⟨some 8, _, _, _, _, _⟩ :: _) _ _); refine wpList_allocZ rfl 126 rfl _ Tryz.zeroPar ?_; intro wq69 hsq70 baq71 hNq72) | ((with_reducible show wpList _ _ _ (⟨none, Op.store _ (.tmp 8) _, _, _, _, _⟩ :: _) _ _); refine wpList_storeBlk rfl 126 (.tmp 8) (.tmp 62) rfl (wr2.heap.size) ((q.cells (.slice qo ql qc)).toArray) (by rfl) (by rfl) _ _ hNq72 (par_sizeA q _) (par_hold q _) (par_all q _ _ _) ?_; intro wq73 hKq74 gq75; have bbq76 := below_new baq71 gq75 (Nat.le_refl _) baq71.size; have ltq77 : bb < wr2.heap.size := hB.lt; have hCq78 := hB.below bbq76 hB.lt; have hBq79 := hE.trans (bbq76.mono (hE.size)); clear hB hE; clear bbq76 baq71 hNq72 gq75 hsq70) | ((with_reducible show wpList _ _ _ (⟨some 64, _, _, _, _, _⟩ :: _) _ _); refine wpList_load1 rfl 4 (.tmp 63) rfl (wr2.heap.size) 0 (by rfl) _ _ ((by have hc := par_s (blk_rangeP hKq74); rw [hs] at hc; exact hc)) Tryz.underlying4 rfl ?_) | ((with_reducible show wpList _ _ _ (⟨some 72, _, _, _, _, _⟩ :: _) _ _); refine wpList_load1 rfl 40 (.tmp 71) rfl (wr2.heap.size) 65 (by rfl) _ _ ((by have h65 := par_l (blk_rangeP hKq74); rwa [Nat.zero_add] at h65)) Tryz.underlying40 rfl ?_))
            obtain ⟨pb, hpb⟩ : ∃ z, z = wr2.heap.size := ⟨_, rfl⟩
            have hPP := hKq74
            rw [← hpb] at hPP ⊢
            have hpbl : w.heap.size ≤ pb := by rw [hpb]; exact hsz2
            have HPBL := Lib.hid hpbl
            have HPP := Lib.hid hPP
            have HBB := Lib.hid hCq78
            have HEE := Lib.hid hBq79
            have HSZ : Hid ((q.s || q.isZ) = true) := by show _ = _; rw [HS0.out]; rfl
            have HL0 : Hid (∀ k', k' < 0 → rightLoose T.leaves i q.loose k' = true) := fun k' hk => by omega
            clear hPP hKq74 hCq78 hBq79 hpb hpbl hs cZ hrw hsz2
            go_loopw [74] (fun j wr3 => ∃ k : Nat, k ≤ ql ∧ j = .int .i64 k ∧ Hid (Blk wr3 bb #[.slice lo n ac, .slice (some ⟨g, off, none⟩) m pc] 27) ∧ Hid (Blk wr3 pb (q.cells (.slice qo ql qc)).toArray 126) ∧ Hid (Below w.heap.size w wr3) ∧ Hid (∀ k', k' < k → rightLoose T.leaves i q.loose k' = true)) (fun j _ => ql - (intOf j).toNat)
            case atStart => exact ⟨0, by omega, rfl, HBB, HPP, HEE, HL0⟩
            case round =>
              clear HBB HPP HEE HL0
              obtain ⟨k, hk, rfl, HBB, HPP, HEE, HAL⟩ := hrel
              obtain ⟨wr3, rfl⟩ : ∃ z, z = wr := ⟨_, rfl⟩
              by_cases hkl : k < ql
              · obtain ⟨qg, qoff, x, rfl, hx, hrx⟩ := HQE.out.at k hkl
                obtain ⟨hx1, hx2⟩ := HQW.out x (List.mem_of_getElem? hx)
                have hcx : wr3.cell? ⟨qg, qoff + k, none⟩ = some (.int .i64 x) := by
                  have := (HQE.out.below HEE.out).at' k _ hx 0 _ rfl
                  rwa [Nat.mul_one] at this
                have HX := Lib.hid hx
                have hB := HBB.out
                have hP := HPP.out
                have hE := HEE.out
                have HRL : Hid (rightLoose T.leaves i q.loose k = (holdsI n (2 * (i : Int) + 1) x && (decide (nameAt T.leaves x ≠ 0) && (k == 0 || decide (q.loose.getD (k - 1) 0 < x))))) := by
                  show _ = _
                  unfold rightLoose
                  rw [HX.out, HLN.out]
                clear hx hrx HBB HPP HEE
                by_cases hh : holdsI n (2 * (i : Int) + 1) x = true
                case neg =>
                  have hh : holdsI n (2 * (i : Int) + 1) x = false := by simpa using hh
                  have HF : Hid (R = false) := HRR.out.trans (rightT_par HQ.out (rightPar_loose (by rw [← HQL.out]; exact hkl) (by rw [HRL.out, hh]; simp)))
                  go_wp2_with ((with_reducible show wpList _ _ _ (⟨some 78, _, _, _, _, _⟩ :: _) _ _); refine wpList_load1 rfl 3 (.tmp 77) rfl (qg) (qoff + k) (by rfl) _ _ (hcx) Tryz.underlying3 rfl ?_)
                  refine (Holds_calls _ _ _ _).mono ?_
                  rintro e ww ⟨rfl, hww⟩
                  subst ww
                  rw [hh]
                  go_wp2_with fail
                  go_returns
                  exact ⟨by rw [HF.out]; rfl, hE⟩
                case pos =>
                  obtain ⟨hx0, hxn⟩ := holds_in hh
                  obtain ⟨y, rfl⟩ : ∃ y : Nat, x = y := ⟨x.toNat, by omega⟩
                  have hyn : y < n := by omega
                  obtain ⟨lg, loff, l2, rfl, hl2, hrl⟩ := HT.out.el.at y hyn
                  have hcl : wr3.cell? ⟨lg, loff + y * 97, none⟩ = some (.int .i64 l2.n) := leaf_nR ((HT.out.el.below hE).at' y _ hl2)
                  have hna : nameAt T.leaves (y : Int) = l2.n := by unfold nameAt; rw [Int.toNat_natCast, hl2]; rfl
                  have HNA := Lib.hid hna
                  have HH := Lib.hid hh
                  clear hl2 hrl hna
                  by_cases h0 : l2.n = 0
                  · have hn0 : (l2.n == 0) = true := by simp [h0]
                    have HF : Hid (R = false) := HRR.out.trans (rightT_par HQ.out (rightPar_loose (by rw [← HQL.out]; exact hkl) (by rw [HRL.out, HNA.out, h0]; simp)))
                    go_wp2_with ((with_reducible show wpList _ _ _ (⟨some 78, _, _, _, _, _⟩ :: _) _ _); refine wpList_load1 rfl 3 (.tmp 77) rfl (qg) (qoff + k) (by rfl) _ _ (hcx) Tryz.underlying3 rfl ?_)
                    refine (Holds_calls _ _ _ _).mono ?_
                    rintro e ww ⟨rfl, hww⟩
                    subst ww
                    rw [hh]
                    go_wp2_with (first | ((with_reducible show wpList _ _ _ (⟨some 88, _, _, _, _, _⟩ :: _) _ _); refine wpList_if (by rfl) (wp_load1 24 (.tmp 87) rfl (bb) 0 (by rfl) _ _ (hB.cell 0 _ rfl) Tryz.underlying24 rfl ?_)) | ((with_reducible show wpList _ _ _ (⟨some 92, _, _, _, _, _⟩ :: _) _ _); refine wpList_if (by rfl) (wp_load1 3 (.tmp 91) rfl (lg) (loff + y * 97) (by rfl) _ _ (hcl) Tryz.underlying3 rfl ?_)))
                    go_returns
                    exact ⟨by rw [HF.out]; rfl, hE⟩
                  have hn0 : (l2.n == 0) = false := by simp [h0]
                  by_cases hk0 : k = 0
                  · have hg0 : ¬ (0 : Int) < k := by omega
                    have HK0 := Lib.hid hk0
                    clear hk0
                    go_wp2_with ((with_reducible show wpList _ _ _ (⟨some 78, _, _, _, _, _⟩ :: _) _ _); refine wpList_load1 rfl 3 (.tmp 77) rfl (qg) (qoff + k) (by rfl) _ _ (hcx) Tryz.underlying3 rfl ?_)
                    refine (Holds_calls _ _ _ _).mono ?_
                    rintro e ww ⟨rfl, hww⟩
                    subst ww
                    rw [hh]
                    go_wp2_with (first | ((with_reducible show wpList _ _ _ (⟨some 88, _, _, _, _, _⟩ :: _) _ _); refine wpList_if (by rfl) (wp_load1 24 (.tmp 87) rfl (bb) 0 (by rfl) _ _ (hB.cell 0 _ rfl) Tryz.underlying24 rfl ?_)) | ((with_reducible show wpList _ _ _ (⟨some 92, _, _, _, _, _⟩ :: _) _ _); refine wpList_if (by rfl) (wp_load1 3 (.tmp 91) rfl (lg) (loff + y * 97) (by rfl) _ _ (hcl) Tryz.underlying3 rfl ?_)))
                    have HAL2 : Hid (∀ k', k' < (k + 1) → rightLoose T.leaves i q.loose k' = true) := fun k' hk' => by
                      by_cases e : k' = k
                      · subst e; rw [HRL.out, HH.out, HNA.out]; simp [h0, HK0.out]
                      · exact HAL.out k' (by omega)
                    have HB3 := Lib.hid hB
                    have HP3 := Lib.hid hP
                    have HE3 := Lib.hid hE
                    clear hB hP hE hcx hcl
                    go_roundw
                    case rel => exact ⟨(k + 1), by omega, by go_num, HB3, HP3, HE3, HAL2⟩
                    case measure => simp [intOf]; omega
                  obtain ⟨k0, hk1⟩ : ∃ k0, k = k0 + 1 := ⟨k - 1, by omega⟩
                  have hK1 : (k : Int) - 1 = (k0 : Int) := by omega
                  obtain ⟨z, hz⟩ : ∃ z, q.loose[k0]? = some z := ⟨_, List.getElem?_eq_getElem (by rw [← HQL.out]; omega)⟩
                  obtain ⟨hz1, hz2⟩ := HQW.out z (List.mem_of_getElem? hz)
                  have hcz : wr3.cell? ⟨qg, qoff + k0, none⟩ = some (.int .i64 z) := by
                    have := (HQE.out.below hE).at' k0 _ hz 0 _ rfl
                    rwa [Nat.mul_one] at this
                  have HGD : Hid (q.loose.getD (k - 1) 0 = z) := by show _ = _; rw [hk1, Nat.add_sub_cancel, List.getD_eq_getElem?_getD, hz]; rfl
                  have HK1 := Lib.hid hk1
                  have hk0n : k0 < ql := by omega
                  clear hz hk1
                  by_cases hlt3 : z < y
                  case neg =>
                    have HF : Hid (R = false) := HRR.out.trans (rightT_par HQ.out (rightPar_loose (by rw [← HQL.out]; exact hkl) (by rw [HRL.out, HGD.out, decide_eq_false hlt3, show (k == 0) = false by simp [hk0]]; simp)))
                    go_wp2_with ((with_reducible show wpList _ _ _ (⟨some 78, _, _, _, _, _⟩ :: _) _ _); refine wpList_load1 rfl 3 (.tmp 77) rfl (qg) (qoff + k) (by rfl) _ _ (hcx) Tryz.underlying3 rfl ?_)
                    refine (Holds_calls _ _ _ _).mono ?_
                    rintro e ww ⟨rfl, hww⟩
                    subst ww
                    rw [hh]
                    go_wp2_with (first | ((with_reducible show wpList _ _ _ (⟨some 88, _, _, _, _, _⟩ :: _) _ _); refine wpList_if (by rfl) (wp_load1 24 (.tmp 87) rfl (bb) 0 (by rfl) _ _ (hB.cell 0 _ rfl) Tryz.underlying24 rfl ?_)) | ((with_reducible show wpList _ _ _ (⟨some 92, _, _, _, _, _⟩ :: _) _ _); refine wpList_if (by rfl) (wp_load1 3 (.tmp 91) rfl (lg) (loff + y * 97) (by rfl) _ _ (hcl) Tryz.underlying3 rfl ?_)) | ((with_reducible show wpList _ _ _ (⟨some 101, _, _, _, _, _⟩ :: _) _ _); refine wpList_if (by rfl) (wp_load1 40 (.tmp 100) rfl (pb) 65 (by rfl) _ _ ((by have h65 := par_l (blk_rangeP hP); rwa [Nat.zero_add] at h65)) Tryz.underlying40 rfl ?_)) | ((with_reducible show wpList _ _ _ (⟨some 105, _, _, _, _, _⟩ :: _) _ _); refine wpList_if (by rfl) (wp_load1 3 (.tmp 104) rfl (qg) (qoff + k0) (by rfl) _ _ (hcz) Tryz.underlying3 rfl ?_)))
                    go_returns
                    exact ⟨by rw [HF.out]; rfl, hE⟩
                  case pos =>
                    go_wp2_with ((with_reducible show wpList _ _ _ (⟨some 78, _, _, _, _, _⟩ :: _) _ _); refine wpList_load1 rfl 3 (.tmp 77) rfl (qg) (qoff + k) (by rfl) _ _ (hcx) Tryz.underlying3 rfl ?_)
                    refine (Holds_calls _ _ _ _).mono ?_
                    rintro e ww ⟨rfl, hww⟩
                    subst ww
                    rw [hh]
                    go_wp2_with (first | ((with_reducible show wpList _ _ _ (⟨some 88, _, _, _, _, _⟩ :: _) _ _); refine wpList_if (by rfl) (wp_load1 24 (.tmp 87) rfl (bb) 0 (by rfl) _ _ (hB.cell 0 _ rfl) Tryz.underlying24 rfl ?_)) | ((with_reducible show wpList _ _ _ (⟨some 92, _, _, _, _, _⟩ :: _) _ _); refine wpList_if (by rfl) (wp_load1 3 (.tmp 91) rfl (lg) (loff + y * 97) (by rfl) _ _ (hcl) Tryz.underlying3 rfl ?_)) | ((with_reducible show wpList _ _ _ (⟨some 101, _, _, _, _, _⟩ :: _) _ _); refine wpList_if (by rfl) (wp_load1 40 (.tmp 100) rfl (pb) 65 (by rfl) _ _ ((by have h65 := par_l (blk_rangeP hP); rwa [Nat.zero_add] at h65)) Tryz.underlying40 rfl ?_)) | ((with_reducible show wpList _ _ _ (⟨some 105, _, _, _, _, _⟩ :: _) _ _); refine wpList_if (by rfl) (wp_load1 3 (.tmp 104) rfl (qg) (qoff + k0) (by rfl) _ _ (hcz) Tryz.underlying3 rfl ?_)))
                    clear hcz
                    have HAL2 : Hid (∀ k', k' < (k + 1) → rightLoose T.leaves i q.loose k' = true) := fun k' hk' => by
                      by_cases e : k' = k
                      · subst e; rw [HRL.out, HH.out, HNA.out]; rw [HGD.out, decide_eq_true hlt3]; simp [h0]
                      · exact HAL.out k' (by omega)
                    have HB3 := Lib.hid hB
                    have HP3 := Lib.hid hP
                    have HE3 := Lib.hid hE
                    clear hB hP hE hcx hcl
                    go_roundw
                    case rel => exact ⟨(k + 1), by omega, by go_num, HB3, HP3, HE3, HAL2⟩
                    case measure => simp [intOf]; omega
              · obtain rfl : k = ql := by omega
                have HALP : Hid (∀ k' q', k' < i + 1 → T.pars[k']? = some q' → rightPar T.leaves k' q' = true) := fun k' q' hk' hq' => by
                  by_cases e : k' = i
                  · subst e
                    rw [HQ.out] at hq'
                    obtain rfl := Option.some.inj hq'
                    unfold rightPar
                    rw [HSZ.out, Bool.true_and, List.all_eq_true]
                    exact fun z hz => HAL.out z (by rw [HQL.out]; exact List.mem_range.1 hz)
                  · exact HALL.out k' q' (by omega) hq'
                clear HAL HALL HPP HSZ
                go_wp2_with fail
                go_roundw
                case rel => exact ⟨i + 1, by omega, by go_num, HBB, HEE, HALP⟩
                case measure => simp [intOf]; omega
          · have HZ0 := Lib.hid hz
            go_wp2_with (first | ((with_reducible show wpList _ _ _ (⟨some 62, _, _, _, _, _⟩ :: _) _ _); refine wpList_load_mid rfl 126 (.tmp 61) rfl g (off + i * 66) (by rfl) (q.cells (.slice qo ql qc)) _ hrw Tryz.underlying126 rfl (par_sizeL q _) ?_) | ((with_reducible show wpList _ _ _ (⟨some 8, _, _, _, _, _⟩ :: _) _ _); refine wpList_allocZ rfl 126 rfl _ Tryz.zeroPar ?_; intro wq80 hsq81 baq82 hNq83) | ((with_reducible show wpList _ _ _ (⟨none, Op.store _ (.tmp 8) _, _, _, _, _⟩ :: _) _ _); refine wpList_storeBlk rfl 126 (.tmp 8) (.tmp 62) rfl (wr2.heap.size) ((q.cells (.slice qo ql qc)).toArray) (by rfl) (by rfl) _ _ hNq83 (par_sizeA q _) (par_hold q _) (par_all q _ _ _) ?_; intro wq84 hKq85 gq86; have bbq87 := below_new baq82 gq86 (Nat.le_refl _) baq82.size; have ltq88 : bb < wr2.heap.size := hB.lt; have hCq89 := hB.below bbq87 hB.lt; have hBq90 := hE.trans (bbq87.mono (hE.size)); clear hB hE; clear bbq87 baq82 hNq83 gq86 hsq81) | ((with_reducible show wpList _ _ _ (⟨some 64, _, _, _, _, _⟩ :: _) _ _); refine wpList_load1 rfl 4 (.tmp 63) rfl (wr2.heap.size) 0 (by rfl) _ _ ((by have hc := par_s (blk_rangeP hKq85); rw [hs] at hc; exact hc)) Tryz.underlying4 rfl ?_) | ((with_reducible show wpList _ _ _ (⟨some 67, _, _, _, _, _⟩ :: _) _ _); refine wpList_if (by rfl) (wp_load_mid 126 (.tmp 8) rfl (wr2.heap.size) 0 (by rfl) (q.cells (.slice qo ql qc)) _ (blk_rangeP hKq85) Tryz.underlying126 rfl (par_sizeL q _) ?_)))
            have ltq93 : bb < wq84.heap.size := hCq89.lt
            have ltq94 : wr2.heap.size < wq84.heap.size := hKq85.lt
            refine (cZ _).mono ?_
            rintro e wq91 ⟨rfl, bq92⟩
            have hCq95 := hCq89.below bq92 hCq89.lt
            have hCq96 := hKq85.below bq92 hKq85.lt
            have hBq97 := hBq90.trans (bq92.mono (hBq90.size))
            clear hCq89 hKq85 hBq90
            clear bq92
            rw [hs, hz]
            go_wp2_with ((with_reducible show wpList _ _ _ (⟨some 72, _, _, _, _, _⟩ :: _) _ _); refine wpList_load1 rfl 40 (.tmp 71) rfl (wr2.heap.size) 65 (by rfl) _ _ ((by have h65 := par_l (blk_rangeP hCq96); rwa [Nat.zero_add] at h65)) Tryz.underlying40 rfl ?_)
            obtain ⟨pb, hpb⟩ : ∃ z, z = wr2.heap.size := ⟨_, rfl⟩
            have hPP := hCq96
            rw [← hpb] at hPP ⊢
            have hpbl : w.heap.size ≤ pb := by rw [hpb]; exact hsz2
            have HPBL := Lib.hid hpbl
            have HPP := Lib.hid hPP
            have HBB := Lib.hid hCq95
            have HEE := Lib.hid hBq97
            have HSZ : Hid ((q.s || q.isZ) = true) := by show _ = _; rw [HZ0.out]; simp
            have HL0 : Hid (∀ k', k' < 0 → rightLoose T.leaves i q.loose k' = true) := fun k' hk => by omega
            clear hPP hCq96 hCq95 hBq97 hpb hpbl hs cZ hrw hsz2
            go_loopw [74] (fun j wr3 => ∃ k : Nat, k ≤ ql ∧ j = .int .i64 k ∧ Hid (Blk wr3 bb #[.slice lo n ac, .slice (some ⟨g, off, none⟩) m pc] 27) ∧ Hid (Blk wr3 pb (q.cells (.slice qo ql qc)).toArray 126) ∧ Hid (Below w.heap.size w wr3) ∧ Hid (∀ k', k' < k → rightLoose T.leaves i q.loose k' = true)) (fun j _ => ql - (intOf j).toNat)
            case atStart => exact ⟨0, by omega, rfl, HBB, HPP, HEE, HL0⟩
            case round =>
              clear HBB HPP HEE HL0
              obtain ⟨k, hk, rfl, HBB, HPP, HEE, HAL⟩ := hrel
              obtain ⟨wr3, rfl⟩ : ∃ z, z = wr := ⟨_, rfl⟩
              by_cases hkl : k < ql
              · obtain ⟨qg, qoff, x, rfl, hx, hrx⟩ := HQE.out.at k hkl
                obtain ⟨hx1, hx2⟩ := HQW.out x (List.mem_of_getElem? hx)
                have hcx : wr3.cell? ⟨qg, qoff + k, none⟩ = some (.int .i64 x) := by
                  have := (HQE.out.below HEE.out).at' k _ hx 0 _ rfl
                  rwa [Nat.mul_one] at this
                have HX := Lib.hid hx
                have hB := HBB.out
                have hP := HPP.out
                have hE := HEE.out
                have HRL : Hid (rightLoose T.leaves i q.loose k = (holdsI n (2 * (i : Int) + 1) x && (decide (nameAt T.leaves x ≠ 0) && (k == 0 || decide (q.loose.getD (k - 1) 0 < x))))) := by
                  show _ = _
                  unfold rightLoose
                  rw [HX.out, HLN.out]
                clear hx hrx HBB HPP HEE
                by_cases hh : holdsI n (2 * (i : Int) + 1) x = true
                case neg =>
                  have hh : holdsI n (2 * (i : Int) + 1) x = false := by simpa using hh
                  have HF : Hid (R = false) := HRR.out.trans (rightT_par HQ.out (rightPar_loose (by rw [← HQL.out]; exact hkl) (by rw [HRL.out, hh]; simp)))
                  go_wp2_with ((with_reducible show wpList _ _ _ (⟨some 78, _, _, _, _, _⟩ :: _) _ _); refine wpList_load1 rfl 3 (.tmp 77) rfl (qg) (qoff + k) (by rfl) _ _ (hcx) Tryz.underlying3 rfl ?_)
                  refine (Holds_calls _ _ _ _).mono ?_
                  rintro e ww ⟨rfl, hww⟩
                  subst ww
                  rw [hh]
                  go_wp2_with fail
                  go_returns
                  exact ⟨by rw [HF.out]; rfl, hE⟩
                case pos =>
                  obtain ⟨hx0, hxn⟩ := holds_in hh
                  obtain ⟨y, rfl⟩ : ∃ y : Nat, x = y := ⟨x.toNat, by omega⟩
                  have hyn : y < n := by omega
                  obtain ⟨lg, loff, l2, rfl, hl2, hrl⟩ := HT.out.el.at y hyn
                  have hcl : wr3.cell? ⟨lg, loff + y * 97, none⟩ = some (.int .i64 l2.n) := leaf_nR ((HT.out.el.below hE).at' y _ hl2)
                  have hna : nameAt T.leaves (y : Int) = l2.n := by unfold nameAt; rw [Int.toNat_natCast, hl2]; rfl
                  have HNA := Lib.hid hna
                  have HH := Lib.hid hh
                  clear hl2 hrl hna
                  by_cases h0 : l2.n = 0
                  · have hn0 : (l2.n == 0) = true := by simp [h0]
                    have HF : Hid (R = false) := HRR.out.trans (rightT_par HQ.out (rightPar_loose (by rw [← HQL.out]; exact hkl) (by rw [HRL.out, HNA.out, h0]; simp)))
                    go_wp2_with ((with_reducible show wpList _ _ _ (⟨some 78, _, _, _, _, _⟩ :: _) _ _); refine wpList_load1 rfl 3 (.tmp 77) rfl (qg) (qoff + k) (by rfl) _ _ (hcx) Tryz.underlying3 rfl ?_)
                    refine (Holds_calls _ _ _ _).mono ?_
                    rintro e ww ⟨rfl, hww⟩
                    subst ww
                    rw [hh]
                    go_wp2_with (first | ((with_reducible show wpList _ _ _ (⟨some 88, _, _, _, _, _⟩ :: _) _ _); refine wpList_if (by rfl) (wp_load1 24 (.tmp 87) rfl (bb) 0 (by rfl) _ _ (hB.cell 0 _ rfl) Tryz.underlying24 rfl ?_)) | ((with_reducible show wpList _ _ _ (⟨some 92, _, _, _, _, _⟩ :: _) _ _); refine wpList_if (by rfl) (wp_load1 3 (.tmp 91) rfl (lg) (loff + y * 97) (by rfl) _ _ (hcl) Tryz.underlying3 rfl ?_)))
                    go_returns
                    exact ⟨by rw [HF.out]; rfl, hE⟩
                  have hn0 : (l2.n == 0) = false := by simp [h0]
                  by_cases hk0 : k = 0
                  · have hg0 : ¬ (0 : Int) < k := by omega
                    have HK0 := Lib.hid hk0
                    clear hk0
                    go_wp2_with ((with_reducible show wpList _ _ _ (⟨some 78, _, _, _, _, _⟩ :: _) _ _); refine wpList_load1 rfl 3 (.tmp 77) rfl (qg) (qoff + k) (by rfl) _ _ (hcx) Tryz.underlying3 rfl ?_)
                    refine (Holds_calls _ _ _ _).mono ?_
                    rintro e ww ⟨rfl, hww⟩
                    subst ww
                    rw [hh]
                    go_wp2_with (first | ((with_reducible show wpList _ _ _ (⟨some 88, _, _, _, _, _⟩ :: _) _ _); refine wpList_if (by rfl) (wp_load1 24 (.tmp 87) rfl (bb) 0 (by rfl) _ _ (hB.cell 0 _ rfl) Tryz.underlying24 rfl ?_)) | ((with_reducible show wpList _ _ _ (⟨some 92, _, _, _, _, _⟩ :: _) _ _); refine wpList_if (by rfl) (wp_load1 3 (.tmp 91) rfl (lg) (loff + y * 97) (by rfl) _ _ (hcl) Tryz.underlying3 rfl ?_)))
                    have HAL2 : Hid (∀ k', k' < (k + 1) → rightLoose T.leaves i q.loose k' = true) := fun k' hk' => by
                      by_cases e : k' = k
                      · subst e; rw [HRL.out, HH.out, HNA.out]; simp [h0, HK0.out]
                      · exact HAL.out k' (by omega)
                    have HB3 := Lib.hid hB
                    have HP3 := Lib.hid hP
                    have HE3 := Lib.hid hE
                    clear hB hP hE hcx hcl
                    go_roundw
                    case rel => exact ⟨(k + 1), by omega, by go_num, HB3, HP3, HE3, HAL2⟩
                    case measure => simp [intOf]; omega
                  obtain ⟨k0, hk1⟩ : ∃ k0, k = k0 + 1 := ⟨k - 1, by omega⟩
                  have hK1 : (k : Int) - 1 = (k0 : Int) := by omega
                  obtain ⟨z, hz⟩ : ∃ z, q.loose[k0]? = some z := ⟨_, List.getElem?_eq_getElem (by rw [← HQL.out]; omega)⟩
                  obtain ⟨hz1, hz2⟩ := HQW.out z (List.mem_of_getElem? hz)
                  have hcz : wr3.cell? ⟨qg, qoff + k0, none⟩ = some (.int .i64 z) := by
                    have := (HQE.out.below hE).at' k0 _ hz 0 _ rfl
                    rwa [Nat.mul_one] at this
                  have HGD : Hid (q.loose.getD (k - 1) 0 = z) := by show _ = _; rw [hk1, Nat.add_sub_cancel, List.getD_eq_getElem?_getD, hz]; rfl
                  have HK1 := Lib.hid hk1
                  have hk0n : k0 < ql := by omega
                  clear hz hk1
                  by_cases hlt3 : z < y
                  case neg =>
                    have HF : Hid (R = false) := HRR.out.trans (rightT_par HQ.out (rightPar_loose (by rw [← HQL.out]; exact hkl) (by rw [HRL.out, HGD.out, decide_eq_false hlt3, show (k == 0) = false by simp [hk0]]; simp)))
                    go_wp2_with ((with_reducible show wpList _ _ _ (⟨some 78, _, _, _, _, _⟩ :: _) _ _); refine wpList_load1 rfl 3 (.tmp 77) rfl (qg) (qoff + k) (by rfl) _ _ (hcx) Tryz.underlying3 rfl ?_)
                    refine (Holds_calls _ _ _ _).mono ?_
                    rintro e ww ⟨rfl, hww⟩
                    subst ww
                    rw [hh]
                    go_wp2_with (first | ((with_reducible show wpList _ _ _ (⟨some 88, _, _, _, _, _⟩ :: _) _ _); refine wpList_if (by rfl) (wp_load1 24 (.tmp 87) rfl (bb) 0 (by rfl) _ _ (hB.cell 0 _ rfl) Tryz.underlying24 rfl ?_)) | ((with_reducible show wpList _ _ _ (⟨some 92, _, _, _, _, _⟩ :: _) _ _); refine wpList_if (by rfl) (wp_load1 3 (.tmp 91) rfl (lg) (loff + y * 97) (by rfl) _ _ (hcl) Tryz.underlying3 rfl ?_)) | ((with_reducible show wpList _ _ _ (⟨some 101, _, _, _, _, _⟩ :: _) _ _); refine wpList_if (by rfl) (wp_load1 40 (.tmp 100) rfl (pb) 65 (by rfl) _ _ ((by have h65 := par_l (blk_rangeP hP); rwa [Nat.zero_add] at h65)) Tryz.underlying40 rfl ?_)) | ((with_reducible show wpList _ _ _ (⟨some 105, _, _, _, _, _⟩ :: _) _ _); refine wpList_if (by rfl) (wp_load1 3 (.tmp 104) rfl (qg) (qoff + k0) (by rfl) _ _ (hcz) Tryz.underlying3 rfl ?_)))
                    go_returns
                    exact ⟨by rw [HF.out]; rfl, hE⟩
                  case pos =>
                    go_wp2_with ((with_reducible show wpList _ _ _ (⟨some 78, _, _, _, _, _⟩ :: _) _ _); refine wpList_load1 rfl 3 (.tmp 77) rfl (qg) (qoff + k) (by rfl) _ _ (hcx) Tryz.underlying3 rfl ?_)
                    refine (Holds_calls _ _ _ _).mono ?_
                    rintro e ww ⟨rfl, hww⟩
                    subst ww
                    rw [hh]
                    go_wp2_with (first | ((with_reducible show wpList _ _ _ (⟨some 88, _, _, _, _, _⟩ :: _) _ _); refine wpList_if (by rfl) (wp_load1 24 (.tmp 87) rfl (bb) 0 (by rfl) _ _ (hB.cell 0 _ rfl) Tryz.underlying24 rfl ?_)) | ((with_reducible show wpList _ _ _ (⟨some 92, _, _, _, _, _⟩ :: _) _ _); refine wpList_if (by rfl) (wp_load1 3 (.tmp 91) rfl (lg) (loff + y * 97) (by rfl) _ _ (hcl) Tryz.underlying3 rfl ?_)) | ((with_reducible show wpList _ _ _ (⟨some 101, _, _, _, _, _⟩ :: _) _ _); refine wpList_if (by rfl) (wp_load1 40 (.tmp 100) rfl (pb) 65 (by rfl) _ _ ((by have h65 := par_l (blk_rangeP hP); rwa [Nat.zero_add] at h65)) Tryz.underlying40 rfl ?_)) | ((with_reducible show wpList _ _ _ (⟨some 105, _, _, _, _, _⟩ :: _) _ _); refine wpList_if (by rfl) (wp_load1 3 (.tmp 104) rfl (qg) (qoff + k0) (by rfl) _ _ (hcz) Tryz.underlying3 rfl ?_)))
                    clear hcz
                    have HAL2 : Hid (∀ k', k' < (k + 1) → rightLoose T.leaves i q.loose k' = true) := fun k' hk' => by
                      by_cases e : k' = k
                      · subst e; rw [HRL.out, HH.out, HNA.out]; rw [HGD.out, decide_eq_true hlt3]; simp [h0]
                      · exact HAL.out k' (by omega)
                    have HB3 := Lib.hid hB
                    have HP3 := Lib.hid hP
                    have HE3 := Lib.hid hE
                    clear hB hP hE hcx hcl
                    go_roundw
                    case rel => exact ⟨(k + 1), by omega, by go_num, HB3, HP3, HE3, HAL2⟩
                    case measure => simp [intOf]; omega
              · obtain rfl : k = ql := by omega
                have HALP : Hid (∀ k' q', k' < i + 1 → T.pars[k']? = some q' → rightPar T.leaves k' q' = true) := fun k' q' hk' hq' => by
                  by_cases e : k' = i
                  · subst e
                    rw [HQ.out] at hq'
                    obtain rfl := Option.some.inj hq'
                    unfold rightPar
                    rw [HSZ.out, Bool.true_and, List.all_eq_true]
                    exact fun z hz => HAL.out z (by rw [HQL.out]; exact List.mem_range.1 hz)
                  · exact HALL.out k' q' (by omega) hq'
                clear HAL HALL HPP HSZ
                go_wp2_with fail
                go_roundw
                case rel => exact ⟨i + 1, by omega, by go_num, HBB, HEE, HALP⟩
                case measure => simp [intOf]; omega
          · have HF : Hid (R = false) := HRR.out.trans (rightT_par HQ.out (by unfold rightPar; rw [hs, hz]; rfl))
            go_wp2_with (first | ((with_reducible show wpList _ _ _ (⟨some 62, _, _, _, _, _⟩ :: _) _ _); refine wpList_load_mid rfl 126 (.tmp 61) rfl g (off + i * 66) (by rfl) (q.cells (.slice qo ql qc)) _ hrw Tryz.underlying126 rfl (par_sizeL q _) ?_) | ((with_reducible show wpList _ _ _ (⟨some 8, _, _, _, _, _⟩ :: _) _ _); refine wpList_allocZ rfl 126 rfl _ Tryz.zeroPar ?_; intro wq98 hsq99 baq100 hNq101) | ((with_reducible show wpList _ _ _ (⟨none, Op.store _ (.tmp 8) _, _, _, _, _⟩ :: _) _ _); refine wpList_storeBlk rfl 126 (.tmp 8) (.tmp 62) rfl (wr2.heap.size) ((q.cells (.slice qo ql qc)).toArray) (by rfl) (by rfl) _ _ hNq101 (par_sizeA q _) (par_hold q _) (par_all q _ _ _) ?_; intro wq102 hKq103 gq104; have bbq105 := below_new baq100 gq104 (Nat.le_refl _) baq100.size; have ltq106 : bb < wr2.heap.size := hB.lt; have hCq107 := hB.below bbq105 hB.lt; have hBq108 := hE.trans (bbq105.mono (hE.size)); clear hB hE; clear bbq105 baq100 hNq101 gq104 hsq99) | ((with_reducible show wpList _ _ _ (⟨some 64, _, _, _, _, _⟩ :: _) _ _); refine wpList_load1 rfl 4 (.tmp 63) rfl (wr2.heap.size) 0 (by rfl) _ _ ((by have hc := par_s (blk_rangeP hKq103); rw [hs] at hc; exact hc)) Tryz.underlying4 rfl ?_) | ((with_reducible show wpList _ _ _ (⟨some 67, _, _, _, _, _⟩ :: _) _ _); refine wpList_if (by rfl) (wp_load_mid 126 (.tmp 8) rfl (wr2.heap.size) 0 (by rfl) (q.cells (.slice qo ql qc)) _ (blk_rangeP hKq103) Tryz.underlying126 rfl (par_sizeL q _) ?_)))
            have ltq111 : bb < wq102.heap.size := hCq107.lt
            have ltq112 : wr2.heap.size < wq102.heap.size := hKq103.lt
            refine (cZ _).mono ?_
            rintro e wq109 ⟨rfl, bq110⟩
            have hCq113 := hCq107.below bq110 hCq107.lt
            have hCq114 := hKq103.below bq110 hKq103.lt
            have hBq115 := hBq108.trans (bq110.mono (hBq108.size))
            clear hCq107 hKq103 hBq108
            clear bq110
            rw [hs, hz]
            go_wp2_with fail
            go_returns
            exact ⟨by rw [HF.out]; rfl, hBq115⟩
        · obtain rfl : i = m := by omega
          have HR : Hid (rightT T = (T.leaves.isEmpty || decide (nameAt T.leaves (T.leaves.length - 1 : Nat) ≠ 0))) := rightT_end (by have := HLN.out; omega) (by rw [HLM.out, HLN.out]; omega) HALL1.out (fun k q hk => HALL.out k q (by rw [← HLM.out]; exact (List.getElem?_eq_some_iff.1 hk).1) hk)
          have hB := HB.out
          have hE := HE.out
          clear HB HE HALL hi hlt
          have HR1 := Lib.hid (HRR.out.trans HR.out)
          clear HR
          by_cases hn0 : n = 0
          · have hn1 : ((n : Int) == 0) = true := by simp [hn0]
            have he : T.leaves.isEmpty = true := by rw [List.isEmpty_iff_length_eq_zero, HLN.out]; exact hn0
            have HR2 : Hid (R = true) := by show _ = _; rw [HR1.out, he]; rfl
            clear HR1 he
            go_wp2_with fail
            go_returns
            exact ⟨by rw [HR2.out]; rfl, hE⟩
          · have hn1 : ((n : Int) == 0) = false := by simp [hn0]
            obtain ⟨n0, hn2⟩ : ∃ n0, n0 + 1 = n := ⟨n - 1, by omega⟩
            have hN1 : (n : Int) - 1 = (n0 : Int) := by omega
            have hn0n : n0 < n := by omega
            obtain ⟨lg, loff, l, rfl, hl, hrl⟩ := HT.out.el.at n0 hn0n
            have hcl : wr2.cell? ⟨lg, loff + n0 * 97, none⟩ = some (.int .i64 l.n) := leaf_nR ((HT.out.el.below hE).at' n0 _ hl)
            have hna : nameAt T.leaves ((T.leaves.length - 1 : Nat) : Int) = l.n := by unfold nameAt; rw [Int.toNat_natCast, HLN.out, show n - 1 = n0 by omega, hl]; rfl
            have he : T.leaves.isEmpty = false := by rw [Bool.eq_false_iff]; intro e; rw [List.isEmpty_iff_length_eq_zero, HLN.out] at e; exact hn0 e
            have h0 : decide (l.n ≠ 0) = decide (0 < l.n) := by
              have := HALL1.out n0 (by rw [HLN.out]; exact hn0n)
              unfold rightLeaf at this
              rw [hl] at this
              by_cases e : l.n = 0
              · rw [e]; rfl
              · have h1 : 0 < l.n := by
                  have hz : l.isZ = false := by unfold LeafA.isZ; rw [decide_eq_false e]; rfl
                  simp only [hz, Bool.false_or, Bool.and_eq_true, decide_eq_true_eq] at this
                  omega
                rw [decide_eq_true e, decide_eq_true h1]
            have HR2 : Hid (R = decide (0 < l.n)) := by show _ = _; rw [HR1.out, he, hna, h0]; rfl
            clear HR1 HALL1 hl hrl hna h0 he
            go_wp2_with (first | ((with_reducible show wpList _ _ _ (⟨some 115, _, _, _, _, _⟩ :: _) _ _); refine wpList_if (by rfl) (wp_load1 24 (.tmp 114) rfl bb 0 (by rfl) _ _ (hB.cell 0 _ rfl) Tryz.underlying24 rfl ?_)) | ((with_reducible show wpList _ _ _ (⟨some 120, _, _, _, _, _⟩ :: _) _ _); refine wpList_if (by rfl) (wp_load1 3 (.tmp 119) rfl lg (loff + n0 * 97) (by rfl) _ _ hcl Tryz.underlying3 rfl ?_)))
            go_returns
            exact ⟨by rw [HR2.out]; rfl, hE⟩
end Go.Proofs.YtjlpdbaknhbgdaaGreat
