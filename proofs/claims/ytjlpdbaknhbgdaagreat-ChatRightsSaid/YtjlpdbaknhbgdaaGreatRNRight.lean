/-
  The document's Right of a note.
-/
import Derived.Test.YtjlpdbaknhbgdaaGreatQChat
import Derived.WalkLawsBesides
import Derived.Outline
import Derived.Handy
set_option linter.unusedSimpArgs false
set_option linter.unusedVariables false
namespace Go.Proofs.YtjlpdbaknhbgdaaGreat
open Go.RowKit

set_option maxHeartbeats 4000000 in
set_option maxRecDepth 100000 in
theorem RNRight_calls (n : NoteA) (w : World) : Calls Tryz.prog 38 #[.agg n.cells.toArray] w fun e w' => e = .returned (.bool (rightN n)) ∧ Below w.heap.size w w' := by
  have hA0 : Blk (w.alloc (.cells n.cells.toArray 86)) w.heap.size n.cells.toArray 86 := Blk.new _ _ _
  have hb0 : Below w.heap.size w (w.alloc (.cells n.cells.toArray 86)) := below_alloc1 _ _
  have hd := hA0.cell 32 _ (note_d n)
  have ha := hA0.cell 33 _ (note_a n)
  have hg := hA0.cell 34 _ (note_g n)
  have hs := hA0.cell 35 _ (note_s n)
  obtain ⟨R, hR⟩ : ∃ R, R = rightN n := ⟨_, rfl⟩
  have HR := Lib.hid hR
  rw [← hR]
  clear hA0 hR
  by_cases c0 : 0 ≤ n.d
  case neg =>
    have HF : Hid (R = false) := by
      show _ = _
      rw [HR.out, Bool.eq_false_iff]
      intro e
      have := rightN_true e
      omega
    go_enter Tryz.func38, Tryz.ntmps38
    go_wp2_with (first | ((with_reducible show wpList _ _ _ (⟨some 4, _, _, _, _, _⟩ :: _) _ _); refine wpList_load1 rfl 3 (.tmp 3) rfl w.heap.size 32 (by rfl) _ _ hd Tryz.underlying3 rfl ?_) | ((with_reducible show wpList _ _ _ (⟨some 8, _, _, _, _, _⟩ :: _) _ _); refine wpList_if (by rfl) (wp_load1 3 (.tmp 7) rfl w.heap.size 32 (by rfl) _ _ hd Tryz.underlying3 rfl ?_)) | ((with_reducible show wpList _ _ _ (⟨some 13, _, _, _, _, _⟩ :: _) _ _); refine wpList_if (by rfl) (wp_load1 3 (.tmp 12) rfl w.heap.size 33 (by rfl) _ _ ha Tryz.underlying3 rfl ?_)) | ((with_reducible show wpList _ _ _ (⟨some 18, _, _, _, _, _⟩ :: _) _ _); refine wpList_if (by rfl) (wp_load1 3 (.tmp 17) rfl w.heap.size 33 (by rfl) _ _ ha Tryz.underlying3 rfl ?_)) | ((with_reducible show wpList _ _ _ (⟨some 23, _, _, _, _, _⟩ :: _) _ _); refine wpList_if (by rfl) (wp_load1 3 (.tmp 22) rfl w.heap.size 34 (by rfl) _ _ hg Tryz.underlying3 rfl ?_)) | ((with_reducible show wpList _ _ _ (⟨some 28, _, _, _, _, _⟩ :: _) _ _); refine wpList_if (by rfl) (wp_load1 3 (.tmp 27) rfl w.heap.size 34 (by rfl) _ _ hg Tryz.underlying3 rfl ?_)) | ((with_reducible show wpList _ _ _ (⟨some 33, _, _, _, _, _⟩ :: _) _ _); refine wpList_if (by rfl) (wp_load1 9 (.tmp 32) rfl w.heap.size 35 (by rfl) _ _ hs Tryz.underlying9 rfl ?_)))
    go_returns
    exact ⟨by rw [HF.out]; rfl, hb0⟩
  by_cases c1 : n.d ≤ 4611686018427387903
  case neg =>
    have HF : Hid (R = false) := by
      show _ = _
      rw [HR.out, Bool.eq_false_iff]
      intro e
      have := rightN_true e
      omega
    go_enter Tryz.func38, Tryz.ntmps38
    go_wp2_with (first | ((with_reducible show wpList _ _ _ (⟨some 4, _, _, _, _, _⟩ :: _) _ _); refine wpList_load1 rfl 3 (.tmp 3) rfl w.heap.size 32 (by rfl) _ _ hd Tryz.underlying3 rfl ?_) | ((with_reducible show wpList _ _ _ (⟨some 8, _, _, _, _, _⟩ :: _) _ _); refine wpList_if (by rfl) (wp_load1 3 (.tmp 7) rfl w.heap.size 32 (by rfl) _ _ hd Tryz.underlying3 rfl ?_)) | ((with_reducible show wpList _ _ _ (⟨some 13, _, _, _, _, _⟩ :: _) _ _); refine wpList_if (by rfl) (wp_load1 3 (.tmp 12) rfl w.heap.size 33 (by rfl) _ _ ha Tryz.underlying3 rfl ?_)) | ((with_reducible show wpList _ _ _ (⟨some 18, _, _, _, _, _⟩ :: _) _ _); refine wpList_if (by rfl) (wp_load1 3 (.tmp 17) rfl w.heap.size 33 (by rfl) _ _ ha Tryz.underlying3 rfl ?_)) | ((with_reducible show wpList _ _ _ (⟨some 23, _, _, _, _, _⟩ :: _) _ _); refine wpList_if (by rfl) (wp_load1 3 (.tmp 22) rfl w.heap.size 34 (by rfl) _ _ hg Tryz.underlying3 rfl ?_)) | ((with_reducible show wpList _ _ _ (⟨some 28, _, _, _, _, _⟩ :: _) _ _); refine wpList_if (by rfl) (wp_load1 3 (.tmp 27) rfl w.heap.size 34 (by rfl) _ _ hg Tryz.underlying3 rfl ?_)) | ((with_reducible show wpList _ _ _ (⟨some 33, _, _, _, _, _⟩ :: _) _ _); refine wpList_if (by rfl) (wp_load1 9 (.tmp 32) rfl w.heap.size 35 (by rfl) _ _ hs Tryz.underlying9 rfl ?_)))
    go_returns
    exact ⟨by rw [HF.out]; rfl, hb0⟩
  by_cases c2 : 1 ≤ n.a
  case neg =>
    have HF : Hid (R = false) := by
      show _ = _
      rw [HR.out, Bool.eq_false_iff]
      intro e
      have := rightN_true e
      omega
    go_enter Tryz.func38, Tryz.ntmps38
    go_wp2_with (first | ((with_reducible show wpList _ _ _ (⟨some 4, _, _, _, _, _⟩ :: _) _ _); refine wpList_load1 rfl 3 (.tmp 3) rfl w.heap.size 32 (by rfl) _ _ hd Tryz.underlying3 rfl ?_) | ((with_reducible show wpList _ _ _ (⟨some 8, _, _, _, _, _⟩ :: _) _ _); refine wpList_if (by rfl) (wp_load1 3 (.tmp 7) rfl w.heap.size 32 (by rfl) _ _ hd Tryz.underlying3 rfl ?_)) | ((with_reducible show wpList _ _ _ (⟨some 13, _, _, _, _, _⟩ :: _) _ _); refine wpList_if (by rfl) (wp_load1 3 (.tmp 12) rfl w.heap.size 33 (by rfl) _ _ ha Tryz.underlying3 rfl ?_)) | ((with_reducible show wpList _ _ _ (⟨some 18, _, _, _, _, _⟩ :: _) _ _); refine wpList_if (by rfl) (wp_load1 3 (.tmp 17) rfl w.heap.size 33 (by rfl) _ _ ha Tryz.underlying3 rfl ?_)) | ((with_reducible show wpList _ _ _ (⟨some 23, _, _, _, _, _⟩ :: _) _ _); refine wpList_if (by rfl) (wp_load1 3 (.tmp 22) rfl w.heap.size 34 (by rfl) _ _ hg Tryz.underlying3 rfl ?_)) | ((with_reducible show wpList _ _ _ (⟨some 28, _, _, _, _, _⟩ :: _) _ _); refine wpList_if (by rfl) (wp_load1 3 (.tmp 27) rfl w.heap.size 34 (by rfl) _ _ hg Tryz.underlying3 rfl ?_)) | ((with_reducible show wpList _ _ _ (⟨some 33, _, _, _, _, _⟩ :: _) _ _); refine wpList_if (by rfl) (wp_load1 9 (.tmp 32) rfl w.heap.size 35 (by rfl) _ _ hs Tryz.underlying9 rfl ?_)))
    go_returns
    exact ⟨by rw [HF.out]; rfl, hb0⟩
  by_cases c3 : n.a ≤ 64
  case neg =>
    have HF : Hid (R = false) := by
      show _ = _
      rw [HR.out, Bool.eq_false_iff]
      intro e
      have := rightN_true e
      omega
    go_enter Tryz.func38, Tryz.ntmps38
    go_wp2_with (first | ((with_reducible show wpList _ _ _ (⟨some 4, _, _, _, _, _⟩ :: _) _ _); refine wpList_load1 rfl 3 (.tmp 3) rfl w.heap.size 32 (by rfl) _ _ hd Tryz.underlying3 rfl ?_) | ((with_reducible show wpList _ _ _ (⟨some 8, _, _, _, _, _⟩ :: _) _ _); refine wpList_if (by rfl) (wp_load1 3 (.tmp 7) rfl w.heap.size 32 (by rfl) _ _ hd Tryz.underlying3 rfl ?_)) | ((with_reducible show wpList _ _ _ (⟨some 13, _, _, _, _, _⟩ :: _) _ _); refine wpList_if (by rfl) (wp_load1 3 (.tmp 12) rfl w.heap.size 33 (by rfl) _ _ ha Tryz.underlying3 rfl ?_)) | ((with_reducible show wpList _ _ _ (⟨some 18, _, _, _, _, _⟩ :: _) _ _); refine wpList_if (by rfl) (wp_load1 3 (.tmp 17) rfl w.heap.size 33 (by rfl) _ _ ha Tryz.underlying3 rfl ?_)) | ((with_reducible show wpList _ _ _ (⟨some 23, _, _, _, _, _⟩ :: _) _ _); refine wpList_if (by rfl) (wp_load1 3 (.tmp 22) rfl w.heap.size 34 (by rfl) _ _ hg Tryz.underlying3 rfl ?_)) | ((with_reducible show wpList _ _ _ (⟨some 28, _, _, _, _, _⟩ :: _) _ _); refine wpList_if (by rfl) (wp_load1 3 (.tmp 27) rfl w.heap.size 34 (by rfl) _ _ hg Tryz.underlying3 rfl ?_)) | ((with_reducible show wpList _ _ _ (⟨some 33, _, _, _, _, _⟩ :: _) _ _); refine wpList_if (by rfl) (wp_load1 9 (.tmp 32) rfl w.heap.size 35 (by rfl) _ _ hs Tryz.underlying9 rfl ?_)))
    go_returns
    exact ⟨by rw [HF.out]; rfl, hb0⟩
  by_cases c4 : 0 ≤ n.g
  case neg =>
    have HF : Hid (R = false) := by
      show _ = _
      rw [HR.out, Bool.eq_false_iff]
      intro e
      have := rightN_true e
      omega
    go_enter Tryz.func38, Tryz.ntmps38
    go_wp2_with (first | ((with_reducible show wpList _ _ _ (⟨some 4, _, _, _, _, _⟩ :: _) _ _); refine wpList_load1 rfl 3 (.tmp 3) rfl w.heap.size 32 (by rfl) _ _ hd Tryz.underlying3 rfl ?_) | ((with_reducible show wpList _ _ _ (⟨some 8, _, _, _, _, _⟩ :: _) _ _); refine wpList_if (by rfl) (wp_load1 3 (.tmp 7) rfl w.heap.size 32 (by rfl) _ _ hd Tryz.underlying3 rfl ?_)) | ((with_reducible show wpList _ _ _ (⟨some 13, _, _, _, _, _⟩ :: _) _ _); refine wpList_if (by rfl) (wp_load1 3 (.tmp 12) rfl w.heap.size 33 (by rfl) _ _ ha Tryz.underlying3 rfl ?_)) | ((with_reducible show wpList _ _ _ (⟨some 18, _, _, _, _, _⟩ :: _) _ _); refine wpList_if (by rfl) (wp_load1 3 (.tmp 17) rfl w.heap.size 33 (by rfl) _ _ ha Tryz.underlying3 rfl ?_)) | ((with_reducible show wpList _ _ _ (⟨some 23, _, _, _, _, _⟩ :: _) _ _); refine wpList_if (by rfl) (wp_load1 3 (.tmp 22) rfl w.heap.size 34 (by rfl) _ _ hg Tryz.underlying3 rfl ?_)) | ((with_reducible show wpList _ _ _ (⟨some 28, _, _, _, _, _⟩ :: _) _ _); refine wpList_if (by rfl) (wp_load1 3 (.tmp 27) rfl w.heap.size 34 (by rfl) _ _ hg Tryz.underlying3 rfl ?_)) | ((with_reducible show wpList _ _ _ (⟨some 33, _, _, _, _, _⟩ :: _) _ _); refine wpList_if (by rfl) (wp_load1 9 (.tmp 32) rfl w.heap.size 35 (by rfl) _ _ hs Tryz.underlying9 rfl ?_)))
    go_returns
    exact ⟨by rw [HF.out]; rfl, hb0⟩
  by_cases c5 : n.g ≤ 255
  case neg =>
    have HF : Hid (R = false) := by
      show _ = _
      rw [HR.out, Bool.eq_false_iff]
      intro e
      have := rightN_true e
      omega
    go_enter Tryz.func38, Tryz.ntmps38
    go_wp2_with (first | ((with_reducible show wpList _ _ _ (⟨some 4, _, _, _, _, _⟩ :: _) _ _); refine wpList_load1 rfl 3 (.tmp 3) rfl w.heap.size 32 (by rfl) _ _ hd Tryz.underlying3 rfl ?_) | ((with_reducible show wpList _ _ _ (⟨some 8, _, _, _, _, _⟩ :: _) _ _); refine wpList_if (by rfl) (wp_load1 3 (.tmp 7) rfl w.heap.size 32 (by rfl) _ _ hd Tryz.underlying3 rfl ?_)) | ((with_reducible show wpList _ _ _ (⟨some 13, _, _, _, _, _⟩ :: _) _ _); refine wpList_if (by rfl) (wp_load1 3 (.tmp 12) rfl w.heap.size 33 (by rfl) _ _ ha Tryz.underlying3 rfl ?_)) | ((with_reducible show wpList _ _ _ (⟨some 18, _, _, _, _, _⟩ :: _) _ _); refine wpList_if (by rfl) (wp_load1 3 (.tmp 17) rfl w.heap.size 33 (by rfl) _ _ ha Tryz.underlying3 rfl ?_)) | ((with_reducible show wpList _ _ _ (⟨some 23, _, _, _, _, _⟩ :: _) _ _); refine wpList_if (by rfl) (wp_load1 3 (.tmp 22) rfl w.heap.size 34 (by rfl) _ _ hg Tryz.underlying3 rfl ?_)) | ((with_reducible show wpList _ _ _ (⟨some 28, _, _, _, _, _⟩ :: _) _ _); refine wpList_if (by rfl) (wp_load1 3 (.tmp 27) rfl w.heap.size 34 (by rfl) _ _ hg Tryz.underlying3 rfl ?_)) | ((with_reducible show wpList _ _ _ (⟨some 33, _, _, _, _, _⟩ :: _) _ _); refine wpList_if (by rfl) (wp_load1 9 (.tmp 32) rfl w.heap.size 35 (by rfl) _ _ hs Tryz.underlying9 rfl ?_)))
    go_returns
    exact ⟨by rw [HF.out]; rfl, hb0⟩
  by_cases c6 : n.s.length ≤ 1040
  case neg =>
    have HF : Hid (R = false) := by
      show _ = _
      rw [HR.out, Bool.eq_false_iff]
      intro e
      have := rightN_true e
      omega
    go_enter Tryz.func38, Tryz.ntmps38
    go_wp2_with (first | ((with_reducible show wpList _ _ _ (⟨some 4, _, _, _, _, _⟩ :: _) _ _); refine wpList_load1 rfl 3 (.tmp 3) rfl w.heap.size 32 (by rfl) _ _ hd Tryz.underlying3 rfl ?_) | ((with_reducible show wpList _ _ _ (⟨some 8, _, _, _, _, _⟩ :: _) _ _); refine wpList_if (by rfl) (wp_load1 3 (.tmp 7) rfl w.heap.size 32 (by rfl) _ _ hd Tryz.underlying3 rfl ?_)) | ((with_reducible show wpList _ _ _ (⟨some 13, _, _, _, _, _⟩ :: _) _ _); refine wpList_if (by rfl) (wp_load1 3 (.tmp 12) rfl w.heap.size 33 (by rfl) _ _ ha Tryz.underlying3 rfl ?_)) | ((with_reducible show wpList _ _ _ (⟨some 18, _, _, _, _, _⟩ :: _) _ _); refine wpList_if (by rfl) (wp_load1 3 (.tmp 17) rfl w.heap.size 33 (by rfl) _ _ ha Tryz.underlying3 rfl ?_)) | ((with_reducible show wpList _ _ _ (⟨some 23, _, _, _, _, _⟩ :: _) _ _); refine wpList_if (by rfl) (wp_load1 3 (.tmp 22) rfl w.heap.size 34 (by rfl) _ _ hg Tryz.underlying3 rfl ?_)) | ((with_reducible show wpList _ _ _ (⟨some 28, _, _, _, _, _⟩ :: _) _ _); refine wpList_if (by rfl) (wp_load1 3 (.tmp 27) rfl w.heap.size 34 (by rfl) _ _ hg Tryz.underlying3 rfl ?_)) | ((with_reducible show wpList _ _ _ (⟨some 33, _, _, _, _, _⟩ :: _) _ _); refine wpList_if (by rfl) (wp_load1 9 (.tmp 32) rfl w.heap.size 35 (by rfl) _ _ hs Tryz.underlying9 rfl ?_)))
    go_returns
    exact ⟨by rw [HF.out]; show Ending.returned (.bool (decide ((n.s.length : Int) ≤ 1040))) = _; rw [decide_eq_false (by omega)], hb0⟩
  have HF : Hid (R = true) := by
    show _ = _
    rw [HR.out]
    unfold rightN
    rw [decide_eq_true c0, decide_eq_true c1, decide_eq_true c2, decide_eq_true c3, decide_eq_true c4, decide_eq_true (show n.g ≤ 255 by omega), decide_eq_true c6]
    rfl
  go_enter Tryz.func38, Tryz.ntmps38
  go_wp2_with (first | ((with_reducible show wpList _ _ _ (⟨some 4, _, _, _, _, _⟩ :: _) _ _); refine wpList_load1 rfl 3 (.tmp 3) rfl w.heap.size 32 (by rfl) _ _ hd Tryz.underlying3 rfl ?_) | ((with_reducible show wpList _ _ _ (⟨some 8, _, _, _, _, _⟩ :: _) _ _); refine wpList_if (by rfl) (wp_load1 3 (.tmp 7) rfl w.heap.size 32 (by rfl) _ _ hd Tryz.underlying3 rfl ?_)) | ((with_reducible show wpList _ _ _ (⟨some 13, _, _, _, _, _⟩ :: _) _ _); refine wpList_if (by rfl) (wp_load1 3 (.tmp 12) rfl w.heap.size 33 (by rfl) _ _ ha Tryz.underlying3 rfl ?_)) | ((with_reducible show wpList _ _ _ (⟨some 18, _, _, _, _, _⟩ :: _) _ _); refine wpList_if (by rfl) (wp_load1 3 (.tmp 17) rfl w.heap.size 33 (by rfl) _ _ ha Tryz.underlying3 rfl ?_)) | ((with_reducible show wpList _ _ _ (⟨some 23, _, _, _, _, _⟩ :: _) _ _); refine wpList_if (by rfl) (wp_load1 3 (.tmp 22) rfl w.heap.size 34 (by rfl) _ _ hg Tryz.underlying3 rfl ?_)) | ((with_reducible show wpList _ _ _ (⟨some 28, _, _, _, _, _⟩ :: _) _ _); refine wpList_if (by rfl) (wp_load1 3 (.tmp 27) rfl w.heap.size 34 (by rfl) _ _ hg Tryz.underlying3 rfl ?_)) | ((with_reducible show wpList _ _ _ (⟨some 33, _, _, _, _, _⟩ :: _) _ _); refine wpList_if (by rfl) (wp_load1 9 (.tmp 32) rfl w.heap.size 35 (by rfl) _ _ hs Tryz.underlying9 rfl ?_)))
  go_returns
  exact ⟨by rw [HF.out]; show Ending.returned (.bool (decide ((n.s.length : Int) ≤ 1040))) = _; rw [decide_eq_true (by omega)], hb0⟩
end Go.Proofs.YtjlpdbaknhbgdaaGreat
