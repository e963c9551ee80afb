/-
  dag.cmp, slices.SortFunc at vertices.
-/
import Derived.Test.YtodnmhflafpefaaDagHead
import Derived.Test.YtodnmhflafpefaaGleanOrd
import Derived.WalkLawsBesides
import Derived.Laws.ResultCell
import Derived.Deep.LoopGhost
import Derived.Outline
import Derived.Handy
set_option linter.unusedSimpArgs false
set_option linter.unusedVariables false
namespace Go.Proofs
open Go.Shelf Go.Lib
shelf_lay_g SlLaysF0.n6 Slsf 6 at Try 16 as Try.sortVx
end Go.Proofs
namespace Go.Proofs.Ytodnmhflafpefaa
open Go.RowKit Go.Sort

instance : Inhabited Vx := ⟨⟨List.replicate 32 0, List.replicate 32 0, 0, 0, rfl, rfl, by omega⟩⟩
def cmpV (x y : Vx) : Int := if x.d = y.d then cmpT x.id y.id else x.d - y.d
set_option maxHeartbeats 4000000 in
set_option maxRecDepth 100000 in
theorem cmp_calls (x y : Vx) (w : World) : Calls Try.prog 17 #[.agg x.cells.toArray, .agg y.cells.toArray] w fun e w' => e = .returned (.int .i64 (cmpV x y)) ∧ GrowsW w w' := by
  have hA0 : Blk ((w.alloc (.cells x.cells.toArray 35)).alloc (.cells y.cells.toArray 35)) w.heap.size x.cells.toArray 35 := (Blk.new _ _ _).alloc _
  have hB0 : Blk ((w.alloc (.cells x.cells.toArray 35)).alloc (.cells y.cells.toArray 35)) (w.heap.size + 1) y.cells.toArray 35 := blk_newAt (by simp)
  have hG0 : GrowsW w ((w.alloc (.cells x.cells.toArray 35)).alloc (.cells y.cells.toArray 35)) := ((GrowsW.refl w).alloc _).alloc _
  have hra : World.rangeAt ((w.alloc (.cells x.cells.toArray 35)).alloc (.cells y.cells.toArray 35)) w.heap.size 0 x.cells := blk_rangeP hA0
  have hrb : World.rangeAt ((w.alloc (.cells x.cells.toArray 35)).alloc (.cells y.cells.toArray 35)) (w.heap.size + 1) 0 y.cells := blk_rangeP hB0
  have hxd := vx_d hra
  have hyd := vx_d hrb
  have hxh := vx_id hra
  have hyh := vx_id hrb
  rw [Nat.zero_add] at hxd hyd
  obtain ⟨R, hR⟩ : ∃ R, R = cmpV x y := ⟨_, rfl⟩
  have HR := Lib.hid hR
  have HXX := Lib.hid x.hi
  have HYY := Lib.hid y.hi
  have hwr : wrap64 (x.d - y.d) = x.d - y.d := by have := x.hd; have := y.hd; unfold wrap64; omega
  rw [← hR]
  clear hR
  by_cases h1 : x.d = y.d
  · have hR1 : R = cmpT x.id y.id := by rw [HR.out, cmpV, if_pos h1]
    have HRH := Lib.hid hR1
    have hde : decide (x.d = y.d) = true := decide_eq_true h1
    clear hR1 HR
    go_enter Try.func17, Try.ntmps17
    go_wp2_with (first | ((with_reducible show wpList _ _ _ (⟨some 6, _, _, _, _, _⟩ :: _) _ _); refine wpList_load1 rfl 3 (.tmp 5) rfl w.heap.size 64 (by rfl) _ _ hxd Try.underlying3 rfl ?_) | ((with_reducible show wpList _ _ _ (⟨some 8, _, _, _, _, _⟩ :: _) _ _); refine wpList_load1 rfl 3 (.tmp 7) rfl (w.heap.size + 1) 64 (by rfl) _ _ hyd Try.underlying3 rfl ?_) | ((with_reducible show wpList _ _ _ (⟨some 16, _, _, _, _, _⟩ :: _) _ _); refine wpList_load_mid rfl 32 (.tmp 15) rfl w.heap.size 0 (by rfl) (x.id.map bv) _ hxh Try.underlying32 rfl (by rw [List.length_map, HXX.out]; exact Try.sizeHash) ?_) | ((with_reducible show wpList _ _ _ (⟨some 18, _, _, _, _, _⟩ :: _) _ _); refine wpList_load_mid rfl 32 (.tmp 17) rfl (w.heap.size + 1) 0 (by rfl) (y.id.map bv) _ hyh Try.underlying32 rfl (by rw [List.length_map, HYY.out]; exact Try.sizeHash) ?_))
    refine (Cmp_calls x.id y.id HXX.out HYY.out _).mono ?_
    rintro e w5 ⟨rfl, q5⟩
    have hG5 : GrowsW w w5 := hG0.trans q5
    go_wp2_with fail
    go_returns
    exact ⟨by rw [HRH.out]; rfl, hG5⟩
  · have hR1 : R = x.d - y.d := by rw [HR.out, cmpV, if_neg h1]
    have hwR : wrap64 (x.d - y.d) = R := by rw [hR1, hwr]
    have HR1 := Lib.hid hwR
    clear hR1 HR hwr hwR
    go_enter Try.func17, Try.ntmps17
    go_wp2_with (first | ((with_reducible show wpList _ _ _ (⟨some 6, _, _, _, _, _⟩ :: _) _ _); refine wpList_load1 rfl 3 (.tmp 5) rfl w.heap.size 64 (by rfl) _ _ hxd Try.underlying3 rfl ?_) | ((with_reducible show wpList _ _ _ (⟨some 8, _, _, _, _, _⟩ :: _) _ _); refine wpList_load1 rfl 3 (.tmp 7) rfl (w.heap.size + 1) 64 (by rfl) _ _ hyd Try.underlying3 rfl ?_) | ((with_reducible show wpList _ _ _ (⟨some 11, _, _, _, _, _⟩ :: _) _ _); refine wpList_load1 rfl 3 (.tmp 10) rfl w.heap.size 64 (by rfl) _ _ hxd Try.underlying3 rfl ?_) | ((with_reducible show wpList _ _ _ (⟨some 13, _, _, _, _, _⟩ :: _) _ _); refine wpList_load1 rfl 3 (.tmp 12) rfl (w.heap.size + 1) 64 (by rfl) _ _ hyd Try.underlying3 rfl ?_))
    go_returns
    exact ⟨by rw [← HR1.out]; rfl, hG0⟩
theorem cmpV_tri (x y : Vx) : cmpV y x = -(cmpV x y) := by
  unfold cmpV
  have e := cmpT_swap x.id y.id
  by_cases h : x.d = y.d
  · rw [if_pos h, if_pos h.symm]; omega
  · rw [if_neg h, if_neg (fun e => h e.symm)]; omega
theorem cmpV_lt (x y : Vx) : cmpV x y < 0 ↔ x.d < y.d ∨ x.d = y.d ∧ cmpT x.id y.id < 0 := by
  unfold cmpV
  by_cases h : x.d = y.d
  · rw [if_pos h]
    constructor
    · intro h1; exact .inr ⟨h, h1⟩
    · rintro (h1 | h1)
      · omega
      · exact h1.2
  · rw [if_neg h]
    constructor
    · intro h1; exact .inl (by omega)
    · rintro (h1 | h1)
      · omega
      · exact absurd h1.1 h
theorem idV_eq {x y : Vx} (h1 : ¬ cmpT x.id y.id < 0) (h2 : ¬ cmpT y.id x.id < 0) : x.id = y.id := by
  have := cmpT_swap x.id y.id
  exact cmpT_eq _ _ (by rw [x.hi, y.hi]) (by omega)
theorem cmpTV_trans {a b c : Vx} (h1 : cmpT a.id b.id < 0) (h2 : cmpT b.id c.id < 0) : cmpT a.id c.id < 0 := cmpT_trans _ _ _ (by rw [a.hi, b.hi]) (by rw [b.hi, c.hi]) h1 h2
theorem cmpV_ntrans {x y z : Vx} (h1 : ¬ cmpT x.id y.id < 0) (h2 : ¬ cmpT y.id z.id < 0) : ¬ cmpT x.id z.id < 0 := by
  intro h
  by_cases e : cmpT y.id x.id < 0
  · exact h2 (cmpTV_trans e h)
  · rw [← idV_eq h1 e] at h2
    exact h2 h
theorem cmpV_swo : SWO (ltOf cmpV) where
  irrefl x := by
    show decide (cmpV x x < 0) = false
    rw [decide_eq_false_iff_not, cmpV_lt, cmpT_self]; omega
  trans x y z h1 h2 := by
    have h1 : cmpV x y < 0 := of_decide_eq_true h1
    have h2 : cmpV y z < 0 := of_decide_eq_true h2
    refine decide_eq_true ?_
    rw [cmpV_lt] at *
    rcases h1 with h1 | ⟨h1, h3⟩ <;> rcases h2 with h2 | ⟨h2, h4⟩
    · exact .inl (by omega)
    · exact .inl (by omega)
    · exact .inl (by omega)
    · exact .inr ⟨by omega, cmpTV_trans h3 h4⟩
  ntrans x y z h1 h2 := by
    have h1 : ¬ cmpV x y < 0 := of_decide_eq_false h1
    have h2 : ¬ cmpV y z < 0 := of_decide_eq_false h2
    refine decide_eq_false ?_
    rw [cmpV_lt] at *
    simp only [not_or, not_and] at *
    refine ⟨by omega, fun e => ?_⟩
    exact cmpV_ntrans (h1.2 (by omega)) (h2.2 (by omega))
set_option maxHeartbeats 4000000 in
set_option maxRecDepth 100000 in
theorem SortV_calls {F : FuncId} {cf : Vx → Vx → Int} (hO : SWO (ltOf cf)) (eg : ∀ args w, (callFunc F args).run Try.prog w = .ok (.enter F args) w) (hc : ∀ x y w, Calls Try.prog F #[.agg x.cells.toArray, .agg y.cells.toArray] w fun e w' => e = .returned (.int .i64 (cf x y)) ∧ GrowsW w w')
    (base : Nat) (v : Value) (l : List Vx) (w : World) (h : ROwn Vx.cells 66 w base 35 v l) (hn : l.length ≤ 1000000) :
    Calls Try.prog 16 #[v, .func (.func F) #[] #[]] w fun e w' => e = .returned (.tuple #[]) ∧ ∃ R, R.Perm l ∧ (R.Pairwise fun x y => ¬ cf y x < 0) ∧ ROwn Vx.cells 66 w' base 35 v R ∧ w.grownBy w' v.ownBlock := by
  rcases h.2 with ⟨rfl, h0⟩ | ⟨g, cap, cur, rfl, hb, hg, h1, h2, h3, h4⟩
  · have hcall := AnyF.slices_SortFunc_none Try.sortVx none 0 (.func (.func F) #[] #[]) w
    change Calls Try.prog 16 _ _ _ at hcall
    refine hcall.mono ?_
    rintro e w' ⟨rfl, rfl⟩
    obtain rfl := List.eq_nil_of_length_eq_zero h0
    exact ⟨rfl, [], List.Perm.refl _, List.Pairwise.nil, ROwn.nil _ _ _, World.grownBy.refl _ _⟩
  · have hH := holdsR_own Vx.cells_len (by omega) h
    have hgl := lt_of_block hg
    have hcmp : CmpLays Try.prog F #[] Vx.cells 66 cf g 0 l.toArray.size w := fun m os dk _ x y => hc x y _
    have hcall := AnyQ.slices_SortFunc Try.sortVx 66 Try.isAgg35 Try.sizeOf35 Vx.cells Vx.cells_len Vx.one cf hO F #[] g 0 cap l.toArray w eg hcmp hH hgl (by simp; omega)
    change Calls Try.prog 16 _ _ _ at hcall
    rw [List.size_toArray] at hcall
    refine hcall.mono ?_
    rintro e w' ⟨rfl, d, n, os, hp, hs, rfl⟩
    obtain ⟨R, rfl⟩ : ∃ R : List Vx, d = R.toArray := ⟨d.toList, rfl⟩
    have hRl : R.length = l.length := by have := hp.1; simpa using this
    have hperm : R.Perm l := by
      have := hp.2.2
      simpa [List.take_of_length_le (Nat.le_of_eq hRl)] using this
    have hHR : HoldsK Vx.cells 66 (sortWorldK Vx.cells 66 w g 0 n R.toArray os) g 0 R.toArray := holdsK_grow Vx.cells 66 _ os g 0 R.toArray (by rw [size_putRowK]; exact hgl) (holdsK_putRowK Vx.cells 66 _ g 0 l.toArray R.toArray (holdsK_ahead Vx.cells 66 w n g 0 l.toArray hH) (by simp [hRl]))
    have hgr : w.grownBy (sortWorldK Vx.cells 66 w g 0 n R.toArray os) (some g) := grown_trans (grown_trans (aheadH_grown w n _) (putRowH_grown _ _ _ _ _)) (growH_grown _ _ _)
    refine ⟨rfl, R, hperm, ?_, ?_, hgr⟩
    · rw [← hRl, show R.length = R.toArray.size by simp] at hs
      have := pairwise_of_sorted hs
      exact this.imp fun {x y} hxy => of_decide_eq_false hxy
    · have hG : ∃ cur', (sortWorldK Vx.cells 66 w g 0 n R.toArray os).heap[g]? = some (.cells cur' 35 (0, 0)) ∧ cur'.size = cur.size := by
        refine ⟨putCells id 0 (flatK Vx.cells 66 R.toArray) cur, ?_, by simp [putCells]⟩
        simp only [sortWorldK, putRowK, Sort.grow, putRow, mapBlock, Sort.ahead]
        rw [Array.getElem?_append_left (by simp; exact hgl), Array.getElem?_modify, if_pos rfl, hg]
        rfl
      obtain ⟨cur', hG1, hG2⟩ := hG
      show World.ownsRow _ _ _ _ _ _ _
      rw [hRl]
      refine own_of_cells hG1 hb h1 h2 (by rw [hG2, h3]) (by rw [flat_len _ (fun x _ => x.cells_len), hRl]) fun j u hj => ?_
      have hjl : j < R.length * 66 := by have := (List.getElem?_eq_some_iff.1 hj).1; rwa [flat_len R (fun x _ => x.cells_len)] at this
      have hi : j / 66 < R.length := by omega
      have hk := (HoldsK.cell hHR (i := j / 66) (c := j % 66) (by simpa using hi) (by omega)).1
      rw [show 0 + j / 66 * 66 + j % 66 = 0 + j by omega, Nat.zero_add] at hk
      rw [hk]
      have e : R.toArray[j / 66]! = R[j / 66] := by rw [getElem!_pos _ _ (by simpa using hi)]; simp
      have e1 := flat_at Vx.cells_len R (j / 66) R[j / 66] (j % 66) (List.getElem?_eq_getElem hi) (by omega)
      rw [show j / 66 * 66 + j % 66 = j by omega, hj] at e1
      rw [e, e1, getElem!_pos _ _ (by rw [Vx.cells_len]; omega)]
      exact (List.getElem?_eq_getElem _).symm
end Go.Proofs.Ytodnmhflafpefaa
