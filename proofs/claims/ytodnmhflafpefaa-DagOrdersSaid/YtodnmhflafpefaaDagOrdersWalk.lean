/-
  DagOrders: another order makes the same store.
-/
import Derived.Test.YtodnmhflafpefaaDagOrdersLaw
import Derived.WalkLawsBesides
import Derived.Laws.ResultCell
import Derived.Deep.LoopGhost
import Derived.RangeFuncNested
import Derived.RangeFuncBound
import Derived.RangeFuncCalls
import Derived.RangeFuncLeaves
import Derived.RangeFuncBox
import Derived.Shelf.Abstract
import Derived.Shelf.RegionOpen
import Derived.WalkKit
import Derived.OwnWalkIn
import Derived.TacticsInMore
import Derived.LoopNIn
import Derived.LoopIn
import Derived.Deep.RegionHeld
import Derived.Deep.Cut
import Derived.OpenShut
import Derived.Deep.QuietTactic
import Derived.BigQuiet
import Derived.Outline
import Derived.Handy
set_option linter.unusedSimpArgs false
set_option linter.unusedVariables false
namespace Go.Proofs.Ytodnmhflafpefaa
open Go.RowKit

set_option maxHeartbeats 4000000 in
set_option maxRecDepth 100000 in
theorem dagOrders_big1 {w0 : World} (a0 : Int) (wf0 : (Lit.int .u8 a0).wf = true) (v1 : Value) (rs : List Rv) (h1 : RvAt w0 v1 rs) (m1 : rs.length ≤ maxLen) (n1 : ∀ n c, v1 = .slice none n c → c = 0) (v2 : Value) (ts : List UInt8) (h2 : RAt u8Cells w0 v2 ts) (m2 : ts.length ≤ maxLen) (h60 : 60 < rs.length) (w : World) (hw : w0 = w := by rfl) :
    Calls Try.prog 4 #[.int .u8 a0, v1, v2] w fun e w' => e = .returned (.bool true) ∧ Below w.heap.size w w' := by
  subst hw
  obtain ⟨w, rfl⟩ : ∃ w : World, w = w0 := ⟨_, rfl⟩
  have hk8 := bounds_u8 wf0
  obtain ⟨hk1, hk2⟩ := hk8
  obtain ⟨ao, cc, rfl⟩ := h1.slice
  obtain ⟨at2, ct2, rfl⟩ := h2.slice
  unfold maxLen at m1 m2
  have H1 := Lib.hid h1
  have H2 := Lib.hid h2
  have HN1 := Lib.hid n1
  clear h1 h2 wf0 n1
  have hdrs : decide (60 < rs.length) = true := decide_eq_true (by omega)
  have hdrs2 : decide ((60 : Int) < (rs.length : Nat)) = true := decide_eq_true (by omega)
  have hb1 : Below w.heap.size w (w.alloc (.cells #[.bool false] 4)) := below_alloc1 _ _
  have hx1 : Boxed (w.alloc (.cells #[.bool false] 4)) w.heap.size 4 (.bool false) := Boxed.new _ _ _
  go_enter Try.func4, Try.ntmps4
  go_wp2_with fail
  refine (awake15_calls _).mono ?_
  rintro e w2 ⟨rfl, b2⟩
  have hB2 := hb1.trans (b2.mono hb1.size)
  have hx2 := boxed_below hx1 b2
  clear hb1 hx1 b2
  go_wp2_with fail
  refine (awake15_calls _).mono ?_
  rintro e w3 ⟨rfl, b3⟩
  have hB3 := hB2.trans (b3.mono hB2.size)
  have hx3 := boxed_below hx2 b3
  have hc3 := hx3.cell
  have hf3 := hx3.frozen
  clear hB2 hx2 b3
  go_wp2_with fail
  exact bodyPost_ret (results_cell1 rfl (by rfl) (hx3.set _).cell Try.underlying4 rfl) rfl ⟨rfl, hB3.setCell (Nat.le_refl _) _⟩
set_option maxHeartbeats 4000000 in
set_option maxRecDepth 100000 in
theorem dagOrders_big2 {w0 : World} (a0 : Int) (wf0 : (Lit.int .u8 a0).wf = true) (v1 : Value) (rs : List Rv) (h1 : RvAt w0 v1 rs) (m1 : rs.length ≤ maxLen) (n1 : ∀ n c, v1 = .slice none n c → c = 0) (v2 : Value) (ts : List UInt8) (h2 : RAt u8Cells w0 v2 ts) (m2 : ts.length ≤ maxLen) (h60 : rs.length ≤ 60) (h61 : 60 < ts.length) (w : World) (hw : w0 = w := by rfl) :
    Calls Try.prog 4 #[.int .u8 a0, v1, v2] w fun e w' => e = .returned (.bool true) ∧ Below w.heap.size w w' := by
  subst hw
  obtain ⟨w, rfl⟩ : ∃ w : World, w = w0 := ⟨_, rfl⟩
  have hk8 := bounds_u8 wf0
  obtain ⟨hk1, hk2⟩ := hk8
  obtain ⟨ao, cc, rfl⟩ := h1.slice
  obtain ⟨at2, ct2, rfl⟩ := h2.slice
  unfold maxLen at m1 m2
  have H1 := Lib.hid h1
  have H2 := Lib.hid h2
  have HN1 := Lib.hid n1
  clear h1 h2 wf0 n1
  have hdrs : decide (60 < rs.length) = false := decide_eq_false (by omega)
  have hdrs2 : decide ((60 : Int) < (rs.length : Nat)) = false := decide_eq_false (by omega)
  have hdts : decide (60 < ts.length) = true := decide_eq_true (by omega)
  have hdts2 : decide ((60 : Int) < (ts.length : Nat)) = true := decide_eq_true (by omega)
  have hb1 : Below w.heap.size w (w.alloc (.cells #[.bool false] 4)) := below_alloc1 _ _
  have hx1 : Boxed (w.alloc (.cells #[.bool false] 4)) w.heap.size 4 (.bool false) := Boxed.new _ _ _
  go_enter Try.func4, Try.ntmps4
  go_wp2_with fail
  refine (awake15_calls _).mono ?_
  rintro e w2 ⟨rfl, b2⟩
  have hB2 := hb1.trans (b2.mono hb1.size)
  have hx2 := boxed_below hx1 b2
  clear hb1 hx1 b2
  go_wp2_with fail
  refine (awake15_calls _).mono ?_
  rintro e w3 ⟨rfl, b3⟩
  have hB3 := hB2.trans (b3.mono hB2.size)
  have hx3 := boxed_below hx2 b3
  have hc3 := hx3.cell
  have hf3 := hx3.frozen
  clear hB2 hx2 b3
  go_wp2_with fail
  exact bodyPost_ret (results_cell1 rfl (by rfl) (hx3.set _).cell Try.underlying4 rfl) rfl ⟨rfl, hB3.setCell (Nat.le_refl _) _⟩
set_option maxHeartbeats 32000000 in
set_option maxRecDepth 100000 in
theorem dagOrders_few {w0 : World} (a0 : Int) (wf0 : (Lit.int .u8 a0).wf = true) (v1 : Value) (rs : List Rv) (h1 : RvAt w0 v1 rs) (m1 : rs.length ≤ maxLen) (n1 : ∀ n c, v1 = .slice none n c → c = 0) (v2 : Value) (ts : List UInt8) (h2 : RAt u8Cells w0 v2 ts) (m2 : ts.length ≤ maxLen) (h60 : rs.length ≤ 60) (h61 : ts.length ≤ 60) (w : World) (hw : w0 = w := by rfl) :
    Calls Try.prog 4 #[.int .u8 a0, v1, v2] w fun e w' => e = .returned (.bool true) ∧ Below w.heap.size w w' := by
  subst hw
  obtain ⟨w, rfl⟩ : ∃ w : World, w = w0 := ⟨_, rfl⟩
  have hk8 := bounds_u8 wf0
  obtain ⟨hk1, hk2⟩ := hk8
  obtain ⟨ao, cc, rfl⟩ := h1.slice
  obtain ⟨at2, ct2, rfl⟩ := h2.slice
  unfold maxLen at m1 m2
  have H1 := Lib.hid h1
  have H2 := Lib.hid h2
  have HN1 := Lib.hid n1
  clear h1 h2 wf0 n1
  have hdrs : decide (60 < rs.length) = false := decide_eq_false (by omega)
  have hdrs2 : decide ((60 : Int) < (rs.length : Nat)) = false := decide_eq_false (by omega)
  have hdts : decide (60 < ts.length) = false := decide_eq_false (by omega)
  have hdts2 : decide ((60 : Int) < (ts.length : Nat)) = false := decide_eq_false (by omega)
  have hb1 : Below w.heap.size w (w.alloc (.cells #[.bool false] 4)) := below_alloc1 _ _
  have hx1 : Boxed (w.alloc (.cells #[.bool false] 4)) w.heap.size 4 (.bool false) := Boxed.new _ _ _
  refine (callsIn_wide (n := 9)).1 ?_
  refine callsIn_of_wp_marks Try.func4 rfl trivial ?_ rfl
  simp only [Try.ntmps4, List.size_toArray, List.length_cons, List.length_nil, Nat.reduceAdd, Nat.reduceSub, Array.replicate_succ, Array.replicate_zero, List.push_toArray, List.append_toArray, List.nil_append, List.cons_append]
  refine (wpIn_wide (n := 9)).2 ?_
  have hqp : ∀ (c : List PanicEntry) (a : Act) (w' : World) (d : Option Tmp) (v : Value), d ≠ some 6 → bodyPostM Fence.wide 9 Try.prog Try.f4 (fun e w' => e = .returned (.bool true) ∧ Below w.heap.size w w') (.panic c) (a.put d v) w' → bodyPostM Fence.wide 9 Try.prog Try.f4 (fun e w' => e = .returned (.bool true) ∧ Below w.heap.size w w') (.panic c) a w' := fun c a w' d v hd h => postM_put rfl c a w' d v hd h
  have HPAN := Lib.hid hqp
  clear hqp
  go_wp2_with fail
  refine (awake15_calls _).mono ?_
  rintro e w2 ⟨rfl, b2⟩
  have hB2 := hb1.trans (b2.mono hb1.size)
  have hx2 := boxed_below hx1 b2
  obtain ⟨R6, hR6⟩ : ∃ x, x = w.heap.size := ⟨_, rfl⟩
  have HR6 := Lib.hid hR6
  rw [← hR6] at hx2 ⊢
  clear hb1 hx1 b2 hR6
  go_wp2_with fail
  refine (DNew_calls (1 + a0 % 64) _ (by omega)).mono ?_
  rintro e w3 ⟨spa, mba, rfl, hs3, b3, hsp3, hmb3, hne3⟩
  have hB3 := hB2.trans (b3.mono hB2.size)
  have hx3 := boxed_below hx2 b3
  have hmaw : w.heap.size ≤ mba := Nat.le_trans hB2.size hmb3
  clear hB2 hx2
  go_wp2_with fail
  refine (DNew_calls (1 + a0 % 64) _ (by omega)).mono ?_
  rintro e w4 ⟨spb, mbb, rfl, hs4, b4, hsp4, hmb4, hne4⟩
  have hB4 := hB3.trans (b4.mono hB3.size)
  have hx4 := boxed_below hx3 b4
  have hs34 := hs3.below b4
  have hab : mba ≠ mbb := by have := hs3.map.lt; omega
  have hmbw : w.heap.size ≤ mbb := Nat.le_trans hB3.size hmb4
  clear hB3 hx3 hs3 b3 b4 hsp3 hne3 hsp4 hne4
  obtain ⟨kk, hkk⟩ : ∃ x, x = 1 + a0 % 64 := ⟨_, rfl⟩
  have hkb : 1 ≤ kk ∧ kk ≤ 64 := by omega
  rw [← hkk] at hs34 hs4 ⊢
  obtain ⟨b10, hb10⟩ : ∃ x, x = w4.heap.size := ⟨_, rfl⟩
  have hI0 : OrI w spa mba spb mbb R6 b10 kk [] [] (w4.alloc (.cells #[.pointer (some ⟨spb, 0, none⟩)] 24)) :=
    ⟨hs34.below (below_alloc1 _ _), hs4.below (below_alloc1 _ _), hx4.alloc _, by rw [hb10]; exact Boxed.new _ _ _, hB4.trans ((below_alloc1 w4 _).mono hB4.size)⟩
  have HI0 := Lib.hid hI0
  clear hI0 hs34 hs4 hx4 hB4 hkk hk1 hk2 hdrs hdts hmb3 hmb4
  obtain ⟨w5, hw5⟩ : ∃ z, z = w4.alloc (.cells #[.pointer (some ⟨spb, 0, none⟩)] 24) := ⟨_, rfl⟩
  go_upto_region 6 with (fail)
  rw [← hb10, ← hw5]
  rw [← hw5] at HI0
  have H15 := Lib.hid (H1.out.below HI0.out.bel)
  obtain ⟨mB, hmB⟩ : ∃ x, x = w5.heap.size := ⟨_, rfl⟩
  have HMB := Lib.hid hmB
  have hlts := HI0.out.lts
  rw [← hmB] at hlts
  clear hw5 hb10 hmB
  go_wp2_with (first | ((with_reducible show wpList _ _ _ (⟨some 56, _, _, _, _, _⟩ :: _) _ _); refine wpList_bs0D rfl 22 34 rfl Try.underlying22 _ 66 Try.infoRv2 ?_; intro g6 w6 e6 s6 b6 n6; have hO6 : ROwn Rv.cells 66 w6 mB 34 (.slice (some ⟨g6, 0, none⟩) 0 0) [] := empty_own n6 mB (by rw [e6, HMB.out]; exact Nat.le_refl _); have HI6 := Lib.hid (HI0.out.below b6); have H16 := Lib.hid (H15.out.below b6); have hz6 : mB ≤ w6.heap.size := (by rw [s6, e6, HMB.out]; omega); clear b6 n6 s6 e6 HI0 H15) | ((with_reducible show wpList _ _ _ (⟨some 58, _, _, _, _, _⟩ :: _) _ _); refine wpList_append_R rfl (.tmp 56) (.tmp 57) 22 rfl Rv.cells_len Rv.one mB 34 (.agg vz.cells.toArray) 80 Try.underlying22 Try.infoRv (vx_szv vz) (by omega) (by omega) _ [] rs (by rfl) hO6 _ (by rfl) H16.out (fun c hc => HN1.out _ c hc) (by simp; omega) hz6 ?_; intro mv w7 hO7 g7; rw [List.nil_append] at hO7; have HI7 := Lib.hid (HI6.out.row g7 (fun r e => by have := (hO6.lt r e).1; omega)); have HO7 := Lib.hid hO7; clear g7 HI6 hO7 hO6 H16))
  obtain ⟨mao, mc, rfl⟩ := HO7.out.slice
  go_loopw [13] (fun s13 wr => ∃ (k : Nat) (ms : List Rv), k ≤ ts.length ∧ s13 = .int .i64 k ∧ Hid (ms.Perm rs) ∧ Hid (ROwn Rv.cells 66 wr mB 34 (.slice mao rs.length mc) ms) ∧ Hid (OrI w spa mba spb mbb R6 b10 kk [] [] wr)) (fun s _ => ts.length - (intOf s).toNat)
  case atStart => exact ⟨0, rs, Nat.zero_le _, rfl, List.Perm.refl _, HO7, HI7⟩
  case round =>
    obtain ⟨k, ms, hk, rfl, HP, HO, HI⟩ := hrel
    clear HO7 HI7
    by_cases hlt : k < ts.length ∧ 0 < rs.length
    · obtain ⟨hlt, h0⟩ := hlt
      have hml : ms.length = rs.length := HP.out.length_eq
      obtain ⟨X, hX⟩ : ∃ X, X = k % rs.length := ⟨_, rfl⟩
      have hXn : X < rs.length := by rw [hX]; exact Nat.mod_lt _ h0
      have hxm : ((k : Nat) : Int) % (rs.length : Nat) = (X : Nat) := by rw [hX]; simp
      obtain ⟨tv, htv⟩ : ∃ tv, ts[k]? = some tv := ⟨_, List.getElem?_eq_getElem hlt⟩
      obtain ⟨Y, hY⟩ : ∃ Y, Y = tv.toNat % rs.length := ⟨_, rfl⟩
      have hYn : Y < rs.length := by rw [hY]; exact Nat.mod_lt _ h0
      have hym : ((tv.toNat : Nat) : Int) % (rs.length : Nat) = (Y : Nat) := by rw [hY]; simp
      obtain ⟨g2, o2, rfl, hr2⟩ := (H2.out.below HI.out.bel).range (size := 1) (fun _ => rfl) k tv htv
      have ht0 : wr.cell? ⟨g2, o2 + k, none⟩ = some (.int .u8 (tv.toNat : Int)) := by
        have := hr2 0 (bv tv) rfl
        rwa [Nat.mul_one, Nat.add_zero] at this
      obtain ⟨x, hx⟩ : ∃ x, ms[X]? = some x := ⟨_, List.getElem?_eq_getElem (by omega)⟩
      obtain ⟨y, hy⟩ : ∃ y, ms[Y]? = some y := ⟨_, List.getElem?_eq_getElem (by omega)⟩
      have HPS : Hid (((ms.set X y).set Y x).Perm rs) := (swap_perm ms X Y (by omega) (by omega) x y hx hy).trans HP.out
      obtain ⟨g, rfl⟩ := HO.out.addr (by omega)
      have HRX : Hid (∀ z, ROwn Rv.cells 66 z mB 34 (.slice (some ⟨g, 0, none⟩) rs.length mc) ms → z.rangeAt g (X * 66) x.cells) := fun z hz => by have := hz.at.range' Rv.cells_len X x hx; rwa [Nat.zero_add] at this
      have HRY : Hid (∀ z, ROwn Rv.cells 66 z mB 34 (.slice (some ⟨g, 0, none⟩) rs.length mc) ms → z.rangeAt g (Y * 66) y.cells) := fun z hz => by have := hz.at.range' Rv.cells_len Y y hy; rwa [Nat.zero_add] at this
      have HML := Lib.hid hml
      have HGB : Hid (mB ≤ g) := (HO.out.lt g rfl).1
      have htn := tv.toNat_lt
      clear hX hY hr2 htv hx hy hml
      have h0i : decide ((0 : Int) < (rs.length : Nat)) = true := decide_eq_true (by omega)
      go_upto_region 10 with (fail)
      refine wp_region_quiet_lit (by kernel_rfl) (by kernel_rfl) ?_
      repeat (first | go_big_quiet_skip | (go_big_quiet_want; go_big_quiet_op; go_big_quiet_on))
      refine wpQuiet_nil ?_
      rintro w8 ⟨nq, rfl⟩
      obtain ⟨w8, hw8⟩ : ∃ z, z = wr.drewN nq := ⟨_, rfl⟩
      have hb8 : Below wr.heap.size wr w8 := by rw [hw8]; exact below_drewN (Below.refl _ _) nq
      have HO8 : Hid (ROwn Rv.cells 66 w8 mB 34 (.slice (some ⟨g, 0, none⟩) rs.length mc) ms) := HO.out.below hb8
      have HI8 := Lib.hid (HI.out.below hb8)
      rw [← hw8, hxm, hym]
      clear hb8 hw8 ht0 HO HI HP hxm hym htn h0i
      go_wp2_with (first | ((with_reducible show wpList _ _ _ (⟨some 85, _, _, _, _, _⟩ :: _) _ _); have hrx := HRX.out _ HO8.out; refine wpList_load_mid rfl 34 (.tmp 84) rfl g (X * 66) (by rfl) x.cells _ hrx Try.underlying34 rfl (rv_sizeL x) ?_; clear hrx) | ((with_reducible show wpList _ _ _ (⟨some 16, _, _, _, _, _⟩ :: _) _ _); refine wpList_allocZ rfl 34 rfl _ Try.zeroRv ?_; intro wa sa ba na; clear sa) | ((with_reducible show wpList _ _ _ (⟨none, Op.store _ (.tmp 16) _, _, _, _, _⟩ :: _) _ _); refine wpList_storeBlk rfl 34 (.tmp 16) (.tmp 85) rfl w8.heap.size x.cells.toArray (by rfl) (by rfl) _ _ na (rv_sizeA x) (rv_hold x) (rv_all x) ?_; intro w9 n9 g9; have bb9 := below_new ba g9 (Nat.le_refl _) ba.size; have HO9 : Hid (ROwn Rv.cells 66 w9 mB 34 (.slice (some ⟨g, 0, none⟩) rs.length mc) ms) := HO8.out.below bb9; have HI9 := Lib.hid (HI8.out.below bb9); have HN9 := Lib.hid n9; have hg8 : g < w8.heap.size := (HO8.out.lt g rfl).2; clear ba na g9 bb9 n9 HO8 HI8) | ((with_reducible show wpList _ _ _ (⟨some 91, _, _, _, _, _⟩ :: _) _ _); have hry := HRY.out _ HO9.out; refine wpList_load_mid rfl 34 (.tmp 90) rfl g (Y * 66) (by rfl) y.cells _ hry Try.underlying34 rfl (rv_sizeL y) ?_; clear hry) | ((with_reducible show wpList _ _ _ (⟨none, Op.store _ (.tmp 92) _, _, _, _, _⟩ :: _) _ _); have hro := HO9.out; unfold ROwn at hro; rw [HML.out] at hro; refine wpList_storeOwn rfl 34 (.tmp 92) (.tmp 91) rfl mB 34 g rs.length mc X ms (by rfl) y (by rfl) hro (fun z _ => z.cells_len) HML.out hXn y.cells_len y.one (by omega) Try.sizeRv ?_; intro w10 hro10 g10; have HRO10 := Lib.hid hro10; have HI10 := Lib.hid (HI9.out.row g10 (fun r e => by cases e; have := HGB.out; omega)); have HN10 := Lib.hid (HN9.out.grown g10 (fun e => by cases e; omega)); clear hro hro10 g10 HO9 HI9 HN9) | ((with_reducible show wpList _ _ _ (⟨some 95, _, _, _, _, _⟩ :: _) _ _); refine wpList_load_mid rfl 34 (.tmp 16) rfl w8.heap.size 0 (by rfl) x.cells _ (blk_rangeP HN10.out) Try.underlying34 rfl (rv_sizeL x) ?_) | ((with_reducible show wpList _ _ _ (⟨none, Op.store _ (.tmp 96) _, _, _, _, _⟩ :: _) _ _); refine wpList_storeOwn rfl 34 (.tmp 96) (.tmp 95) rfl mB 34 g rs.length mc Y (ms.set X y) (by rfl) x (by rfl) HRO10.out (fun z _ => z.cells_len) (by rw [List.length_set]; exact HML.out) hYn x.cells_len x.one (by omega) Try.sizeRv ?_; intro w11 hro11 g11; have HI11 := Lib.hid (HI10.out.row g11 (fun r e => by cases e; have := HGB.out; omega)); have HO11 : Hid (ROwn Rv.cells 66 w11 mB 34 (.slice (some ⟨g, 0, none⟩) rs.length mc) ((ms.set X y).set Y x)) := (by show World.ownsRow _ _ _ _ _ _ _; rw [HPS.out.length_eq]; exact hro11); clear hro11 g11 HRO10 HI10 HN10))
      go_roundw
      case rel => exact ⟨k + 1, (ms.set X y).set Y x, by omega, by go_num, HPS, HO11, HI11⟩
      case measure => simp [intOf]; omega
    · have hst : ¬ k < ts.length ∨ (k < ts.length ∧ rs.length = 0) := by omega
      have HST : Hid (¬ k < ts.length ∨ k < ts.length ∧ rs.length = 0) := hst
      clear hst hlt
      rcases HST.out with hst | ⟨hst, hst0⟩
      all_goals
        clear HST
        try have hz0 : decide ((0 : Int) < (rs.length : Nat)) = false := decide_eq_false (by omega)
        go_wp2_with fail
        try clear hz0
        try clear hst0
        clear hst
        go_loopw [17] (fun s17 wr => ∃ (k : Nat) (La Lb : List Vx), k ≤ rs.length ∧ s17 = .int .i64 k ∧ La.length ≤ k ∧ Lb.length ≤ k ∧ Hid (AllIn kk (rs.take k) La) ∧ Hid (AllIn kk (ms.take k) Lb) ∧ Hid (ROwn Rv.cells 66 wr mB 34 (.slice mao rs.length mc) ms) ∧ Hid (OrI w spa mba spb mbb R6 b10 kk La Lb wr)) (fun s _ => rs.length - (intOf s).toNat)
        case atStart => exact ⟨0, [], [], Nat.zero_le _, rfl, Nat.le_refl _, Nat.le_refl _, AllIn.nil kk, AllIn.nil kk, HO, HI⟩
        case round =>
          clear HO HI
          obtain ⟨j, La, Lb, hj, rfl, hla, hlb, HA, HB, HO, HI⟩ := hrel
          by_cases hlt : j < rs.length
          · have hml : ms.length = rs.length := HP.out.length_eq
            obtain ⟨r, hr⟩ : ∃ r, rs[j]? = some r := ⟨_, List.getElem?_eq_getElem hlt⟩
            obtain ⟨q, hq⟩ : ∃ q, ms[j]? = some q := ⟨_, List.getElem?_eq_getElem (by omega)⟩
            obtain ⟨g1, o1, rfl, hrg⟩ := (H1.out.below HI.out.bel).range Rv.cells_len j r hr
            obtain ⟨g, rfl⟩ := HO.out.addr (by omega)
            have HTR : Hid (rs.take (j + 1) = rs.take j ++ [r]) := by show _ = _; rw [List.take_add_one, hr]; rfl
            have HTQ : Hid (ms.take (j + 1) = ms.take j ++ [q]) := by show _ = _; rw [List.take_add_one, hq]; rfl
            have HRI : Hid (r.id.length = 32) := r.hi
            have HRP : Hid (r.par.length = 32) := r.hp
            have HQI : Hid (q.id.length = 32) := q.hi
            have HQP : Hid (q.par.length = 32) := q.hp
            have HRQ : Hid (∀ z, ROwn Rv.cells 66 z mB 34 (.slice (some ⟨g, 0, none⟩) rs.length mc) ms → z.rangeAt g (j * 66) q.cells) := fun z hz => by have := hz.at.range' Rv.cells_len j q hq; rwa [Nat.zero_add] at this
            have HRJ : Hid (rs[j]? = some r) := hr
            clear hr hq hml hrg
            go_upto_region 17 with (fail)
            have HRR : Hid (∀ z, Below w.heap.size w z → z.rangeAt g1 (o1 + j * 66) r.cells) := fun z hz => (H1.out.below hz).range' Rv.cells_len j r HRJ.out
            have hbw := HI.out.bel
            refine wp_region_held_drew (S := fun x => Below w.heap.size w x) (by kernel_rfl) (below_drewN hbw 1) (fun hSq1 => ?_)
            refine wpAnyH_take (i := 0) (v := .pointer (some ⟨spa, 0, none⟩)) rfl (by kernel_rfl) (by kernel_rfl) (by kernel_rfl) (fun c a w h => HPAN.out c a w _ _ (by decide) h) (Or.inl ⟨by rfl, fun x hx => by go_simp⟩) hSq1 ?_
            simp only [Act.put, List.getElem_toArray, List.getElem_cons_zero, List.getElem_cons_succ, List.setIfInBounds_toArray, List.set_cons_zero, List.set_cons_succ]
            refine wpAnyH_take (i := 1) (v := .slice (some ⟨g1, o1, none⟩) rs.length cc) rfl (by kernel_rfl) (by kernel_rfl) (by kernel_rfl) (fun c a w h => HPAN.out c a w _ _ (by decide) h) (Or.inl ⟨by rfl, fun x hx => by go_simp⟩) hSq1 ?_
            simp only [Act.put, List.getElem_toArray, List.getElem_cons_zero, List.getElem_cons_succ, List.setIfInBounds_toArray, List.set_cons_zero, List.set_cons_succ]
            refine wpAnyH_take (i := 2) (v := .int .i64 (j : Nat)) rfl (by kernel_rfl) (by kernel_rfl) (by kernel_rfl) (fun c a w h => HPAN.out c a w _ _ (by decide) h) (Or.inl ⟨by rfl, fun x hx => by go_simp⟩) hSq1 ?_
            simp only [Act.put, List.getElem_toArray, List.getElem_cons_zero, List.getElem_cons_succ, List.setIfInBounds_toArray, List.set_cons_zero, List.set_cons_succ]
            refine wpAnyH_take (i := 3) (v := .pointer (some ⟨g1, o1 + j * 66, none⟩)) rfl (by kernel_rfl) (by kernel_rfl) (by kernel_rfl) (fun c a w h => HPAN.out c a w _ _ (by decide) h) (Or.inl ⟨by rfl, fun x hx => by go_simp⟩) hSq1 ?_
            simp only [Act.put, List.getElem_toArray, List.getElem_cons_zero, List.getElem_cons_succ, List.setIfInBounds_toArray, List.set_cons_zero, List.set_cons_succ]
            refine wpAnyH_take (i := 4) (v := .pointer (some ⟨g1, o1 + j * 66, none⟩)) rfl (by kernel_rfl) (by kernel_rfl) (by kernel_rfl) (fun c a w h => HPAN.out c a w _ _ (by decide) h) (Or.inl ⟨by rfl, fun x hx => by go_simp⟩) hSq1 ?_
            simp only [Act.put, List.getElem_toArray, List.getElem_cons_zero, List.getElem_cons_succ, List.setIfInBounds_toArray, List.set_cons_zero, List.set_cons_succ]
            refine wpAnyH_take (i := 5) rfl (by kernel_rfl) (by kernel_rfl) (by kernel_rfl) (fun c a w h => HPAN.out c a w _ _ (by decide) h) (yieldsIf_load_mid (by rfl) 32 (.tmp 108) rfl (g1) (o1 + j * 66) (by rfl) (r.id.map bv) _ (fun x hx => rv_id (HRR.out _ hx)) Try.underlying32 rfl (by rw [List.length_map, HRI.out]; exact Try.sizeHash)) hSq1 ?_
            simp only [Act.put, List.getElem_toArray, List.getElem_cons_zero, List.getElem_cons_succ, List.setIfInBounds_toArray, List.set_cons_zero, List.set_cons_succ]
            refine wpAnyH_take (i := 6) (v := .slice (some ⟨g1, o1, none⟩) rs.length cc) rfl (by kernel_rfl) (by kernel_rfl) (by kernel_rfl) (fun c a w h => HPAN.out c a w _ _ (by decide) h) (Or.inl ⟨by rfl, fun x hx => by go_simp⟩) hSq1 ?_
            simp only [Act.put, List.getElem_toArray, List.getElem_cons_zero, List.getElem_cons_succ, List.setIfInBounds_toArray, List.set_cons_zero, List.set_cons_succ]
            refine wpAnyH_take (i := 7) (v := .int .i64 (j : Nat)) rfl (by kernel_rfl) (by kernel_rfl) (by kernel_rfl) (fun c a w h => HPAN.out c a w _ _ (by decide) h) (Or.inl ⟨by rfl, fun x hx => by go_simp⟩) hSq1 ?_
            simp only [Act.put, List.getElem_toArray, List.getElem_cons_zero, List.getElem_cons_succ, List.setIfInBounds_toArray, List.set_cons_zero, List.set_cons_succ]
            refine wpAnyH_take (i := 8) (v := .pointer (some ⟨g1, o1 + j * 66, none⟩)) rfl (by kernel_rfl) (by kernel_rfl) (by kernel_rfl) (fun c a w h => HPAN.out c a w _ _ (by decide) h) (Or.inl ⟨by rfl, fun x hx => by go_simp⟩) hSq1 ?_
            simp only [Act.put, List.getElem_toArray, List.getElem_cons_zero, List.getElem_cons_succ, List.setIfInBounds_toArray, List.set_cons_zero, List.set_cons_succ]
            refine wpAnyH_take (i := 9) (v := .pointer (some ⟨g1, o1 + j * 66 + 32, none⟩)) rfl (by kernel_rfl) (by kernel_rfl) (by kernel_rfl) (fun c a w h => HPAN.out c a w _ _ (by decide) h) (Or.inl ⟨by rfl, fun x hx => by go_simp⟩) hSq1 ?_
            simp only [Act.put, List.getElem_toArray, List.getElem_cons_zero, List.getElem_cons_succ, List.setIfInBounds_toArray, List.set_cons_zero, List.set_cons_succ]
            refine wpAnyH_take (i := 10) rfl (by kernel_rfl) (by kernel_rfl) (by kernel_rfl) (fun c a w h => HPAN.out c a w _ _ (by decide) h) (yieldsIf_load_mid (by rfl) 32 (.tmp 113) rfl (g1) (o1 + j * 66 + 32) (by rfl) (r.par.map bv) _ (fun x hx => rv_par (HRR.out _ hx)) Try.underlying32 rfl (by rw [List.length_map, HRP.out]; exact Try.sizeHash)) hSq1 ?_
            simp only [Act.put, List.getElem_toArray, List.getElem_cons_zero, List.getElem_cons_succ, List.setIfInBounds_toArray, List.set_cons_zero, List.set_cons_succ]
            refine wpAnyH_take (i := 11) (v := .slice (some ⟨g1, o1, none⟩) rs.length cc) rfl (by kernel_rfl) (by kernel_rfl) (by kernel_rfl) (fun c a w h => HPAN.out c a w _ _ (by decide) h) (Or.inl ⟨by rfl, fun x hx => by go_simp⟩) hSq1 ?_
            simp only [Act.put, List.getElem_toArray, List.getElem_cons_zero, List.getElem_cons_succ, List.setIfInBounds_toArray, List.set_cons_zero, List.set_cons_succ]
            refine wpAnyH_take (i := 12) (v := .int .i64 (j : Nat)) rfl (by kernel_rfl) (by kernel_rfl) (by kernel_rfl) (fun c a w h => HPAN.out c a w _ _ (by decide) h) (Or.inl ⟨by rfl, fun x hx => by go_simp⟩) hSq1 ?_
            simp only [Act.put, List.getElem_toArray, List.getElem_cons_zero, List.getElem_cons_succ, List.setIfInBounds_toArray, List.set_cons_zero, List.set_cons_succ]
            refine wpAnyH_take (i := 13) (v := .pointer (some ⟨g1, o1 + j * 66, none⟩)) rfl (by kernel_rfl) (by kernel_rfl) (by kernel_rfl) (fun c a w h => HPAN.out c a w _ _ (by decide) h) (Or.inl ⟨by rfl, fun x hx => by go_simp⟩) hSq1 ?_
            simp only [Act.put, List.getElem_toArray, List.getElem_cons_zero, List.getElem_cons_succ, List.setIfInBounds_toArray, List.set_cons_zero, List.set_cons_succ]
            refine wpAnyH_take (i := 14) (v := .pointer (some ⟨g1, o1 + j * 66 + 64, none⟩)) rfl (by kernel_rfl) (by kernel_rfl) (by kernel_rfl) (fun c a w h => HPAN.out c a w _ _ (by decide) h) (Or.inl ⟨by rfl, fun x hx => by go_simp⟩) hSq1 ?_
            simp only [Act.put, List.getElem_toArray, List.getElem_cons_zero, List.getElem_cons_succ, List.setIfInBounds_toArray, List.set_cons_zero, List.set_cons_succ]
            refine wpAnyH_take (i := 15) (v := .int .i64 r.d) rfl (by kernel_rfl) (by kernel_rfl) (by kernel_rfl) (fun c a w h => HPAN.out c a w _ _ (by decide) h) (Or.inl ⟨by rfl, fun x hx => by have hc := rv_d (HRR.out _ hx); go_simp⟩) hSq1 ?_
            simp only [Act.put, List.getElem_toArray, List.getElem_cons_zero, List.getElem_cons_succ, List.setIfInBounds_toArray, List.set_cons_zero, List.set_cons_succ]
            refine wpAnyH_take (i := 16) (v := .slice (some ⟨g1, o1, none⟩) rs.length cc) rfl (by kernel_rfl) (by kernel_rfl) (by kernel_rfl) (fun c a w h => HPAN.out c a w _ _ (by decide) h) (Or.inl ⟨by rfl, fun x hx => by go_simp⟩) hSq1 ?_
            simp only [Act.put, List.getElem_toArray, List.getElem_cons_zero, List.getElem_cons_succ, List.setIfInBounds_toArray, List.set_cons_zero, List.set_cons_succ]
            refine wpAnyH_take (i := 17) (v := .int .i64 (j : Nat)) rfl (by kernel_rfl) (by kernel_rfl) (by kernel_rfl) (fun c a w h => HPAN.out c a w _ _ (by decide) h) (Or.inl ⟨by rfl, fun x hx => by go_simp⟩) hSq1 ?_
            simp only [Act.put, List.getElem_toArray, List.getElem_cons_zero, List.getElem_cons_succ, List.setIfInBounds_toArray, List.set_cons_zero, List.set_cons_succ]
            refine wpAnyH_take (i := 18) (v := .pointer (some ⟨g1, o1 + j * 66, none⟩)) rfl (by kernel_rfl) (by kernel_rfl) (by kernel_rfl) (fun c a w h => HPAN.out c a w _ _ (by decide) h) (Or.inl ⟨by rfl, fun x hx => by go_simp⟩) hSq1 ?_
            simp only [Act.put, List.getElem_toArray, List.getElem_cons_zero, List.getElem_cons_succ, List.setIfInBounds_toArray, List.set_cons_zero, List.set_cons_succ]
            refine wpAnyH_take (i := 19) (v := .pointer (some ⟨g1, o1 + j * 66 + 65, none⟩)) rfl (by kernel_rfl) (by kernel_rfl) (by kernel_rfl) (fun c a w h => HPAN.out c a w _ _ (by decide) h) (Or.inl ⟨by rfl, fun x hx => by go_simp⟩) hSq1 ?_
            simp only [Act.put, List.getElem_toArray, List.getElem_cons_zero, List.getElem_cons_succ, List.setIfInBounds_toArray, List.set_cons_zero, List.set_cons_succ]
            refine wpAnyH_take (i := 20) (v := .int .i64 r.x) rfl (by kernel_rfl) (by kernel_rfl) (by kernel_rfl) (fun c a w h => HPAN.out c a w _ _ (by decide) h) (Or.inl ⟨by rfl, fun x hx => by have hc := rv_x (HRR.out _ hx); go_simp⟩) hSq1 ?_
            simp only [Act.put, List.getElem_toArray, List.getElem_cons_zero, List.getElem_cons_succ, List.setIfInBounds_toArray, List.set_cons_zero, List.set_cons_succ]
            refine wpAnyH_take (i := 21) rfl (by kernel_rfl) (by kernel_rfl) (by kernel_rfl) (fun c a w h => HPAN.out c a w _ _ (by decide) h) (yieldsIf_build (by rfl) 35 #[(0, .tmp 109), (1, .tmp 114), (2, .tmp 119), (3, .tmp 124)] rfl r.cells.toArray (vx_built4 r)) hSq1 ?_
            simp only [Act.put, List.getElem_toArray, List.getElem_cons_zero, List.getElem_cons_succ, List.setIfInBounds_toArray, List.set_cons_zero, List.set_cons_succ]
            refine wpAnyH_ready (rs := [22]) (by kernel_rfl) (by simp) ?_
            refine AllReadyH.cons rfl (fun K hK => ?_) AllReadyH.nil
            go_simp
            go_wp2_with (go_at_call 7; refine (Insert_calls spa mba kk La r _ (HI.out.drew.stoa) (by omega) hkb).mono ?_; rintro e w8 ⟨gao1, gc1, rfl, hs8, g8⟩)
            have HI8 := Lib.hid (HI.out.drew.insA hs8 g8 hmaw hab)
            have HO8 : Hid (ROwn Rv.cells 66 w8 mB 34 (.slice (some ⟨g, 0, none⟩) rs.length mc) ms) := HO.out.drew.kept g8 (.inr fun e => by have := (HO.out.drew.lt _ e).1; omega)
            obtain ⟨E1, hE1⟩ : ∃ z, z = chkR kk La r := ⟨_, rfl⟩
            obtain ⟨G1, hG1⟩ : ∃ z, z = goneR kk La r := ⟨_, rfl⟩
            obtain ⟨La', hLo1⟩ : ∃ z, z = outR kk La r := ⟨_, rfl⟩
            have hla' : La'.length ≤ j + 1 := by rw [hLo1]; exact Nat.le_trans (outR_len kk La r) (by omega)
            have HAE : Hid (E1 = 0 → AllIn kk (rs.take (j + 1)) La') := fun h0 => by rw [HTR.out, hLo1]; exact HA.out.add hkb.1 (by rw [← hE1]; exact h0)
            rw [← hLo1] at HI8
            rw [← hE1, ← hG1]
            clear hs8 g8 hE1 hG1 hLo1
            refine hK.out _ _ HI8.out.bel (fun hSn17 => ?_)
            clear hK K hSq1
            refine wpAnyH_take (i := 23) (v := .tuple #[.slice gao1 G1 gc1, .int .i64 E1]) rfl (by kernel_rfl) (by kernel_rfl) (by kernel_rfl) (fun c a w h => HPAN.out c a w _ _ (by decide) h) (Or.inl ⟨by rfl, fun x hx => by go_simp⟩) hSn17 ?_
            simp only [Act.put, List.getElem_toArray, List.getElem_cons_zero, List.getElem_cons_succ, List.setIfInBounds_toArray, List.set_cons_zero, List.set_cons_succ]
            refine wpAnyH_take (i := 24) (v := .slice gao1 G1 gc1) rfl (by kernel_rfl) (by kernel_rfl) (by kernel_rfl) (fun c a w h => HPAN.out c a w _ _ (by decide) h) (Or.inl ⟨by rfl, fun x hx => by go_simp⟩) hSn17 ?_
            simp only [Act.put, List.getElem_toArray, List.getElem_cons_zero, List.getElem_cons_succ, List.setIfInBounds_toArray, List.set_cons_zero, List.set_cons_succ]
            refine wpAnyH_take (i := 25) (v := .int .i64 E1) rfl (by kernel_rfl) (by kernel_rfl) (by kernel_rfl) (fun c a w h => HPAN.out c a w _ _ (by decide) h) (Or.inl ⟨by rfl, fun x hx => by go_simp⟩) hSn17 ?_
            simp only [Act.put, List.getElem_toArray, List.getElem_cons_zero, List.getElem_cons_succ, List.setIfInBounds_toArray, List.set_cons_zero, List.set_cons_succ]
            refine wpAnyH_ready (rs := [26]) (by kernel_rfl) (by simp) ?_
            refine AllReadyH.cons rfl (fun K hK => ?_) AllReadyH.nil
            go_simp
            refine hK.out _ _ hSn17 (fun hSq2 => ?_)
            clear hK K hSn17
            refine wpAnyH_ready (rs := [27]) (by kernel_rfl) (by simp) ?_
            refine AllReadyH.cons rfl (fun K hK => ?_) AllReadyH.nil
            go_simp
            refine hK.out _ _ hSq2 (fun hSq3 => ?_)
            clear hK K hSq2
            refine wpAnyH_done (by kernel_rfl) ?_ _
            clear hSq3
            have hrow8 := HO8.out
            have hpq : Blk w8 b10 #[.pointer (some ⟨spb, 0, none⟩)] 24 := HI8.out.box
            go_upto_region 18 with (fail)
            refine wp_region_held_drew (S := fun x => Blk x (b10) #[.pointer (some ⟨spb, 0, none⟩)] 24 ∧ ROwn Rv.cells 66 x mB 34 (.slice (some ⟨g, 0, none⟩) rs.length mc) ms ∧ Below w.heap.size w x) (by kernel_rfl) ⟨hpq.drew, hrow8.below (below_drewN (Below.refl _ _) 1), below_drewN HI8.out.bel 1⟩ (fun hSq4 => ?_)
            refine wpAnyH_take (i := 0) (v := .pointer (some ⟨spb, 0, none⟩)) rfl (by kernel_rfl) (by kernel_rfl) (by kernel_rfl) (fun c a w h => HPAN.out c a w _ _ (by decide) h) (Or.inl ⟨by rfl, fun x hx => by have hc := blk_cell0 hx.1; go_simp⟩) hSq4 ?_
            simp only [Act.put, List.getElem_toArray, List.getElem_cons_zero, List.getElem_cons_succ, List.setIfInBounds_toArray, List.set_cons_zero, List.set_cons_succ]
            refine wpAnyH_take (i := 1) (v := .slice (some ⟨g, 0, none⟩) rs.length mc) rfl (by kernel_rfl) (by kernel_rfl) (by kernel_rfl) (fun c a w h => HPAN.out c a w _ _ (by decide) h) (Or.inl ⟨by rfl, fun x hx => by go_simp⟩) hSq4 ?_
            simp only [Act.put, List.getElem_toArray, List.getElem_cons_zero, List.getElem_cons_succ, List.setIfInBounds_toArray, List.set_cons_zero, List.set_cons_succ]
            refine wpAnyH_take (i := 2) (v := .int .i64 (j : Nat)) rfl (by kernel_rfl) (by kernel_rfl) (by kernel_rfl) (fun c a w h => HPAN.out c a w _ _ (by decide) h) (Or.inl ⟨by rfl, fun x hx => by go_simp⟩) hSq4 ?_
            simp only [Act.put, List.getElem_toArray, List.getElem_cons_zero, List.getElem_cons_succ, List.setIfInBounds_toArray, List.set_cons_zero, List.set_cons_succ]
            refine wpAnyH_take (i := 3) (v := .pointer (some ⟨g, j * 66, none⟩)) rfl (by kernel_rfl) (by kernel_rfl) (by kernel_rfl) (fun c a w h => HPAN.out c a w _ _ (by decide) h) (Or.inl ⟨by rfl, fun x hx => by go_simp⟩) hSq4 ?_
            simp only [Act.put, List.getElem_toArray, List.getElem_cons_zero, List.getElem_cons_succ, List.setIfInBounds_toArray, List.set_cons_zero, List.set_cons_succ]
            refine wpAnyH_take (i := 4) (v := .pointer (some ⟨g, j * 66, none⟩)) rfl (by kernel_rfl) (by kernel_rfl) (by kernel_rfl) (fun c a w h => HPAN.out c a w _ _ (by decide) h) (Or.inl ⟨by rfl, fun x hx => by go_simp⟩) hSq4 ?_
            simp only [Act.put, List.getElem_toArray, List.getElem_cons_zero, List.getElem_cons_succ, List.setIfInBounds_toArray, List.set_cons_zero, List.set_cons_succ]
            refine wpAnyH_take (i := 5) rfl (by kernel_rfl) (by kernel_rfl) (by kernel_rfl) (fun c a w h => HPAN.out c a w _ _ (by decide) h) (yieldsIf_load_mid (by rfl) 32 (.tmp 134) rfl (g) (j * 66) (by rfl) (q.id.map bv) _ (fun x hx => rv_id (HRQ.out _ hx.2.1)) Try.underlying32 rfl (by rw [List.length_map, HQI.out]; exact Try.sizeHash)) hSq4 ?_
            simp only [Act.put, List.getElem_toArray, List.getElem_cons_zero, List.getElem_cons_succ, List.setIfInBounds_toArray, List.set_cons_zero, List.set_cons_succ]
            refine wpAnyH_take (i := 6) (v := .slice (some ⟨g, 0, none⟩) rs.length mc) rfl (by kernel_rfl) (by kernel_rfl) (by kernel_rfl) (fun c a w h => HPAN.out c a w _ _ (by decide) h) (Or.inl ⟨by rfl, fun x hx => by go_simp⟩) hSq4 ?_
            simp only [Act.put, List.getElem_toArray, List.getElem_cons_zero, List.getElem_cons_succ, List.setIfInBounds_toArray, List.set_cons_zero, List.set_cons_succ]
            refine wpAnyH_take (i := 7) (v := .int .i64 (j : Nat)) rfl (by kernel_rfl) (by kernel_rfl) (by kernel_rfl) (fun c a w h => HPAN.out c a w _ _ (by decide) h) (Or.inl ⟨by rfl, fun x hx => by go_simp⟩) hSq4 ?_
            simp only [Act.put, List.getElem_toArray, List.getElem_cons_zero, List.getElem_cons_succ, List.setIfInBounds_toArray, List.set_cons_zero, List.set_cons_succ]
            refine wpAnyH_take (i := 8) (v := .pointer (some ⟨g, j * 66, none⟩)) rfl (by kernel_rfl) (by kernel_rfl) (by kernel_rfl) (fun c a w h => HPAN.out c a w _ _ (by decide) h) (Or.inl ⟨by rfl, fun x hx => by go_simp⟩) hSq4 ?_
            simp only [Act.put, List.getElem_toArray, List.getElem_cons_zero, List.getElem_cons_succ, List.setIfInBounds_toArray, List.set_cons_zero, List.set_cons_succ]
            refine wpAnyH_take (i := 9) (v := .pointer (some ⟨g, j * 66 + 32, none⟩)) rfl (by kernel_rfl) (by kernel_rfl) (by kernel_rfl) (fun c a w h => HPAN.out c a w _ _ (by decide) h) (Or.inl ⟨by rfl, fun x hx => by go_simp⟩) hSq4 ?_
            simp only [Act.put, List.getElem_toArray, List.getElem_cons_zero, List.getElem_cons_succ, List.setIfInBounds_toArray, List.set_cons_zero, List.set_cons_succ]
            refine wpAnyH_take (i := 10) rfl (by kernel_rfl) (by kernel_rfl) (by kernel_rfl) (fun c a w h => HPAN.out c a w _ _ (by decide) h) (yieldsIf_load_mid (by rfl) 32 (.tmp 139) rfl (g) (j * 66 + 32) (by rfl) (q.par.map bv) _ (fun x hx => rv_par (HRQ.out _ hx.2.1)) Try.underlying32 rfl (by rw [List.length_map, HQP.out]; exact Try.sizeHash)) hSq4 ?_
            simp only [Act.put, List.getElem_toArray, List.getElem_cons_zero, List.getElem_cons_succ, List.setIfInBounds_toArray, List.set_cons_zero, List.set_cons_succ]
            refine wpAnyH_take (i := 11) (v := .slice (some ⟨g, 0, none⟩) rs.length mc) rfl (by kernel_rfl) (by kernel_rfl) (by kernel_rfl) (fun c a w h => HPAN.out c a w _ _ (by decide) h) (Or.inl ⟨by rfl, fun x hx => by go_simp⟩) hSq4 ?_
            simp only [Act.put, List.getElem_toArray, List.getElem_cons_zero, List.getElem_cons_succ, List.setIfInBounds_toArray, List.set_cons_zero, List.set_cons_succ]
            refine wpAnyH_take (i := 12) (v := .int .i64 (j : Nat)) rfl (by kernel_rfl) (by kernel_rfl) (by kernel_rfl) (fun c a w h => HPAN.out c a w _ _ (by decide) h) (Or.inl ⟨by rfl, fun x hx => by go_simp⟩) hSq4 ?_
            simp only [Act.put, List.getElem_toArray, List.getElem_cons_zero, List.getElem_cons_succ, List.setIfInBounds_toArray, List.set_cons_zero, List.set_cons_succ]
            refine wpAnyH_take (i := 13) (v := .pointer (some ⟨g, j * 66, none⟩)) rfl (by kernel_rfl) (by kernel_rfl) (by kernel_rfl) (fun c a w h => HPAN.out c a w _ _ (by decide) h) (Or.inl ⟨by rfl, fun x hx => by go_simp⟩) hSq4 ?_
            simp only [Act.put, List.getElem_toArray, List.getElem_cons_zero, List.getElem_cons_succ, List.setIfInBounds_toArray, List.set_cons_zero, List.set_cons_succ]
            refine wpAnyH_take (i := 14) (v := .pointer (some ⟨g, j * 66 + 64, none⟩)) rfl (by kernel_rfl) (by kernel_rfl) (by kernel_rfl) (fun c a w h => HPAN.out c a w _ _ (by decide) h) (Or.inl ⟨by rfl, fun x hx => by go_simp⟩) hSq4 ?_
            simp only [Act.put, List.getElem_toArray, List.getElem_cons_zero, List.getElem_cons_succ, List.setIfInBounds_toArray, List.set_cons_zero, List.set_cons_succ]
            refine wpAnyH_take (i := 15) (v := .int .i64 q.d) rfl (by kernel_rfl) (by kernel_rfl) (by kernel_rfl) (fun c a w h => HPAN.out c a w _ _ (by decide) h) (Or.inl ⟨by rfl, fun x hx => by have hc := rv_d (HRQ.out _ hx.2.1); go_simp⟩) hSq4 ?_
            simp only [Act.put, List.getElem_toArray, List.getElem_cons_zero, List.getElem_cons_succ, List.setIfInBounds_toArray, List.set_cons_zero, List.set_cons_succ]
            refine wpAnyH_take (i := 16) (v := .slice (some ⟨g, 0, none⟩) rs.length mc) rfl (by kernel_rfl) (by kernel_rfl) (by kernel_rfl) (fun c a w h => HPAN.out c a w _ _ (by decide) h) (Or.inl ⟨by rfl, fun x hx => by go_simp⟩) hSq4 ?_
            simp only [Act.put, List.getElem_toArray, List.getElem_cons_zero, List.getElem_cons_succ, List.setIfInBounds_toArray, List.set_cons_zero, List.set_cons_succ]
            refine wpAnyH_take (i := 17) (v := .int .i64 (j : Nat)) rfl (by kernel_rfl) (by kernel_rfl) (by kernel_rfl) (fun c a w h => HPAN.out c a w _ _ (by decide) h) (Or.inl ⟨by rfl, fun x hx => by go_simp⟩) hSq4 ?_
            simp only [Act.put, List.getElem_toArray, List.getElem_cons_zero, List.getElem_cons_succ, List.setIfInBounds_toArray, List.set_cons_zero, List.set_cons_succ]
            refine wpAnyH_take (i := 18) (v := .pointer (some ⟨g, j * 66, none⟩)) rfl (by kernel_rfl) (by kernel_rfl) (by kernel_rfl) (fun c a w h => HPAN.out c a w _ _ (by decide) h) (Or.inl ⟨by rfl, fun x hx => by go_simp⟩) hSq4 ?_
            simp only [Act.put, List.getElem_toArray, List.getElem_cons_zero, List.getElem_cons_succ, List.setIfInBounds_toArray, List.set_cons_zero, List.set_cons_succ]
            refine wpAnyH_take (i := 19) (v := .pointer (some ⟨g, j * 66 + 65, none⟩)) rfl (by kernel_rfl) (by kernel_rfl) (by kernel_rfl) (fun c a w h => HPAN.out c a w _ _ (by decide) h) (Or.inl ⟨by rfl, fun x hx => by go_simp⟩) hSq4 ?_
            simp only [Act.put, List.getElem_toArray, List.getElem_cons_zero, List.getElem_cons_succ, List.setIfInBounds_toArray, List.set_cons_zero, List.set_cons_succ]
            refine wpAnyH_take (i := 20) (v := .int .i64 q.x) rfl (by kernel_rfl) (by kernel_rfl) (by kernel_rfl) (fun c a w h => HPAN.out c a w _ _ (by decide) h) (Or.inl ⟨by rfl, fun x hx => by have hc := rv_x (HRQ.out _ hx.2.1); go_simp⟩) hSq4 ?_
            simp only [Act.put, List.getElem_toArray, List.getElem_cons_zero, List.getElem_cons_succ, List.setIfInBounds_toArray, List.set_cons_zero, List.set_cons_succ]
            refine wpAnyH_take (i := 21) rfl (by kernel_rfl) (by kernel_rfl) (by kernel_rfl) (fun c a w h => HPAN.out c a w _ _ (by decide) h) (yieldsIf_build (by rfl) 35 #[(0, .tmp 135), (1, .tmp 140), (2, .tmp 145), (3, .tmp 150)] rfl q.cells.toArray (vx_built4 q)) hSq4 ?_
            simp only [Act.put, List.getElem_toArray, List.getElem_cons_zero, List.getElem_cons_succ, List.setIfInBounds_toArray, List.set_cons_zero, List.set_cons_succ]
            refine wpAnyH_ready (rs := [22]) (by kernel_rfl) (by simp) ?_
            refine AllReadyH.cons rfl (fun K hK => ?_) AllReadyH.nil
            go_simp
            go_wp2_with (go_at_call 7; refine (Insert_calls spb mbb kk Lb q _ (HI8.out.drew.stob) (by omega) hkb).mono ?_; rintro e w9 ⟨gao2, gc2, rfl, hs9, g9⟩)
            have HI9 := Lib.hid (HI8.out.drew.insB hs9 g9 hmbw hab)
            have HO9 : Hid (ROwn Rv.cells 66 w9 mB 34 (.slice (some ⟨g, 0, none⟩) rs.length mc) ms) := HO8.out.drew.kept g9 (.inr fun e => by have := (HO8.out.drew.lt _ e).1; omega)
            obtain ⟨E2, hE2⟩ : ∃ z, z = chkR kk Lb q := ⟨_, rfl⟩
            obtain ⟨G2, hG2⟩ : ∃ z, z = goneR kk Lb q := ⟨_, rfl⟩
            obtain ⟨Lb', hLo2⟩ : ∃ z, z = outR kk Lb q := ⟨_, rfl⟩
            have hlb' : Lb'.length ≤ j + 1 := by rw [hLo2]; exact Nat.le_trans (outR_len kk Lb q) (by omega)
            have HBE : Hid (E2 = 0 → AllIn kk (ms.take (j + 1)) Lb') := fun h0 => by rw [HTQ.out, hLo2]; exact HB.out.add hkb.1 (by rw [← hE2]; exact h0)
            rw [← hLo2] at HI9
            rw [← hE2, ← hG2]
            clear hs9 g9 hE2 hG2 hLo2
            refine hK.out _ _ ⟨HI9.out.box, HO9.out, HI9.out.bel⟩ (fun hSn18 => ?_)
            clear hK K hSq4
            refine wpAnyH_take (i := 23) (v := .tuple #[.slice gao2 G2 gc2, .int .i64 E2]) rfl (by kernel_rfl) (by kernel_rfl) (by kernel_rfl) (fun c a w h => HPAN.out c a w _ _ (by decide) h) (Or.inl ⟨by rfl, fun x hx => by go_simp⟩) hSn18 ?_
            simp only [Act.put, List.getElem_toArray, List.getElem_cons_zero, List.getElem_cons_succ, List.setIfInBounds_toArray, List.set_cons_zero, List.set_cons_succ]
            refine wpAnyH_take (i := 24) (v := .slice gao2 G2 gc2) rfl (by kernel_rfl) (by kernel_rfl) (by kernel_rfl) (fun c a w h => HPAN.out c a w _ _ (by decide) h) (Or.inl ⟨by rfl, fun x hx => by go_simp⟩) hSn18 ?_
            simp only [Act.put, List.getElem_toArray, List.getElem_cons_zero, List.getElem_cons_succ, List.setIfInBounds_toArray, List.set_cons_zero, List.set_cons_succ]
            refine wpAnyH_take (i := 25) (v := .int .i64 E2) rfl (by kernel_rfl) (by kernel_rfl) (by kernel_rfl) (fun c a w h => HPAN.out c a w _ _ (by decide) h) (Or.inl ⟨by rfl, fun x hx => by go_simp⟩) hSn18 ?_
            simp only [Act.put, List.getElem_toArray, List.getElem_cons_zero, List.getElem_cons_succ, List.setIfInBounds_toArray, List.set_cons_zero, List.set_cons_succ]
            refine wpAnyH_ready (rs := [26]) (by kernel_rfl) (by simp) ?_
            refine AllReadyH.cons rfl (fun K hK => ?_) AllReadyH.nil
            go_simp
            refine hK.out _ _ hSn18 (fun hSq5 => ?_)
            clear hK K hSn18
            refine wpAnyH_ready (rs := [27]) (by kernel_rfl) (by simp) ?_
            refine AllReadyH.cons rfl (fun K hK => ?_) AllReadyH.nil
            go_simp
            refine hK.out _ _ hSq5 (fun hSq6 => ?_)
            clear hK K hSq5
            refine wpAnyH_done (by kernel_rfl) ?_ _
            clear hSq6
            have hc6 := HI9.out.res.cell
            have hf6 := HI9.out.res.frozen
            have hcase : (E1 = 0 ∧ E2 = 0) ∨ ((E1 != 0) = true ∧ (E1 == 0) = false ∧ decide (E1 = 0) = false) ∨ ((E1 != 0) = false ∧ (E1 == 0) = true ∧ decide (E1 = 0) = true ∧ (E2 != 0) = true ∧ (E2 == 0) = false ∧ decide (E2 = 0) = false) := by
              by_cases h1 : E1 = 0
              · by_cases h2 : E2 = 0
                · exact .inl ⟨h1, h2⟩
                · exact .inr (.inr ⟨by simp [h1], by simp [h1], by simp [h1], by simp [h2], by simp [h2], by simp [h2]⟩)
              · exact .inr (.inl ⟨by simp [h1], by simp [h1], by simp [h1]⟩)
            rcases hcase with ⟨rfl, rfl⟩ | ⟨f1, f2, f3⟩ | ⟨f1, f2, f3, f4, f5, f6⟩
            · have HA' := Lib.hid (HAE.out rfl)
              have HB' := Lib.hid (HBE.out rfl)
              clear HAE HBE hc6 hf6
              go_wp2_with fail
              go_roundw
              case rel => exact ⟨j + 1, La', Lb', by omega, by go_num, hla', hlb', HA', HB', HO9, HI9⟩
              case measure => simp [intOf]; omega
            all_goals
              go_wp2_with fail
              obtain ⟨-, hfin⟩ := HI9.out.done (Nat.le_of_eq HR6.out.symm) (Ds := []) (fun _ h => by cases h) (fun _ h => by cases h)
              exact leaves_marks [] _ (fun _ h => by cases h) List.nodup_nil (fun w' hw' => ⟨.bool true, results_cell1 rfl (by rfl) (hfin w' hw').1 Try.underlying4 rfl, rfl, (hfin w' hw').2⟩)
          · have hjn : j = rs.length := by omega
            subst hjn
            have hmlen : ms.length = rs.length := HP.out.length_eq
            have hall := HA.out
            rw [List.take_of_length_le (Nat.le_refl _)] at hall
            have hblb := HB.out
            rw [List.take_of_length_le (Nat.le_of_eq hmlen)] at hblb
            have HME : Hid (∀ u, u ∈ La ↔ u ∈ Lb) := hall.same hblb HP.out
            have HNA := Lib.hid HI.out.stoa.nodup
            have HNB := Lib.hid HI.out.stob.nodup
            have hll := same_len HNA.out HNB.out HME.out
            obtain ⟨n, hn⟩ : ∃ n, n = La.length := ⟨_, rfl⟩
            have HLA := Lib.hid hn
            have HLB : Hid (n = Lb.length) := hn.trans hll
            clear hmlen hall hblb HA HB HP HO hll hn
            go_wp2_with fail
            refine (HeadO_calls spa mba kk La _ HI.out.stoa (by omega)).mono ?_
            rintro e w6 ⟨v, c, rfl, hhA, b6⟩
            have HI6 := Lib.hid (HI.out.below b6)
            have HHA := Lib.hid hhA
            clear b6 hhA HI
            go_wp2_with (first | ((with_reducible show wpList _ _ _ (⟨some 22, _, _, _, _, _⟩ :: _) _ _); refine wpList_allocZ rfl 35 rfl _ Try.zeroVx ?_; intro wa sa ba na; clear sa) | ((with_reducible show wpList _ _ _ (⟨none, Op.store _ (.tmp 22) _, _, _, _, _⟩ :: _) _ _); refine wpList_storeBlk rfl 35 (.tmp 22) (.tmp 164) rfl w6.heap.size v.cells.toArray (by rfl) (by rfl) _ _ na (vx_sizeA v) (vx_hold _ _) (vx_all v) ?_; intro w7 n7 g7; have bb7 := below_new ba g7 (Nat.le_refl _) ba.size; have HI7 := Lib.hid (HI6.out.below bb7); have HN7 := Lib.hid n7; have hc10 := HI7.out.box.cell; clear ba na g7 n7 HI6 bb7) | ((with_reducible show wpList _ _ _ (⟨some 167, _, _, _, _, _⟩ :: _) _ _); refine wpList_load1 rfl 24 (.tmp 10) rfl (b10) 0 (by rfl) _ _ (hc10) Try.underlying24 rfl ?_))
            refine (HeadO_calls spb mbb kk Lb _ HI7.out.stob (by omega)).mono ?_
            rintro e w8 ⟨v', c', rfl, hhB, b8⟩
            obtain ⟨e1, e2⟩ := HHA.out.same HNA.out HME.out hhB
            subst e1 e2
            have HI8 := Lib.hid (HI7.out.below b8)
            have HN8 := Lib.hid (HN7.out.below b8 HN7.out.lt)
            obtain ⟨b22, hb22⟩ : ∃ z, z = w6.heap.size := ⟨_, rfl⟩
            rw [← hb22] at HN8 ⊢
            clear hhB b8 HI7 HN7 hc10 HHA hb22
            go_upto_region 23 with (first | ((with_reducible show wpList _ _ _ (⟨some 24, _, _, _, _, _⟩ :: _) _ _); refine wpList_allocZ rfl 35 rfl _ Try.zeroVx ?_; intro wa sa ba na; clear sa) | ((with_reducible show wpList _ _ _ (⟨none, Op.store _ (.tmp 24) _, _, _, _, _⟩ :: _) _ _); refine wpList_storeBlk rfl 35 (.tmp 24) (.tmp 169) rfl w8.heap.size v.cells.toArray (by rfl) (by rfl) _ _ na (vx_sizeA v) (vx_hold _ _) (vx_all v) ?_; intro w9 n9 g9; have bb9 := below_new ba g9 (Nat.le_refl _) ba.size; have HI9 := Lib.hid (HI8.out.below bb9); have HN9 := Lib.hid (HN8.out.below bb9 HN8.out.lt); have HM9 := Lib.hid n9; clear ba na g9 n9 HI8 HN8 bb9))
            have hi9 := HI9.out
            have hn9 := HN9.out
            obtain ⟨b24, hb24⟩ : ∃ z, z = w8.heap.size := ⟨_, rfl⟩
            rw [← hb24] at HM9 ⊢
            have hm9 := HM9.out
            clear hb24 HI9 HN9 HM9
            have hqe : ∀ z, (Op.equalIn 10000 35 (.agg v.cells.toArray) (.agg v.cells.toArray)).run Try.prog z = .ok true z := fun z => run_eq_vx v z
            have cLa : Hid (∀ z, StoreIs z spa mba kk La → Calls Try.prog 11 #[.pointer (some ⟨spa, 0, none⟩)] z fun e w' => e = .returned (.int .i64 (n : Nat)) ∧ Below z.heap.size z w') := fun z hz => DLenB_calls spa mba kk La n HLA.out z hz
            have cLb : Hid (∀ z, StoreIs z spb mbb kk Lb → Calls Try.prog 11 #[.pointer (some ⟨spb, 0, none⟩)] z fun e w' => e = .returned (.int .i64 (n : Nat)) ∧ Below z.heap.size z w') := fun z hz => DLenB_calls spb mbb kk Lb n HLB.out z hz
            refine wp_region_held_drew (S := fun x => Blk x (b22) v.cells.toArray 35 ∧ Blk x (b24) v.cells.toArray 35 ∧ OrI w spa mba spb mbb R6 b10 kk La Lb x ∧ Below w.heap.size w x) (by kernel_rfl) ⟨hn9.drew, hm9.drew, hi9.below (below_drewN (Below.refl _ _) 1), below_drewN hi9.bel 1⟩ (fun hSq7 => ?_)
            refine wpAnyH_take (i := 0) rfl (by kernel_rfl) (by kernel_rfl) (by kernel_rfl) (fun c a w h => HPAN.out c a w _ _ (by decide) h) (yieldsIf_load_mid (by rfl) 35 (.tmp 22) rfl (b22) 0 (by rfl) (v.cells) _ (fun x hx => blk_rangeP hx.1) Try.underlying35 rfl (vx_size v)) hSq7 ?_
            simp only [Act.put, List.getElem_toArray, List.getElem_cons_zero, List.getElem_cons_succ, List.setIfInBounds_toArray, List.set_cons_zero, List.set_cons_succ]
            refine wpAnyH_take (i := 1) rfl (by kernel_rfl) (by kernel_rfl) (by kernel_rfl) (fun c a w h => HPAN.out c a w _ _ (by decide) h) (yieldsIf_load_mid (by rfl) 35 (.tmp 24) rfl (b24) 0 (by rfl) (v.cells) _ (fun x hx => blk_rangeP hx.2.1) Try.underlying35 rfl (vx_size v)) hSq7 ?_
            simp only [Act.put, List.getElem_toArray, List.getElem_cons_zero, List.getElem_cons_succ, List.setIfInBounds_toArray, List.set_cons_zero, List.set_cons_succ]
            refine wpAnyH_take (i := 2) (v := .bool false) rfl (by kernel_rfl) (by kernel_rfl) (by kernel_rfl) (fun c a w h => HPAN.out c a w _ _ (by decide) h) (Or.inl ⟨by rfl, fun x hx => by go_simp⟩) hSq7 ?_
            simp only [Act.put, List.getElem_toArray, List.getElem_cons_zero, List.getElem_cons_succ, List.setIfInBounds_toArray, List.set_cons_zero, List.set_cons_succ]
            refine wpAnyH_take (i := 3) (v := .bool false) rfl (by kernel_rfl) (by kernel_rfl) (by kernel_rfl) (fun c a w h => HPAN.out c a w _ _ (by decide) h) (Or.inl ⟨by rfl, fun x hx => by go_simp⟩) hSq7 ?_
            simp only [Act.put, List.getElem_toArray, List.getElem_cons_zero, List.getElem_cons_succ, List.setIfInBounds_toArray, List.set_cons_zero, List.set_cons_succ]
            refine wpAnyH_take (i := 4) (v := .bool c) rfl (by kernel_rfl) (by kernel_rfl) (by kernel_rfl) (fun c a w h => HPAN.out c a w _ _ (by decide) h) (Or.inl ⟨by rfl, fun x hx => by go_simp⟩) hSq7 ?_
            simp only [Act.put, List.getElem_toArray, List.getElem_cons_zero, List.getElem_cons_succ, List.setIfInBounds_toArray, List.set_cons_zero, List.set_cons_succ]
            refine wpAnyH_take (i := 5) (v := .bool c) rfl (by kernel_rfl) (by kernel_rfl) (by kernel_rfl) (fun c a w h => HPAN.out c a w _ _ (by decide) h) (Or.inl ⟨by rfl, fun x hx => by go_simp⟩) hSq7 ?_
            simp only [Act.put, List.getElem_toArray, List.getElem_cons_zero, List.getElem_cons_succ, List.setIfInBounds_toArray, List.set_cons_zero, List.set_cons_succ]
            refine wpAnyH_take (i := 6) (v := .bool false) rfl (by kernel_rfl) (by kernel_rfl) (by kernel_rfl) (fun c a w h => HPAN.out c a w _ _ (by decide) h) (Or.inl ⟨by rfl, fun x hx => by go_simp⟩) hSq7 ?_
            simp only [Act.put, List.getElem_toArray, List.getElem_cons_zero, List.getElem_cons_succ, List.setIfInBounds_toArray, List.set_cons_zero, List.set_cons_succ]
            refine wpAnyH_take (i := 7) (v := .bool false) rfl (by kernel_rfl) (by kernel_rfl) (by kernel_rfl) (fun c a w h => HPAN.out c a w _ _ (by decide) h) (Or.inl ⟨by rfl, fun x hx => by go_simp⟩) hSq7 ?_
            simp only [Act.put, List.getElem_toArray, List.getElem_cons_zero, List.getElem_cons_succ, List.setIfInBounds_toArray, List.set_cons_zero, List.set_cons_succ]
            refine wpAnyH_take (i := 8) (v := .bool false) rfl (by kernel_rfl) (by kernel_rfl) (by kernel_rfl) (fun c a w h => HPAN.out c a w _ _ (by decide) h) (Or.inl ⟨by rfl, fun x hx => by go_simp⟩) hSq7 ?_
            simp only [Act.put, List.getElem_toArray, List.getElem_cons_zero, List.getElem_cons_succ, List.setIfInBounds_toArray, List.set_cons_zero, List.set_cons_succ]
            refine wpAnyH_take (i := 9) (v := .pointer (some ⟨spa, 0, none⟩)) rfl (by kernel_rfl) (by kernel_rfl) (by kernel_rfl) (fun c a w h => HPAN.out c a w _ _ (by decide) h) (Or.inl ⟨by rfl, fun x hx => by go_simp⟩) hSq7 ?_
            simp only [Act.put, List.getElem_toArray, List.getElem_cons_zero, List.getElem_cons_succ, List.setIfInBounds_toArray, List.set_cons_zero, List.set_cons_succ]
            refine wpAnyH_take (i := 11) (v := .pointer (some ⟨spb, 0, none⟩)) rfl (by kernel_rfl) (by kernel_rfl) (by kernel_rfl) (fun c a w h => HPAN.out c a w _ _ (by decide) h) (Or.inl ⟨by rfl, fun x hx => by have hc := hx.2.2.1.box.cell; go_simp⟩) hSq7 ?_
            simp only [Act.put, List.getElem_toArray, List.getElem_cons_zero, List.getElem_cons_succ, List.setIfInBounds_toArray, List.set_cons_zero, List.set_cons_succ]
            refine wpAnyH_ready (rs := [10]) (by kernel_rfl) (by simp) ?_
            refine AllReadyH.cons rfl (fun K hK => ?_) AllReadyH.nil
            go_simp
            go_wp2_with (go_at_call 11; refine (cLa.out _ hSq7.2.2.1.stoa).mono ?_; rintro e yq8 ⟨rfl, bq9⟩)
            refine hK.out _ _ ⟨hSq7.1.below bq9 hSq7.1.lt, hSq7.2.1.below bq9 hSq7.2.1.lt, hSq7.2.2.1.below bq9, hSq7.2.2.2.trans (bq9.mono (hSq7.2.2.2.size))⟩ (fun hSq10 => ?_)
            clear hK K hSq7 bq9
            refine wpAnyH_ready (rs := [12]) (by kernel_rfl) (by simp) ?_
            refine AllReadyH.cons rfl (fun K hK => ?_) AllReadyH.nil
            go_simp
            go_wp2_with (go_at_call 11; refine (cLb.out _ hSq10.2.2.1.stob).mono ?_; rintro e yq11 ⟨rfl, bq12⟩)
            refine hK.out _ _ ⟨hSq10.1.below bq12 hSq10.1.lt, hSq10.2.1.below bq12 hSq10.2.1.lt, hSq10.2.2.1.below bq12, hSq10.2.2.2.trans (bq12.mono (hSq10.2.2.2.size))⟩ (fun hSq13 => ?_)
            clear hK K hSq10 bq12
            refine wpAnyH_take (i := 13) (v := .bool false) rfl (by kernel_rfl) (by kernel_rfl) (by kernel_rfl) (fun c a w h => HPAN.out c a w _ _ (by decide) h) (Or.inl ⟨by rfl, fun x hx => by go_simp⟩) hSq13 ?_
            simp only [Act.put, List.getElem_toArray, List.getElem_cons_zero, List.getElem_cons_succ, List.setIfInBounds_toArray, List.set_cons_zero, List.set_cons_succ]
            refine wpAnyH_take (i := 14) (v := .bool false) rfl (by kernel_rfl) (by kernel_rfl) (by kernel_rfl) (fun c a w h => HPAN.out c a w _ _ (by decide) h) (Or.inl ⟨by rfl, fun x hx => by go_simp⟩) hSq13 ?_
            simp only [Act.put, List.getElem_toArray, List.getElem_cons_zero, List.getElem_cons_succ, List.setIfInBounds_toArray, List.set_cons_zero, List.set_cons_succ]
            refine wpAnyH_done (by kernel_rfl) ?_ _
            have HI10 := Lib.hid hSq13.2.2.1
            clear hSq13
            clear hqe cLa cLb hi9 hn9 hm9
            go_wp2_with fail
            refine (All_calls spa _).mono ?_
            rintro e w11 ⟨rfl, hw11⟩
            have hb11 : Below yq11.heap.size yq11 w11 := by rw [hw11]; exact below_alloc1 _ _
            have hbs : Blk w11 (yq11.heap.size) #[.pointer (some ⟨spa, 0, none⟩)] 24 := by rw [hw11]; exact Blk.new _ _ _
            have HI11 := Lib.hid (HI10.out.below hb11)
            obtain ⟨M, hM⟩ : ∃ z, z = (yq11).heap.size := ⟨_, rfl⟩
            rw [← hM] at hbs ⊢
            clear hw11 hb11 hM HI10
            go_wp2_with fail
            have hlt11 := HI11.out.lts
            refine wpIn_rangeAll spa mba M kk La (by rfl) (KpD.ok w11) hbs HI11.out.stoa (by omega) KpD.t (KpD.b) (fun A B b => KpD.below b) (by simp) (by simp) (by omega)
              (fun _ W => OrI w spa mba spb mbb R6 b10 kk La Lb W) ?own HI11.out ?body ?done
            case own =>
              rintro pre X Y row h1 hg hr
              exact OrI.row h1 hg (fun r e => by have := (hr r e).1; omega)
            case body =>
              rintro l pre y Bx W hi bX
              simp only [List.setIfInBounds_toArray, List.set_cons_succ, List.set_cons_zero]
              have hi2 : OrI w spa mba spb mbb R6 b10 kk La Lb W := hi
              have hyb : y.1 ∈ Lb := (HME.out y.1).1 y.2
              have hu := lookV_mem HNB.out hyb
              have HGU : Hid ((lookV Lb y.1.id).getD (.agg vz.cells.toArray) = .agg y.1.cells.toArray) := by show _ = _; rw [hu]; rfl
              have HGC : Hid ((lookV Lb y.1.id).isSome = true) := by show _ = _; rw [hu]; rfl
              have HYI : Hid (y.1.id.length = 32) := y.1.hi
              have hc10 := hi2.box.cell
              have hyi := vx_id (blk_rangeP bX)
              have HI2 := Lib.hid hi2
              clear hi hi2 hyb hu hbs hlt11
              refine wpIn_block ?_
              refine wpIn_seq_k (fun K2 hK2 => ?_)
              refine wpIn_region_plain (.round l) (fun _ _ h => h) (by rfl) ?_
              go_wp2_with (first | ((with_reducible show wpList _ _ _ (⟨some 190, _, _, _, _, _⟩ :: _) _ _); refine wpList_load1 rfl 24 (.tmp 10) rfl (b10) 0 (by rfl) _ _ (hc10) Try.underlying24 rfl ?_) | ((with_reducible show wpList _ _ _ (⟨some 192, _, _, _, _, _⟩ :: _) _ _); refine wpList_load_mid rfl 32 (.tmp 191) rfl Bx 0 (by rfl) (y.1.id.map bv) _ hyi Try.underlying32 rfl (by rw [List.length_map, HYI.out]; exact Try.sizeHash) ?_))
              refine (Get_calls spb mbb kk Lb y.1.id y.1 true _ HI2.out.stob HYI.out HGU.out HGC.out).mono ?_
              rintro e wA ⟨rfl, bA⟩
              have HIA := Lib.hid (HI2.out.below bA)
              have bXA := bX.below bA bX.lt
              clear hc10 hyi bX HI2 HGU HGC
              go_wp2_with (first | ((with_reducible show wpList _ _ _ (⟨some 27, _, _, _, _, _⟩ :: _) _ _); refine wpList_allocZ rfl 35 rfl _ Try.zeroVx ?_; intro wa sa ba na; clear sa) | ((with_reducible show wpList _ _ _ (⟨none, Op.store _ (.tmp 27) _, _, _, _, _⟩ :: _) _ _); refine wpList_storeBlk rfl 35 (.tmp 27) (.tmp 194) rfl wA.heap.size y.1.cells.toArray (by rfl) (by rfl) _ _ na (vx_sizeA y.1) (vx_hold _ _) (vx_all y.1) ?_; intro wB nB gB; have bbB := below_new ba gB (Nat.le_refl _) ba.size; have HIB := Lib.hid (HIA.out.below bbB); have bXB := bXA.below bbB bXA.lt; have hBB := bA.trans (bbB.mono bA.size); clear ba na gB bbB bA HIA bXA))
              obtain ⟨b27, hb27⟩ : ∃ z, z = wA.heap.size := ⟨_, rfl⟩
              rw [← hb27] at nB ⊢
              clear hb27
              refine wpIn_seq_k (fun K3 hK3 => ?_)
              refine wpIn_region_plain (.round l) (fun _ _ h => h) (by rfl) ?_
              have hqe : ∀ z, (Op.equalIn 10000 35 (.agg y.1.cells.toArray) (.agg y.1.cells.toArray)).run Try.prog z = .ok true z := fun z => run_eq_vx y.1 z
              go_wp2_with (first | ((with_reducible show wpList _ _ _ (⟨some 199, _, _, _, _, _⟩ :: _) _ _); refine wpList_if (by rfl) (wp_load_mid 35 (.tmp 27) rfl b27 0 (by rfl) y.1.cells _ (blk_rangeP nB) Try.underlying35 rfl (vx_size y.1) ?_)) | ((with_reducible show wpList _ _ _ (⟨some 200, _, _, _, _, _⟩ :: _) _ _); refine wpList_if (by rfl) (wp_load_mid 35 (.tmp 26) rfl Bx 0 (by rfl) y.1.cells _ (blk_rangeP bXB) Try.underlying35 rfl (vx_size y.1) ?_)))
              refine wpIn_cond_false (by rfl) ?_
              refine wpIn_skip ?_
              exact ⟨KeepsFrom.of_grownBy (below_grown hBB none) (fun j e => by cases e), KpD.below hBB, HIB.out⟩
            case done =>
              rintro D xs W hD _ hi hK9
              have hi2 : OrI w spa mba spb mbb R6 b10 kk La Lb W := hi
              have HI12 := Lib.hid hi2
              have hc6 := hi2.res.cell
              have hf6 := hi2.res.frozen
              clear hi hi2
              go_wp2_with fail
              obtain ⟨hmk, hfin⟩ := HI12.out.done (Nat.le_of_eq HR6.out.symm) (Ds := [D]) (fun E h => by rw [List.mem_singleton.1 h]; exact hK9) (fun E h => by rw [List.mem_singleton.1 h]; omega)
              exact leaves_marks [D] _ hmk (by simp) (fun w' hw' => ⟨.bool true, results_cell1 rfl (by rfl) (hfin w' hw').1 Try.underlying4 rfl, rfl, (hfin w' hw').2⟩)
theorem walkDagOrders {w0 : World} (a0 : Int) (wf0 : (Lit.int .u8 a0).wf = true) (v1 : Value) (rs : List Rv) (h1 : RvAt w0 v1 rs) (m1 : rs.length ≤ maxLen) (n1 : ∀ n c, v1 = .slice none n c → c = 0) (v2 : Value) (ts : List UInt8) (h2 : RAt u8Cells w0 v2 ts) (m2 : ts.length ≤ maxLen) (w : World) (hw : w0 = w := by rfl) :
    Calls Try.prog 4 #[.int .u8 a0, v1, v2] w fun e w' => e = .returned (.bool true) ∧ Below w.heap.size w w' := by
  by_cases h60 : rs.length ≤ 60
  · by_cases h61 : ts.length ≤ 60
    · exact dagOrders_few a0 wf0 v1 rs h1 m1 n1 v2 ts h2 m2 h60 h61 w hw
    · exact dagOrders_big2 a0 wf0 v1 rs h1 m1 n1 v2 ts h2 m2 h60 (by omega) w hw
  · exact dagOrders_big1 a0 wf0 v1 rs h1 m1 n1 v2 ts h2 m2 (by omega) w hw
end Go.Proofs.Ytodnmhflafpefaa
