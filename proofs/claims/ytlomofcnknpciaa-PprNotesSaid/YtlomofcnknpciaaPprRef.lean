/-
  The document's rows: power, down, at, Key, Within.
  The document's rows: Key, Within.
  The document's row: as a literal of its root and its bits.
-/
import Derived.Test.YtlomofcnknpciaaWl
import Derived.Test.YtlomofcnknpciaaF0
import Derived.Test.YtlomofcnknpciaaPprBase
import Derived.Test.YtlomofcnknpciaaRefMac
set_option linter.unusedSimpArgs false
set_option linter.unusedVariables false
namespace Go.Proofs.Ytlomofcnknpciaa
open Go.RowKit

theorem power_calls (n : Nat) (w : World) (hn : n ≤ 60) : Calls Try.prog 77 #[.int .i64 n] w fun e w' => e = .returned (.int .i64 ((2 ^ n : Nat) : Int)) ∧ Below w.heap.size w w' := by
  go_enter Try.func77, Try.ntmps77
  go_wp2_with fail
  go_loopw [3, 4] (fun p i wr => ∃ (k P : Nat), k ≤ n ∧ P = 2 ^ k ∧ p = .int .i64 P ∧ i = .int .i64 k ∧ wr = w) (fun _ i _ => n - (intOf i).toNat)
  case atStart => exact ⟨0, 1, by omega, rfl, rfl, rfl, rfl⟩
  case round =>
    obtain ⟨k, P, hk, hP, rfl, rfl, rfl⟩ := hrel
    have HP := Lib.hid hP
    have hle : P ≤ 2 ^ 60 := by rw [hP]; exact Nat.pow_le_pow_right (by omega) (by omega)
    clear hP
    by_cases hlt : k < n
    · go_wp2_with fail
      go_roundw
      case rel => exact ⟨k + 1, 2 * P, by omega, by rw [HP.out, Nat.pow_succ]; omega, by go_num, by go_num, trivial⟩
      case measure => simp [intOf]; omega
    · obtain rfl : k = n := by omega
      go_wp2_with fail
      go_returns
      have e := HP.out
      subst e
      exact ⟨rfl, Below.refl _ _⟩
set_option maxHeartbeats 4000000 in
set_option maxRecDepth 100000 in
theorem downRight_calls (h : List UInt8) (w : World) (hh : h.length = 32) : Calls Try.prog 81 #[.agg (h.map bv).toArray, .bool true] w fun e w' => e = .returned (.agg ((downT true h).map bv).toArray) ∧ Below w.heap.size w w' := by
  have HA := Lib.hid hh
  clear hh
  have hA0 : Blk ((w.alloc (.cells (h.map bv).toArray 22)).alloc (.cells Z32 22)) w.heap.size (h.map bv).toArray 22 := (Blk.new _ _ _).alloc _
  have hR0 : Blk ((w.alloc (.cells (h.map bv).toArray 22)).alloc (.cells Z32 22)) (w.heap.size + 1) Z32 22 := blk_new1 _ _ _ _
  have hb0 : Below w.heap.size w ((w.alloc (.cells (h.map bv).toArray 22)).alloc (.cells Z32 22)) := ((Below.refl _ _).alloc (Nat.le_refl _) _).alloc (by simp) _
  obtain ⟨x, hx⟩ : ∃ x, x = downT true h := ⟨_, rfl⟩
  have HX : Hid (x.length = 32) := by show _ = _; rw [hx]; exact downT_len _ _
  have c1 : ∀ y, Calls Try.prog 136 #[.string (str (lRight ++ h))] y fun e w' => e = .returned (.agg (x.map bv).toArray) ∧ Below y.heap.size y w' := fun y => by
    rw [hx]
    exact RefSum_calls (lRight ++ h) y (by simp [HA.out, lRight])
  have hstr : ((⟨#[114, 105, 103, 104, 116]⟩ : ByteArray) ++ str h) = str (lRight ++ h) := by rw [← str_append]; rfl
  have hcv := conv_blk HA.out hA0
  have hal : h.length ≤ 32 := by rw [HA.out]; omega
  rw [← hx]
  clear hx
  go_enter Try.func81, Try.ntmps81
  go_wp2_with fail
  generalize (w.alloc (.cells (h.map bv).toArray 22)).alloc (.cells Z32 22) = W0 at hA0 hR0 hb0 hcv ⊢
  refine (c1 _).mono ?_
  rintro e w2 ⟨rfl, b2⟩
  have hR2 := hR0.below b2 hR0.lt
  have hb2 := hb0.trans (b2.mono hb0.size)
  clear hR0 hb0 hA0 b2 hcv c1
  go_wp2_with ((with_reducible show wpList _ _ _ (⟨none, Op.store _ (.tmp 4) _, _, _, _, _⟩ :: _) _ _); refine wpList_storeBlk rfl 22 (.tmp 4) (.tmp 9) rfl (w.heap.size + 1) (x.map bv).toArray (by rfl) (by rfl) _ _ hR2 (by rw [bv_size, HX.out]; exact Try.sizeA32) (by rw [bv_size, HX.out, Z32_size]) (bv_all _) ?_; intro w9 hB9 g9; have h9 := hb2.trans (grown_below g9 (by omega) hb2.size))
  refine ret_blk rfl (w.heap.size + 1) _ _ _ (by rfl) hB9 Try.underlying22 rfl (by rw [bv_size, HX.out]; exact Try.sizeA32) rfl ?_
  exact ⟨rfl, h9⟩
set_option maxHeartbeats 4000000 in
set_option maxRecDepth 100000 in
theorem downLeft_calls (h : List UInt8) (w : World) (hh : h.length = 32) : Calls Try.prog 81 #[.agg (h.map bv).toArray, .bool false] w fun e w' => e = .returned (.agg ((downT false h).map bv).toArray) ∧ Below w.heap.size w w' := by
  have HA := Lib.hid hh
  clear hh
  have hA0 : Blk ((w.alloc (.cells (h.map bv).toArray 22)).alloc (.cells Z32 22)) w.heap.size (h.map bv).toArray 22 := (Blk.new _ _ _).alloc _
  have hR0 : Blk ((w.alloc (.cells (h.map bv).toArray 22)).alloc (.cells Z32 22)) (w.heap.size + 1) Z32 22 := blk_new1 _ _ _ _
  have hb0 : Below w.heap.size w ((w.alloc (.cells (h.map bv).toArray 22)).alloc (.cells Z32 22)) := ((Below.refl _ _).alloc (Nat.le_refl _) _).alloc (by simp) _
  obtain ⟨x, hx⟩ : ∃ x, x = downT false h := ⟨_, rfl⟩
  have HX : Hid (x.length = 32) := by show _ = _; rw [hx]; exact downT_len _ _
  have c1 : ∀ y, Calls Try.prog 136 #[.string (str (lLeft ++ h))] y fun e w' => e = .returned (.agg (x.map bv).toArray) ∧ Below y.heap.size y w' := fun y => by
    rw [hx]
    exact RefSum_calls (lLeft ++ h) y (by simp [HA.out, lLeft])
  have hstr : ((⟨#[108, 101, 102, 116]⟩ : ByteArray) ++ str h) = str (lLeft ++ h) := by rw [← str_append]; rfl
  have hcv := conv_blk HA.out hA0
  have hal : h.length ≤ 32 := by rw [HA.out]; omega
  rw [← hx]
  clear hx
  go_enter Try.func81, Try.ntmps81
  go_wp2_with fail
  generalize (w.alloc (.cells (h.map bv).toArray 22)).alloc (.cells Z32 22) = W0 at hA0 hR0 hb0 hcv ⊢
  refine (c1 _).mono ?_
  rintro e w2 ⟨rfl, b2⟩
  have hR2 := hR0.below b2 hR0.lt
  have hb2 := hb0.trans (b2.mono hb0.size)
  clear hR0 hb0 hA0 b2 hcv c1
  go_wp2_with ((with_reducible show wpList _ _ _ (⟨none, Op.store _ (.tmp 4) _, _, _, _, _⟩ :: _) _ _); refine wpList_storeBlk rfl 22 (.tmp 4) (.tmp 13) rfl (w.heap.size + 1) (x.map bv).toArray (by rfl) (by rfl) _ _ hR2 (by rw [bv_size, HX.out]; exact Try.sizeA32) (by rw [bv_size, HX.out, Z32_size]) (bv_all _) ?_; intro w9 hB9 g9; have h9 := hb2.trans (grown_below g9 (by omega) hb2.size))
  refine ret_blk rfl (w.heap.size + 1) _ _ _ (by rfl) hB9 Try.underlying22 rfl (by rw [bv_size, HX.out]; exact Try.sizeA32) rfl ?_
  exact ⟨rfl, h9⟩
theorem down_calls (h : List UInt8) (b : Bool) (w : World) (hh : h.length = 32) : Calls Try.prog 81 #[.agg (h.map bv).toArray, .bool b] w fun e w' => e = .returned (.agg ((downT b h).map bv).toArray) ∧ Below w.heap.size w w' := by
  cases b
  · exact downLeft_calls h w hh
  · exact downRight_calls h w hh

/-- The seed so many levels below one, at a place among those of the level. -/
def atD (p : Nat) : Nat → List UInt8 → List UInt8
  | 0, s => s
  | i + 1, s => atD p i (downT (p / 2 ^ i % 2 == 1) s)
theorem atD_len (p : Nat) : ∀ (i : Nat) (s : List UInt8), s.length = 32 → (atD p i s).length = 32
  | 0, s, h => h
  | i + 1, s, h => atD_len p i _ (downT_len _ _)
/-- A row of the document, as cells. -/
def rcells (root : List UInt8) (B : Nat) (v : Value) : List Value := root.map bv ++ [.int .i64 B, v]
theorem blk_rangeR {w : World} {b : Nat} {cs : List Value} {t : TypeId} (h : Blk w b cs.toArray t) : w.rangeAt b 0 cs := fun j v hj => by
  rw [Nat.zero_add]
  exact h.cell j v (by rw [List.getElem?_toArray]; exact hj)
theorem rcells_range {w : World} {g B : Nat} {root : List UInt8} {v : Value} {T : TypeId} (h : Blk w g (rcells root B v).toArray T) : w.rangeAt g 0 (root.map bv) := fun j u hj => by
  refine h.cell _ u ?_
  have hlt := (List.getElem?_eq_some_iff.1 hj).1
  rw [List.getElem?_toArray, Nat.zero_add, rcells, List.getElem?_append_left hlt]; exact hj
set_option maxHeartbeats 4000000 in
set_option maxRecDepth 100000 in
theorem at_calls (root : List UInt8) (B : Nat) (v : Value) (lev p : Nat) (w : World) (hh : root.length = 32) (hl : lev ≤ 36) (hp : p ≤ 68719476736) : Calls Try.prog 79 #[.agg (rcells root B v).toArray, .int .i64 lev, .int .i64 p] w fun e w' => e = .returned (.agg ((atD p lev root).map bv).toArray) ∧ Below w.heap.size w w' := by
  have HA := Lib.hid hh
  have hA0 : Blk ((w.alloc (.cells (rcells root B v).toArray 33)).alloc (.cells Z32 22)) w.heap.size (rcells root B v).toArray 33 := (Blk.new _ _ _).alloc _
  have hR0 : Blk ((w.alloc (.cells (rcells root B v).toArray 33)).alloc (.cells Z32 22)) (w.heap.size + 1) Z32 22 := blk_new1 _ _ _ _
  have hb0 : Below w.heap.size w ((w.alloc (.cells (rcells root B v).toArray 33)).alloc (.cells Z32 22)) := ((Below.refl _ _).alloc (Nat.le_refl _) _).alloc (by simp) _
  have hs0 : ((w.alloc (.cells (rcells root B v).toArray 33)).alloc (.cells Z32 22)).heap.size = w.heap.size + 2 := by simp
  have hL := (Lib.hid (rcells_range hA0))
  go_enter Try.func79, Try.ntmps79
  go_wp2_with (first | ((with_reducible show wpList _ _ _ (⟨some 10, _, _, _, _, _⟩ :: _) _ _); refine wpList_load_mid rfl 22 (.tmp 9) rfl w.heap.size 0 (by rfl) (root.map bv) _ hL.out Try.underlying22 rfl (by rw [List.length_map, HA.out]; exact Try.sizeA32) ?_; generalize (w.alloc (.cells (rcells root B v).toArray 33)).alloc (.cells Z32 22) = W0 at hA0 hR0 hb0 hs0 hL ⊢; have hN := Blk.new W0 Z32 22; rw [hs0] at hN; have hR1 := hR0.alloc (.cells Z32 22); have hb1 := hb0.alloc hb0.size (.cells Z32 22)) | ((with_reducible show wpList _ _ _ (⟨none, Op.store _ (.tmp 7) _, _, _, _, _⟩ :: _) _ _); refine wpList_storeBlk rfl 22 (.tmp 7) (.tmp 10) rfl (w.heap.size + 2) (root.map bv).toArray (by rfl) (by rfl) _ _ hN (by rw [bv_size, HA.out]; exact Try.sizeA32) (by rw [bv_size, HA.out, Z32_size]) (bv_all _) ?_; intro w3 hS3 g3; have hR3 := hR1.grown g3 (by simp); have hb3 := below_new hb1 g3 (by omega) hb1.size; clear hN hR1 hb1 hL hA0))
  go_wp2_with fail
  have hHH := Lib.hid hb3
  go_loopw [8] (fun i wr => ∃ (m : Nat) (x : List UInt8), m ≤ lev ∧ i = .int .i64 ((m : Int) - 1) ∧ Hid (x.length = 32) ∧ Hid (atD p m x = atD p lev root) ∧ Hid (Blk wr (w.heap.size + 2) (x.map bv).toArray 22) ∧ Hid (Blk wr (w.heap.size + 1) Z32 22) ∧ Hid (Below w.heap.size w wr)) (fun i _ => (intOf i + 1).toNat)
  case atStart => exact ⟨lev, root, Nat.le_refl _, rfl, HA.out, rfl, hS3, hR3, hb3⟩
  case round =>
    obtain ⟨m, x, hm, rfl, HX, hat, hS, hR, hB⟩ := hrel
    by_cases hm0 : m = 0
    · subst hm0
      go_wp2_with (first | ((with_reducible show wpList _ _ _ (⟨some 25, _, _, _, _, _⟩ :: _) _ _); refine wpList_load_mid rfl 22 (.tmp 7) rfl (w.heap.size + 2) 0 (by rfl) (x.map bv) _ (blk_rangeR hS.out) Try.underlying22 rfl (by rw [List.length_map, HX.out]; exact Try.sizeA32) ?_) | ((with_reducible show wpList _ _ _ (⟨none, Op.store _ (.tmp 6) _, _, _, _, _⟩ :: _) _ _); refine wpList_storeBlk rfl 22 (.tmp 6) (.tmp 25) rfl (w.heap.size + 1) (x.map bv).toArray (by rfl) (by rfl) _ _ hR.out (by rw [bv_size, HX.out]; exact Try.sizeA32) (by rw [bv_size, HX.out, Z32_size]) (bv_all _) ?_; intro w9 hB9 g9; have h9 := hB.out.trans (grown_below g9 (by omega) hB.out.size)))
      refine ret_blk rfl (w.heap.size + 1) _ _ _ (by rfl) hB9 Try.underlying22 rfl (by rw [bv_size, HX.out]; exact Try.sizeA32) rfl ?_
      have e := hat.out
      rw [atD] at e
      rw [← e]
      exact ⟨rfl, h9⟩
    · obtain ⟨q0, rfl⟩ : ∃ q, m = q + 1 := ⟨m - 1, by omega⟩
      rw [show (((q0 + 1 : Nat) : Int) - 1) = (q0 : Int) by omega]
      obtain ⟨P, hP⟩ : ∃ P, P = 2 ^ q0 := ⟨_, rfl⟩
      obtain ⟨q, hq⟩ : ∃ q, q = p / P := ⟨_, rfl⟩
      obtain ⟨y, hy⟩ : ∃ y, y = q % 2 := ⟨_, rfl⟩
      obtain ⟨b, hb⟩ : ∃ b, b = (y == 1) := ⟨_, rfl⟩
      obtain ⟨D, hD⟩ : ∃ D, D = downT := ⟨_, rfl⟩
      obtain ⟨nx, hnx⟩ : ∃ n, n = D b x := ⟨_, rfl⟩
      have HNX : Hid (nx.length = 32) := by show _ = _; rw [hnx, hD]; exact downT_len _ _
      have c1 : ∀ z, Calls Try.prog 77 #[.int .i64 q0] z fun e w' => e = .returned (.int .i64 (P : Nat)) ∧ Below z.heap.size z w' := by rw [hP]; exact fun z => power_calls q0 z (by omega)
      have c2 : ∀ z, Calls Try.prog 81 #[.agg (x.map bv).toArray, .bool b] z fun e w' => e = .returned (.agg (nx.map bv).toArray) ∧ Below z.heap.size z w' := by rw [hnx, hD]; exact fun z => down_calls x b z HX.out
      have hP1 : 1 ≤ P := by rw [hP]; exact Nat.one_le_two_pow
      have hP2 : P ≤ 68719476736 := by rw [hP]; exact Nat.pow_le_pow_right (n := 2) (by omega) (show q0 ≤ 36 by omega)
      have hqp : q ≤ p := by rw [hq]; exact Nat.div_le_self _ _
      have hat2 : Hid (atD p q0 nx = atD p lev root) := by show _ = _; rw [← hat.out, atD, hnx, hD, hb, hy, hq, hP]
      have hqz : (p : Int) / (P : Int) = (q : Int) := by rw [hq]; simp
      have HQ := Lib.hid hq
      have HY := Lib.hid hy
      have HB := Lib.hid hb
      clear hP hq hy hb hD hnx hm0 hat
      go_wp2_with fail
      have hb0 := hB.out
      have hS5 := hS.out
      have hR5 := hR.out
      refine wp_region_held_drew (S := fun x => Below w.heap.size w x) (by kernel_rfl) (below_drewN hb0 1) (fun hSq1 => ?_)
      have hEq2 := Blk.drew hS5
      have hEq3 := Blk.drew hR5
      refine wpAnyH_take (i := 1) (v := .int .i64 p) rfl (by kernel_rfl) (by kernel_rfl) (by kernel_rfl) (fun _ _ _ h => h) (Or.inl ⟨by rfl, fun x hx => by go_simp⟩) hSq1 ?_
      simp only [Act.put, List.getElem_toArray, List.getElem_cons_zero, List.getElem_cons_succ, List.setIfInBounds_toArray, List.set_cons_zero, List.set_cons_succ]
      refine wpAnyH_take (i := 2) (v := .int .i64 q0) rfl (by kernel_rfl) (by kernel_rfl) (by kernel_rfl) (fun _ _ _ h => h) (Or.inl ⟨by rfl, fun x hx => by go_simp⟩) hSq1 ?_
      simp only [Act.put, List.getElem_toArray, List.getElem_cons_zero, List.getElem_cons_succ, List.setIfInBounds_toArray, List.set_cons_zero, List.set_cons_succ]
      refine wpAnyH_ready (rs := [0, 3]) (by kernel_rfl) (by simp) ?_
      refine AllReadyH.cons rfl (fun K hK => ?_) ?_
      · rw [if_pos (by rfl)]
        refine wp_load_mid 22 (.tmp 7) rfl (w.heap.size + 2) 0 (by rfl) (x.map bv) _ (blk_rangeR hEq2) Try.underlying22 rfl (by rw [List.length_map, HX.out]; exact Try.sizeA32) ?_
        refine hK.out _ _ hSq1 (fun hSq4 => ?_)
        clear hK K hSq1
        refine wpAnyH_ready (rs := [3]) (by kernel_rfl) (by simp) ?_
        refine AllReadyH.cons rfl (fun K hK => ?_) AllReadyH.nil
        go_simp
        go_wp2_with (go_at_call 77; refine (c1 _).mono ?_; rintro e yq5 ⟨rfl, bq6⟩)
        have hEq7 := hEq2.below bq6 hEq2.lt
        have hEq8 := hEq3.below bq6 hEq3.lt
        refine hK.out _ _ (hSq4.trans (bq6.mono hSq4.size)) (fun hSq9 => ?_)
        clear hK K hSq4 bq6
        refine wpAnyH_take (i := 4) (v := .int .i64 (q : Nat)) rfl (by kernel_rfl) (by kernel_rfl) (by kernel_rfl) (fun _ _ _ h => h) (Or.inl ⟨by rfl, fun x hx => by go_simp; rw [if_neg (by omega), wrapI _ (by omega) (by omega)]⟩) hSq9 ?_
        simp only [Act.put, List.getElem_toArray, List.getElem_cons_zero, List.getElem_cons_succ, List.setIfInBounds_toArray, List.set_cons_zero, List.set_cons_succ]
        refine wpAnyH_take (i := 5) (v := .int .i64 (y : Nat)) rfl (by kernel_rfl) (by kernel_rfl) (by kernel_rfl) (fun _ _ _ h => h) (Or.inl ⟨by rfl, fun x hx => by go_simp; rw [Int.tmod_eq_emod_of_nonneg (by omega)]; have e := HY.out; omega⟩) hSq9 ?_
        simp only [Act.put, List.getElem_toArray, List.getElem_cons_zero, List.getElem_cons_succ, List.setIfInBounds_toArray, List.set_cons_zero, List.set_cons_succ]
        refine wpAnyH_take (i := 6) (v := .bool b) rfl (by kernel_rfl) (by kernel_rfl) (by kernel_rfl) (fun _ _ _ h => h) (Or.inl ⟨by rfl, fun x hx => by have e := HB.out; go_simp; first | done | (rw [Bool.eq_iff_iff]; simp; try omega)⟩) hSq9 ?_
        simp only [Act.put, List.getElem_toArray, List.getElem_cons_zero, List.getElem_cons_succ, List.setIfInBounds_toArray, List.set_cons_zero, List.set_cons_succ]
        refine wpAnyH_ready (rs := [7]) (by kernel_rfl) (by simp) ?_
        refine AllReadyH.cons rfl (fun K hK => ?_) AllReadyH.nil
        go_simp
        go_wp2_with (go_at_call 81; refine (c2 _).mono ?_; rintro e yq10 ⟨rfl, bq11⟩)
        have hEq12 := hEq7.below bq11 hEq7.lt
        have hEq13 := hEq8.below bq11 hEq8.lt
        refine hK.out _ _ (hSq9.trans (bq11.mono hSq9.size)) (fun hSq14 => ?_)
        clear hK K hSq9 bq11
        refine wpAnyH_ready (rs := [8]) (by kernel_rfl) (by simp) ?_
        refine AllReadyH.cons rfl (fun K hK => ?_) AllReadyH.nil
        rw [if_pos (by rfl)]
        refine wp_storeBlk 22 (.tmp 7) (.tmp 24) rfl (w.heap.size + 2) (nx.map bv).toArray (by rfl) (by rfl) _ _ hEq12 (by rw [bv_size, HNX.out]; exact Try.sizeA32) (by rw [bv_size, bv_size, HX.out, HNX.out]) (bv_all _) ?_
        intro yq15 hEq16 grq17
        have hEq19 := hEq13.grown grq17 (by simp)
        refine hK.out _ _ (below_new hSq14 grq17 (by omega) hSq14.size) (fun hSq18 => ?_)
        clear hK K hSq14
        refine wpAnyH_done (by kernel_rfl) ?_ _
        have hSz := hEq16
        have hRz := hEq19
        have hBz := hSq18
        go_wp2_with fail
        go_roundw
        case rel => exact ⟨q0, nx, by omega, by go_num, HNX, hat2, hSz, hRz, hBz⟩
        case measure => simp [intOf] <;> omega
      refine AllReadyH.cons rfl (fun K hK => ?_) AllReadyH.nil
      go_simp
      go_wp2_with (go_at_call 77; refine (c1 _).mono ?_; rintro e yq20 ⟨rfl, bq21⟩)
      have hEq22 := hEq2.below bq21 hEq2.lt
      have hEq23 := hEq3.below bq21 hEq3.lt
      refine hK.out _ _ (hSq1.trans (bq21.mono hSq1.size)) (fun hSq24 => ?_)
      clear hK K hSq1 bq21
      refine wpAnyH_take (i := 4) (v := .int .i64 (q : Nat)) rfl (by kernel_rfl) (by kernel_rfl) (by kernel_rfl) (fun _ _ _ h => h) (Or.inl ⟨by rfl, fun x hx => by go_simp; rw [if_neg (by omega), wrapI _ (by omega) (by omega)]⟩) hSq24 ?_
      simp only [Act.put, List.getElem_toArray, List.getElem_cons_zero, List.getElem_cons_succ, List.setIfInBounds_toArray, List.set_cons_zero, List.set_cons_succ]
      refine wpAnyH_take (i := 5) (v := .int .i64 (y : Nat)) rfl (by kernel_rfl) (by kernel_rfl) (by kernel_rfl) (fun _ _ _ h => h) (Or.inl ⟨by rfl, fun x hx => by go_simp; rw [Int.tmod_eq_emod_of_nonneg (by omega)]; have e := HY.out; omega⟩) hSq24 ?_
      simp only [Act.put, List.getElem_toArray, List.getElem_cons_zero, List.getElem_cons_succ, List.setIfInBounds_toArray, List.set_cons_zero, List.set_cons_succ]
      refine wpAnyH_take (i := 6) (v := .bool b) rfl (by kernel_rfl) (by kernel_rfl) (by kernel_rfl) (fun _ _ _ h => h) (Or.inl ⟨by rfl, fun x hx => by have e := HB.out; go_simp; first | done | (rw [Bool.eq_iff_iff]; simp; try omega)⟩) hSq24 ?_
      simp only [Act.put, List.getElem_toArray, List.getElem_cons_zero, List.getElem_cons_succ, List.setIfInBounds_toArray, List.set_cons_zero, List.set_cons_succ]
      refine wpAnyH_ready (rs := [0]) (by kernel_rfl) (by simp) ?_
      refine AllReadyH.cons rfl (fun K hK => ?_) AllReadyH.nil
      rw [if_pos (by rfl)]
      refine wp_load_mid 22 (.tmp 7) rfl (w.heap.size + 2) 0 (by rfl) (x.map bv) _ (blk_rangeR hEq22) Try.underlying22 rfl (by rw [List.length_map, HX.out]; exact Try.sizeA32) ?_
      refine hK.out _ _ hSq24 (fun hSq25 => ?_)
      clear hK K hSq24
      refine wpAnyH_ready (rs := [7]) (by kernel_rfl) (by simp) ?_
      refine AllReadyH.cons rfl (fun K hK => ?_) AllReadyH.nil
      go_simp
      go_wp2_with (go_at_call 81; refine (c2 _).mono ?_; rintro e yq26 ⟨rfl, bq27⟩)
      have hEq28 := hEq22.below bq27 hEq22.lt
      have hEq29 := hEq23.below bq27 hEq23.lt
      refine hK.out _ _ (hSq25.trans (bq27.mono hSq25.size)) (fun hSq30 => ?_)
      clear hK K hSq25 bq27
      refine wpAnyH_ready (rs := [8]) (by kernel_rfl) (by simp) ?_
      refine AllReadyH.cons rfl (fun K hK => ?_) AllReadyH.nil
      rw [if_pos (by rfl)]
      refine wp_storeBlk 22 (.tmp 7) (.tmp 24) rfl (w.heap.size + 2) (nx.map bv).toArray (by rfl) (by rfl) _ _ hEq28 (by rw [bv_size, HNX.out]; exact Try.sizeA32) (by rw [bv_size, bv_size, HX.out, HNX.out]) (bv_all _) ?_
      intro yq31 hEq32 grq33
      have hEq35 := hEq29.grown grq33 (by simp)
      refine hK.out _ _ (below_new hSq30 grq33 (by omega) hSq30.size) (fun hSq34 => ?_)
      clear hK K hSq30
      refine wpAnyH_done (by kernel_rfl) ?_ _
      have hSz := hEq32
      have hRz := hEq35
      have hBz := hSq34
      go_wp2_with fail
      go_roundw
      case rel => exact ⟨q0, nx, by omega, by go_num, HNX, hat2, hSz, hRz, hBz⟩
      case measure => simp [intOf] <;> omega
end Go.Proofs.Ytlomofcnknpciaa
set_option linter.unusedSimpArgs false
set_option linter.unusedVariables false
namespace Go.Proofs.Ytlomofcnknpciaa
open Go.RowKit

theorem Try.sizeR6 : (Try.prog.info? 33).map (·.size) = some 34 := by kernel_rfl
theorem rcells_len (root : List UInt8) (B : Nat) (v : Value) (h : root.length = 32) : (rcells root B v).length = 34 := by simp [rcells, h]
theorem rcells_bits (root : List UInt8) (B : Nat) (v : Value) (h : root.length = 32) : (rcells root B v).toArray[32]? = some (.int .i64 B) := by
  rw [List.getElem?_toArray, rcells, List.getElem?_append_right (by simp [h])]
  simp [h]
theorem rcells_taken (root : List UInt8) (B : Nat) (v : Value) (h : root.length = 32) : (rcells root B v).toArray[33]? = some v := by
  rw [List.getElem?_toArray, rcells, List.getElem?_append_right (by simp [h])]
  simp [h]
set_option maxHeartbeats 4000000 in
set_option maxRecDepth 100000 in
theorem RKey_calls (root : List UInt8) (B : Nat) (v : Value) (p : Nat) (w : World) (hh : root.length = 32) (hl : B ≤ 36) (hp : p ≤ 68719476736) : Calls Try.prog 80 #[.agg (rcells root B v).toArray, .int .i64 p] w fun e w' => e = .returned (.agg ((keyT (atD p B root)).map bv).toArray) ∧ Below w.heap.size w w' := by
  have HA := Lib.hid hh
  have hA0 : Blk ((w.alloc (.cells (rcells root B v).toArray 33)).alloc (.cells Z32 22)) w.heap.size (rcells root B v).toArray 33 := (Blk.new _ _ _).alloc _
  have hR0 : Blk ((w.alloc (.cells (rcells root B v).toArray 33)).alloc (.cells Z32 22)) (w.heap.size + 1) Z32 22 := blk_new1 _ _ _ _
  have hb0 : Below w.heap.size w ((w.alloc (.cells (rcells root B v).toArray 33)).alloc (.cells Z32 22)) := ((Below.refl _ _).alloc (Nat.le_refl _) _).alloc (by simp) _
  have hcb := hA0.cell 32 _ (rcells_bits root B v hh)
  obtain ⟨x, hx⟩ : ∃ x, x = atD p B root := ⟨_, rfl⟩
  have HX : Hid (x.length = 32) := by show _ = _; rw [hx]; exact atD_len _ _ _ hh
  obtain ⟨k, hk⟩ : ∃ k, k = keyT x := ⟨_, rfl⟩
  have HK : Hid (k.length = 32) := by show _ = _; rw [hk]; exact keyT_len _
  have c1 : ∀ z, Calls Try.prog 79 #[.agg (rcells root B v).toArray, .int .i64 B, .int .i64 p] z fun e w' => e = .returned (.agg (x.map bv).toArray) ∧ Below z.heap.size z w' := by rw [hx]; exact fun z => at_calls root B v B p z hh hl hp
  have c2 : ∀ z, Calls Try.prog 136 #[.string (str (lKey ++ x))] z fun e w' => e = .returned (.agg (k.map bv).toArray) ∧ Below z.heap.size z w' := fun z => by
    rw [hk]
    exact RefSum_calls (lKey ++ x) z (by simp [HX.out, lKey])
  have hstr : ((⟨#[107, 101, 121]⟩ : ByteArray) ++ str x) = str (lKey ++ x) := by rw [← str_append]; rfl
  have hxl : x.length ≤ 32 := by rw [HX.out]; omega
  rw [← hx, ← hk]
  clear hx hk hh
  go_enter Try.func80, Try.ntmps80
  go_wp2_with ((with_reducible show wpList _ _ _ (⟨some 6, _, _, _, _, _⟩ :: _) _ _); refine wpList_load_mid rfl 33 (.tmp 2) rfl w.heap.size 0 (by rfl) (rcells root B v) _ (blk_rangeR hA0) Try.underlying33 rfl (by rw [rcells_len _ _ _ HA.out]; exact Try.sizeR6) ?_)
  generalize (w.alloc (.cells (rcells root B v).toArray 33)).alloc (.cells Z32 22) = W0 at hA0 hR0 hb0 hcb ⊢
  refine (c1 _).mono ?_
  rintro e w1 ⟨rfl, b1⟩
  have hR1 := (hR0.below b1 hR0.lt).alloc (.cells Z32 22)
  have hb1 := hb0.trans (b1.mono hb0.size)
  have hN := Blk.new w1 Z32 22
  have hb2 := hb1.alloc hb1.size (.cells Z32 22)
  have hs1 : w.heap.size + 1 < w1.heap.size := (hR0.below b1 hR0.lt).lt
  clear b1 hR0 hb0 hb1 hcb hA0 c1
  go_wp2_with (first | ((with_reducible show wpList _ _ _ (⟨none, Op.store _ (.tmp 5) _, _, _, _, _⟩ :: _) _ _); refine wpList_storeBlk rfl 22 (.tmp 5) (.tmp 10) rfl w1.heap.size (x.map bv).toArray (by rfl) (by rfl) _ _ hN (by rw [bv_size, HX.out]; exact Try.sizeA32) (by rw [bv_size, HX.out, Z32_size]) (bv_all _) ?_; intro w2 hX2 g2; have hR2 := hR1.grown g2 (by simp; omega); have hb3 := below_new hb2 g2 (by omega) hb2.size; have hcv := conv_blk HX.out hX2; clear hN hR1 hb2 g2))
  refine (c2 _).mono ?_
  rintro e w3 ⟨rfl, b3⟩
  have hR3 := hR2.below b3 hR2.lt
  have hb4 := hb3.trans (b3.mono hb3.size)
  clear hR2 hb3 b3 hcv c2
  go_wp2_with ((with_reducible show wpList _ _ _ (⟨none, Op.store _ (.tmp 4) _, _, _, _, _⟩ :: _) _ _); refine wpList_storeBlk rfl 22 (.tmp 4) (.tmp 14) rfl (w.heap.size + 1) (k.map bv).toArray (by rfl) (by rfl) _ _ hR3 (by rw [bv_size, HK.out]; exact Try.sizeA32) (by rw [bv_size, HK.out, Z32_size]) (bv_all _) ?_; intro w9 hB9 g9; have h9 := hb4.trans (grown_below g9 (by omega) hb4.size))
  refine ret_blk rfl (w.heap.size + 1) _ _ _ (by rfl) hB9 Try.underlying22 rfl (by rw [bv_size, HK.out]; exact Try.sizeA32) rfl ?_
  exact ⟨rfl, h9⟩
set_option maxHeartbeats 4000000 in
set_option maxRecDepth 100000 in
theorem RWithin_calls (root : List UInt8) (B : Nat) (v : Value) (p : Int) (w : World) (hh : root.length = 32) (hl : B ≤ 32) : Calls Try.prog 47 #[.agg (rcells root B v).toArray, .int .i64 p] w fun e w' => e = .returned (.bool (withinT B p)) ∧ Below w.heap.size w w' := by
  have hA0 : Blk (w.alloc (.cells (rcells root B v).toArray 33)) w.heap.size (rcells root B v).toArray 33 := Blk.new _ _ _
  have hb0 : Below w.heap.size w (w.alloc (.cells (rcells root B v).toArray 33)) := below_alloc1 _ _
  have hcb := hA0.cell 32 _ (rcells_bits root B v hh)
  obtain ⟨P, hP⟩ : ∃ P, P = 2 ^ B := ⟨_, rfl⟩
  have c1 : ∀ z, Calls Try.prog 77 #[.int .i64 B] z fun e w' => e = .returned (.int .i64 (P : Nat)) ∧ Below z.heap.size z w' := by rw [hP]; exact fun z => power_calls B z (by omega)
  by_cases h0 : 0 ≤ p
  · have hf : Hid (withinT B p = decide (p < (P : Int))) := by show _ = _; rw [withinT, hP]; simp [h0]
    clear hP hA0
    go_enter Try.func47, Try.ntmps47
    go_wp2_with fail
    generalize w.alloc (.cells (rcells root B v).toArray 33) = W0 at hb0 hcb ⊢
    refine (c1 _).mono ?_
    rintro e w1 ⟨rfl, b1⟩
    have hb1 := hb0.trans (b1.mono hb0.size)
    go_wp2_with fail
    go_returns
    rw [hf.out]
    exact ⟨rfl, hb1⟩
  · have h3 : p < 0 := by omega
    have hf : Hid (withinT B p = false) := decide_eq_false (by omega)
    clear hP hA0
    go_enter Try.func47, Try.ntmps47
    go_wp2_with fail
    go_returns
    rw [hf.out]
    exact ⟨rfl, hb0⟩
end Go.Proofs.Ytlomofcnknpciaa
set_option linter.unusedSimpArgs false
set_option linter.unusedVariables false
namespace Go.Proofs.Ytlomofcnknpciaa
open Go.RowKit

abbrev zR6 : List Value := (List.replicate 32 (0 : UInt8)).map bv ++ [.int .i64 0, .slice none 0 0]
theorem Try.zeroR6 : (Try.prog.info? 33).bind (·.zero) = some (.agg zR6.toArray) := by kernel_rfl
theorem Try.builtR6 (B : Nat) (h : List UInt8) (hh : h.length = 32) : Try.prog.built 33 [(0, .agg (h.map bv).toArray), (1, .int .i64 B)] = some (rcells h B (.slice none 0 0)).toArray := by
  rw [built_struct Try.zeroR6 Try.underlying33 (places := [(0, 32), (32, 1), (33, 1)]) (by kernel_rfl), Value.cells]
  refine (fill_midV (A := []) (B := (List.replicate 32 (0 : UInt8)).map bv) (C := [.int .i64 0, .slice none 0 0]) (v := h.map bv) rfl rfl (by rw [List.length_map, hh]; rfl) (by simp [hh])).trans ?_
  refine (fill_midV (A := h.map bv) (B := [.int .i64 0]) (C := [.slice none 0 0]) (v := [.int .i64 B]) rfl rfl (by rw [List.length_map, hh]; rfl) rfl).trans ?_
  simp [Instr.fill, rcells]
theorem rcells_all (root : List UInt8) (B n c : Nat) (ao : Option Addr) : (rcells root B (.slice ao n c)).toArray.all (·.oneCell') = true := by
  rw [List.all_toArray, List.all_eq_true]
  intro u hu
  rcases List.mem_append.1 hu with hu | hu
  · exact bv_one _ u hu
  · simp at hu; rcases hu with rfl | rfl <;> rfl
end Go.Proofs.Ytlomofcnknpciaa
