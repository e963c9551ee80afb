/-
  glean.order, the functions of Tell, slices.SortFunc at epochs.
-/
import Derived.Test.YtlomofcnknpciaaGleanKn
import Derived.Test.YtlomofcnknpciaaGleanSort
import Derived.WalkLawsBesides
import Derived.Outline
import Derived.Handy
import Derived.Deep.RegionHeld
set_option linter.unusedSimpArgs false
set_option linter.unusedVariables false
namespace Go.Proofs
open Go.Shelf Go.Lib
shelf_lay_g SlLaysF0.n6 Slsf 6 at Try 97 as Try.sortKn
end Go.Proofs
namespace Go.Proofs.Ytlomofcnknpciaa
open Go.RowKit Go.Sort

/-- Draws and blocks behind a world. -/
def GrowsW (w w' : World) : Prop := ∃ q os, w' = Sort.grow (w.drewN q) os
theorem GrowsW.refl (w : World) : GrowsW w w := ⟨0, #[], by rw [World.drewN_zero, Sort.grow_empty]⟩
theorem GrowsW.trans {a b c : World} (h : GrowsW a b) (h2 : GrowsW b c) : GrowsW a c := by
  obtain ⟨q, os, rfl⟩ := h
  obtain ⟨q2, os2, rfl⟩ := h2
  refine ⟨q + q2, os ++ os2, ?_⟩
  simp [Sort.grow, World.drewN, Nat.add_assoc]
theorem GrowsW.drewN {a b : World} (h : GrowsW a b) (n : Nat) : GrowsW a (b.drewN n) := h.trans ⟨n, #[], by rw [Sort.grow_empty]⟩
theorem GrowsW.drew {a b : World} (h : GrowsW a b) : GrowsW a b.drew := h.drewN 1
theorem GrowsW.alloc {a b : World} (h : GrowsW a b) (o : Obj) : GrowsW a (b.alloc o) := h.trans ⟨0, #[o], by rw [Sort.alloc_eq_grow]; rfl⟩
theorem GrowsW.below {a b : World} (h : GrowsW a b) : Below a.heap.size a b := by
  obtain ⟨q, os, rfl⟩ := h
  have h2 := growH_grown (a.drewN q) os none
  exact (below_drewN (Below.refl _ _) q).trans ⟨h2.os, h2.tape, h2.output, h2.size, fun k hk => h2.block k hk (by simp)⟩
def cmpK (x y : Kn) : Int := if x.d < y.d then -1 else if y.d < x.d then 1 else cmpT x.h y.h
def cmpD (x y : Kn) : Int := if x.d = y.d then cmpK x y else -(cmpK x y)
set_option maxHeartbeats 4000000 in
set_option maxRecDepth 100000 in
theorem Tell1_calls (c : Kn) (w : World) : Calls Try.prog 96 #[.agg c.cells.toArray] w fun e w' => e = .returned (.bool c.s.isEmpty) ∧ Below w.heap.size w w' := by
  have hA0 : Blk (w.alloc (.cells c.cells.toArray 164)) w.heap.size c.cells.toArray 164 := Blk.new _ _ _
  have hb0 : Below w.heap.size w (w.alloc (.cells c.cells.toArray 164)) := below_alloc1 _ _
  have hcs := kn_s (kn_blk hA0)
  rw [Nat.zero_add] at hcs
  go_enter Try.func96, Try.ntmps96
  go_wp2_with ((with_reducible show wpList _ _ _ (⟨some 4, _, _, _, _, _⟩ :: _) _ _); refine wpList_load1 rfl 9 (.tmp 3) rfl w.heap.size 33 (by rfl) _ _ hcs Try.underlying9 rfl ?_)
  go_returns
  exact ⟨rfl, hb0⟩
set_option maxHeartbeats 4000000 in
set_option maxRecDepth 100000 in
theorem order_calls (x y : Kn) (w : World) : Calls Try.prog 99 #[.agg x.cells.toArray, .agg y.cells.toArray] w fun e w' => e = .returned (.int .i64 (cmpK x y)) ∧ GrowsW w w' := by
  have hA0 : Blk ((w.alloc (.cells x.cells.toArray 164)).alloc (.cells y.cells.toArray 164)) w.heap.size x.cells.toArray 164 := (Blk.new _ _ _).alloc _
  have hB0 : Blk ((w.alloc (.cells x.cells.toArray 164)).alloc (.cells y.cells.toArray 164)) (w.heap.size + 1) y.cells.toArray 164 := blk_newAt (by simp)
  have hG0 : GrowsW w ((w.alloc (.cells x.cells.toArray 164)).alloc (.cells y.cells.toArray 164)) := ((GrowsW.refl w).alloc _).alloc _
  have hxd := kn_d (kn_blk hA0)
  have hyd := kn_d (kn_blk hB0)
  have hxh := kn_h (kn_blk hA0)
  have hyh := kn_h (kn_blk hB0)
  rw [Nat.zero_add] at hxd hyd
  obtain ⟨R, hR⟩ : ∃ R, R = cmpK x y := ⟨_, rfl⟩
  have HR := Lib.hid hR
  have HXX := Lib.hid x.hh
  have HYY := Lib.hid y.hh
  rw [← hR]
  clear hR
  by_cases h1 : x.d < y.d
  · have hR1 : R = -1 := by rw [HR.out, cmpK, if_pos h1]
    subst hR1
    go_enter Try.func99, Try.ntmps99
    go_wp2_with (first | ((with_reducible show wpList _ _ _ (⟨some 7, _, _, _, _, _⟩ :: _) _ _); refine wpList_load1 rfl 3 (.tmp 6) rfl w.heap.size 32 (by rfl) _ _ hxd Try.underlying3 rfl ?_) | ((with_reducible show wpList _ _ _ (⟨some 9, _, _, _, _, _⟩ :: _) _ _); refine wpList_load1 rfl 3 (.tmp 8) rfl (w.heap.size + 1) 32 (by rfl) _ _ hyd Try.underlying3 rfl ?_))
    go_returns
    exact ⟨rfl, hG0⟩
  · by_cases h2 : y.d < x.d
    · have hR1 : R = 1 := by rw [HR.out, cmpK, if_neg h1, if_pos h2]
      subst hR1
      go_enter Try.func99, Try.ntmps99
      go_wp2_with (first | ((with_reducible show wpList _ _ _ (⟨some 7, _, _, _, _, _⟩ :: _) _ _); refine wpList_load1 rfl 3 (.tmp 6) rfl w.heap.size 32 (by rfl) _ _ hxd Try.underlying3 rfl ?_) | ((with_reducible show wpList _ _ _ (⟨some 9, _, _, _, _, _⟩ :: _) _ _); refine wpList_load1 rfl 3 (.tmp 8) rfl (w.heap.size + 1) 32 (by rfl) _ _ hyd Try.underlying3 rfl ?_) | ((with_reducible show wpList _ _ _ (⟨some 13, _, _, _, _, _⟩ :: _) _ _); refine wpList_load1 rfl 3 (.tmp 12) rfl w.heap.size 32 (by rfl) _ _ hxd Try.underlying3 rfl ?_) | ((with_reducible show wpList _ _ _ (⟨some 15, _, _, _, _, _⟩ :: _) _ _); refine wpList_load1 rfl 3 (.tmp 14) rfl (w.heap.size + 1) 32 (by rfl) _ _ hyd Try.underlying3 rfl ?_))
      go_returns
      exact ⟨rfl, hG0⟩
    · have hR1 : R = cmpT x.h y.h := by rw [HR.out, cmpK, if_neg h1, if_neg h2]
      have he : x.d = y.d := by omega
      have HRH := Lib.hid hR1
      clear hR1 HR
      go_enter Try.func99, Try.ntmps99
      go_wp2_with (first | ((with_reducible show wpList _ _ _ (⟨some 7, _, _, _, _, _⟩ :: _) _ _); refine wpList_load1 rfl 3 (.tmp 6) rfl w.heap.size 32 (by rfl) _ _ hxd Try.underlying3 rfl ?_) | ((with_reducible show wpList _ _ _ (⟨some 9, _, _, _, _, _⟩ :: _) _ _); refine wpList_load1 rfl 3 (.tmp 8) rfl (w.heap.size + 1) 32 (by rfl) _ _ hyd Try.underlying3 rfl ?_) | ((with_reducible show wpList _ _ _ (⟨some 13, _, _, _, _, _⟩ :: _) _ _); refine wpList_load1 rfl 3 (.tmp 12) rfl w.heap.size 32 (by rfl) _ _ hxd Try.underlying3 rfl ?_) | ((with_reducible show wpList _ _ _ (⟨some 15, _, _, _, _, _⟩ :: _) _ _); refine wpList_load1 rfl 3 (.tmp 14) rfl (w.heap.size + 1) 32 (by rfl) _ _ hyd Try.underlying3 rfl ?_) | ((with_reducible show wpList _ _ _ (⟨some 18, _, _, _, _, _⟩ :: _) _ _); refine wpList_load_mid rfl 23 (.tmp 17) rfl w.heap.size 0 (by rfl) (x.h.map bv) _ hxh Try.underlying23 rfl (by rw [List.length_map, HXX.out]; exact Try.sizeHash) ?_) | ((with_reducible show wpList _ _ _ (⟨some 20, _, _, _, _, _⟩ :: _) _ _); refine wpList_load_mid rfl 23 (.tmp 19) rfl (w.heap.size + 1) 0 (by rfl) (y.h.map bv) _ hyh Try.underlying23 rfl (by rw [List.length_map, HYY.out]; exact Try.sizeHash) ?_))
      refine (Cmp_calls x.h y.h HXX.out HYY.out _).mono ?_
      rintro e w5 ⟨rfl, q5⟩
      have hG5 : GrowsW w w5 := hG0.trans q5
      go_wp2_with fail
      go_returns
      exact ⟨by rw [HRH.out]; rfl, hG5⟩
set_option maxHeartbeats 4000000 in
set_option maxRecDepth 100000 in
theorem Tell2_calls (x y : Kn) (w : World) : Calls Try.prog 98 #[.agg x.cells.toArray, .agg y.cells.toArray] w fun e w' => e = .returned (.int .i64 (cmpD x y)) ∧ GrowsW w w' := by
  have hA0 : Blk ((w.alloc (.cells x.cells.toArray 164)).alloc (.cells y.cells.toArray 164)) w.heap.size x.cells.toArray 164 := (Blk.new _ _ _).alloc _
  have hB0 : Blk ((w.alloc (.cells x.cells.toArray 164)).alloc (.cells y.cells.toArray 164)) (w.heap.size + 1) y.cells.toArray 164 := blk_newAt (by simp)
  have hG0 : GrowsW w ((w.alloc (.cells x.cells.toArray 164)).alloc (.cells y.cells.toArray 164)) := ((GrowsW.refl w).alloc _).alloc _
  have hxd := kn_d (kn_blk hA0)
  have hyd := kn_d (kn_blk hB0)
  rw [Nat.zero_add] at hxd hyd
  obtain ⟨R, hR⟩ : ∃ R, R = cmpD x y := ⟨_, rfl⟩
  have HR := Lib.hid hR
  rw [← hR]
  clear hR
  by_cases h1 : x.d = y.d
  · have hR1 : R = cmpK x y := by rw [HR.out, cmpD, if_pos h1]
    have HR1 := Lib.hid hR1
    have hde : decide (x.d = y.d) = true := decide_eq_true h1
    clear hR1 HR
    go_enter Try.func98, Try.ntmps98
    go_wp2_with (first | ((with_reducible show wpList _ _ _ (⟨some 6, _, _, _, _, _⟩ :: _) _ _); refine wpList_load1 rfl 3 (.tmp 5) rfl w.heap.size 32 (by rfl) _ _ hxd Try.underlying3 rfl ?_) | ((with_reducible show wpList _ _ _ (⟨some 8, _, _, _, _, _⟩ :: _) _ _); refine wpList_load1 rfl 3 (.tmp 7) rfl (w.heap.size + 1) 32 (by rfl) _ _ hyd Try.underlying3 rfl ?_) | ((with_reducible show wpList _ _ _ (⟨some 14, _, _, _, _, _⟩ :: _) _ _); refine wpList_load_mid rfl 164 (.tmp 2) rfl w.heap.size 0 (by rfl) x.cells _ (kn_blk hA0) Try.underlying164 rfl (kn_size x Try.sizeKn) ?_) | ((with_reducible show wpList _ _ _ (⟨some 15, _, _, _, _, _⟩ :: _) _ _); refine wpList_load_mid rfl 164 (.tmp 3) rfl (w.heap.size + 1) 0 (by rfl) y.cells _ (kn_blk hB0) Try.underlying164 rfl (kn_size y Try.sizeKn) ?_))
    refine (order_calls x y _).mono ?_
    rintro e w5 ⟨rfl, q5⟩
    have hG5 : GrowsW w w5 := hG0.trans q5
    go_wp2_with fail
    go_returns
    exact ⟨by rw [HR1.out]; rfl, hG5⟩
  · have hR1 : R = -(cmpK x y) := by rw [HR.out, cmpD, if_neg h1]
    have hcv : cmpK x y = 1 ∨ cmpK x y = -1 := by
      unfold cmpK
      by_cases h2 : x.d < y.d
      · rw [if_pos h2]; exact .inr rfl
      · rw [if_neg h2, if_pos (by omega)]; exact .inl rfl
    have hw : IntKind.i64.wrap (-(cmpK x y)) = R := by rw [hR1]; rcases hcv with e | e <;> rw [e] <;> rfl
    obtain ⟨C, hC⟩ : ∃ C, C = cmpK x y := ⟨_, rfl⟩
    have co := order_calls x y
    rw [← hC] at hw co
    clear hR1 HR hC hcv
    go_enter Try.func98, Try.ntmps98
    go_wp2_with (first | ((with_reducible show wpList _ _ _ (⟨some 6, _, _, _, _, _⟩ :: _) _ _); refine wpList_load1 rfl 3 (.tmp 5) rfl w.heap.size 32 (by rfl) _ _ hxd Try.underlying3 rfl ?_) | ((with_reducible show wpList _ _ _ (⟨some 8, _, _, _, _, _⟩ :: _) _ _); refine wpList_load1 rfl 3 (.tmp 7) rfl (w.heap.size + 1) 32 (by rfl) _ _ hyd Try.underlying3 rfl ?_) | ((with_reducible show wpList _ _ _ (⟨some 10, _, _, _, _, _⟩ :: _) _ _); refine wpList_load_mid rfl 164 (.tmp 2) rfl w.heap.size 0 (by rfl) x.cells _ (kn_blk hA0) Try.underlying164 rfl (kn_size x Try.sizeKn) ?_) | ((with_reducible show wpList _ _ _ (⟨some 11, _, _, _, _, _⟩ :: _) _ _); refine wpList_load_mid rfl 164 (.tmp 3) rfl (w.heap.size + 1) 0 (by rfl) y.cells _ (kn_blk hB0) Try.underlying164 rfl (kn_size y Try.sizeKn) ?_))
    refine (co _).mono ?_
    rintro e w5 ⟨rfl, q5⟩
    have hG5 : GrowsW w w5 := hG0.trans q5
    clear co
    go_wp2_with fail
    go_returns
    exact ⟨by rw [← hw]; rfl, hG5⟩
/-- The keys' order. -/
theorem cmpT_tri (x y : Kn) : cmpT y.h x.h = -(cmpT x.h y.h) := by have := cmpT_swap x.h y.h; omega
theorem cmpK_tri (x y : Kn) : cmpK y x = -(cmpK x y) := by
  unfold cmpK
  have e := cmpT_tri x y
  by_cases h1 : x.d < y.d
  · rw [if_pos h1, if_neg (by omega), if_pos h1]; rfl
  · by_cases h2 : y.d < x.d
    · rw [if_pos h2, if_neg h1, if_pos h2]
    · rw [if_neg h2, if_neg h1, if_neg h1, if_neg h2, e]
theorem cmpT_le_trans {a b c : Kn} (h1 : cmpT a.h b.h < 0) (h2 : cmpT b.h c.h < 0) : cmpT a.h c.h < 0 := cmpT_trans _ _ _ (by rw [a.hh, b.hh]) (by rw [b.hh, c.hh]) h1 h2
theorem cmpK_lt (x y : Kn) : cmpK x y < 0 ↔ x.d < y.d ∨ x.d = y.d ∧ cmpT x.h y.h < 0 := by
  unfold cmpK
  by_cases h1 : x.d < y.d
  · rw [if_pos h1]; simp [h1]
  · by_cases h2 : y.d < x.d
    · rw [if_neg h1, if_pos h2]
      constructor
      · intro h; omega
      · rintro (h | ⟨h, _⟩) <;> omega
    · rw [if_neg h1, if_neg h2]
      constructor
      · intro h; exact .inr ⟨by omega, h⟩
      · rintro (h | ⟨_, h⟩)
        · omega
        · exact h
theorem cmpD_lt (x y : Kn) : cmpD x y < 0 ↔ y.d < x.d ∨ x.d = y.d ∧ cmpT x.h y.h < 0 := by
  unfold cmpD
  by_cases h : x.d = y.d
  · rw [if_pos h, cmpK_lt]
    constructor
    · rintro (h1 | h1)
      · omega
      · exact .inr h1
    · rintro (h1 | h1)
      · omega
      · exact .inr h1
  · rw [if_neg h]
    have := cmpK_lt x y
    have := cmpK_lt y x
    rw [cmpK_tri x y] at this
    rw [this]
    constructor
    · rintro (h1 | ⟨h1, _⟩)
      · exact .inl h1
      · omega
    · rintro (h1 | ⟨h1, _⟩)
      · exact .inl h1
      · omega
/-- Two keys are one. -/
theorem key_eq {x y : Kn} (h1 : ¬ cmpT x.h y.h < 0) (h2 : ¬ cmpT y.h x.h < 0) : x.h = y.h := by
  have := cmpT_tri x y
  exact cmpT_eq _ _ (by rw [x.hh, y.hh]) (by omega)
theorem cmpT_ntrans {x y z : Kn} (h1 : ¬ cmpT x.h y.h < 0) (h2 : ¬ cmpT y.h z.h < 0) : ¬ cmpT x.h z.h < 0 := by
  intro h
  by_cases e : cmpT y.h x.h < 0
  · exact h2 (cmpT_le_trans e h)
  · rw [← key_eq h1 e] at h2
    exact h2 h
theorem cmpK_swo : SWO (ltOf cmpK) where
  irrefl x := by
    show decide (cmpK x x < 0) = false
    rw [decide_eq_false_iff_not, cmpK_lt, cmpT_self]; omega
  trans x y z h1 h2 := by
    have h1 : cmpK x y < 0 := of_decide_eq_true h1
    have h2 : cmpK y z < 0 := of_decide_eq_true h2
    refine decide_eq_true ?_
    rw [cmpK_lt] at *
    rcases h1 with h1 | ⟨h1, h3⟩ <;> rcases h2 with h2 | ⟨h2, h4⟩
    · exact .inl (by omega)
    · exact .inl (by omega)
    · exact .inl (by omega)
    · exact .inr ⟨by omega, cmpT_le_trans h3 h4⟩
  ntrans x y z h1 h2 := by
    have h1 : ¬ cmpK x y < 0 := of_decide_eq_false h1
    have h2 : ¬ cmpK y z < 0 := of_decide_eq_false h2
    refine decide_eq_false ?_
    rw [cmpK_lt] at *
    simp only [not_or, not_and] at *
    refine ⟨by omega, fun e => ?_⟩
    exact cmpT_ntrans (h1.2 (by omega)) (h2.2 (by omega))
theorem cmpD_swo : SWO (ltOf cmpD) where
  irrefl x := by
    show decide (cmpD x x < 0) = false
    rw [decide_eq_false_iff_not, cmpD_lt, cmpT_self]; omega
  trans x y z h1 h2 := by
    have h1 : cmpD x y < 0 := of_decide_eq_true h1
    have h2 : cmpD y z < 0 := of_decide_eq_true h2
    refine decide_eq_true ?_
    rw [cmpD_lt] at *
    rcases h1 with h1 | ⟨h1, h3⟩ <;> rcases h2 with h2 | ⟨h2, h4⟩
    · exact .inl (by omega)
    · exact .inl (by omega)
    · exact .inl (by omega)
    · exact .inr ⟨by omega, cmpT_le_trans h3 h4⟩
  ntrans x y z h1 h2 := by
    have h1 : ¬ cmpD x y < 0 := of_decide_eq_false h1
    have h2 : ¬ cmpD y z < 0 := of_decide_eq_false h2
    refine decide_eq_false ?_
    rw [cmpD_lt] at *
    simp only [not_or, not_and] at *
    refine ⟨by omega, fun e => ?_⟩
    exact cmpT_ntrans (h1.2 (by omega)) (h2.2 (by omega))
theorem holdsR_own {α : Type} [Inhabited α] {cells : α → List Value} {size : Nat} (hs : ∀ x, (cells x).length = size) (h0 : 0 < size) {w : World} {g c : Nat} {l : List α} {base n : Nat} {e : TypeId} (h : ROwn cells size w base e (.slice (some ⟨g, 0, none⟩) n c) l) : HoldsK cells size w g 0 l.toArray := by
  intro j hj
  have hj' : j < l.length * size := by simpa using hj
  have hi : j / size < l.length := (Nat.div_lt_iff_lt_mul h0).2 hj'
  have hm : j % size < size := Nat.mod_lt _ h0
  have hr := h.at.range' hs (j / size) l[j / size] (List.getElem?_eq_getElem hi)
  have e2 : j / size * size + j % size = j := by rw [Nat.mul_comm]; exact Nat.div_add_mod j size
  rw [get_flatK _ _ _ _ (by simpa using hj')]
  refine ⟨?_, ?_⟩
  · have h1 := hr (j % size) ((cells l[j / size])[j % size]'(by rw [hs]; exact hm)) (List.getElem?_eq_getElem _)
    rw [show 0 + j / size * size + j % size = 0 + j by omega] at h1
    rw [h1]
    have e : l.toArray[j / size]! = l[j / size] := by rw [getElem!_pos _ _ (by simpa using hi)]; simp
    rw [e, getElem!_pos _ _ (by rw [hs]; exact hm)]
    rfl
  · rcases h.2 with ⟨h0, _⟩ | ⟨g', cap, cur, he, _, hg, _⟩
    · simp at h0
    · simp only [Value.slice.injEq, Option.some.injEq, Addr.mk.injEq] at he
      obtain ⟨⟨rfl, _⟩, _, rfl⟩ := he
      simp [World.frozen?, hg]
theorem pairwise_of_sorted {α : Type} [Inhabited α] {lt : α → α → Bool} {d : Array α} (h : SortedIn lt 0 d.size d) : d.toList.Pairwise fun x y => lt y x = false := by
  rw [List.pairwise_iff_getElem]
  intro i j hi hj hij
  have := h i j (Nat.zero_le _) hij (by simpa using hj)
  rw [getElem!_pos _ _ (by simpa using hj), getElem!_pos _ _ (by simpa using hi)] at this
  simpa using this
set_option maxHeartbeats 4000000 in
set_option maxRecDepth 100000 in
theorem SortK_calls {F : FuncId} {cf : Kn → Kn → Int} (hO : SWO (ltOf cf)) (eg : ∀ args w, (callFunc F args).run Try.prog w = .ok (.enter F args) w) (hc : ∀ x y w, Calls Try.prog F #[.agg x.cells.toArray, .agg y.cells.toArray] w fun e w' => e = .returned (.int .i64 (cf x y)) ∧ GrowsW w w')
    (base : Nat) (v : Value) (l : List Kn) (w : World) (h : KnOwn w base 164 v l) (hn : l.length ≤ 1000000) :
    Calls Try.prog 97 #[v, .func (.func F) #[] #[]] w fun e w' => e = .returned (.tuple #[]) ∧ ∃ R, R.Perm l ∧ (R.Pairwise fun x y => ¬ cf y x < 0) ∧ KnOwn w' base 164 v R ∧ w.grownBy w' v.ownBlock := by
  rcases h.2 with ⟨rfl, h0⟩ | ⟨g, cap, cur, rfl, hb, hg, h1, h2, h3, h4⟩
  · have hcall := AnyF.slices_SortFunc_none Try.sortKn none 0 (.func (.func F) #[] #[]) w
    change Calls Try.prog 97 _ _ _ at hcall
    refine hcall.mono ?_
    rintro e w' ⟨rfl, rfl⟩
    obtain rfl := List.eq_nil_of_length_eq_zero h0
    exact ⟨rfl, [], List.Perm.refl _, List.Pairwise.nil, ROwn.nil _ _ _, World.grownBy.refl _ _⟩
  · have hH := holdsR_own Kn.cells_len (by omega) h
    have hgl := lt_of_block hg
    have hcmp : CmpLays Try.prog F #[] Kn.cells 34 cf g 0 l.toArray.size w := fun m os dk _ x y => hc x y _
    have hcall := AnyQ.slices_SortFunc Try.sortKn 34 Try.isAgg164 Try.sizeOf164 Kn.cells Kn.cells_len Kn.one cf hO F #[] g 0 cap l.toArray w eg hcmp hH hgl (by simp; omega)
    change Calls Try.prog 97 _ _ _ at hcall
    rw [List.size_toArray] at hcall
    refine hcall.mono ?_
    rintro e w' ⟨rfl, d, n, os, hp, hs, rfl⟩
    obtain ⟨R, rfl⟩ : ∃ R : List Kn, d = R.toArray := ⟨d.toList, rfl⟩
    have hRl : R.length = l.length := by have := hp.1; simpa using this
    have hperm : R.Perm l := by
      have := hp.2.2
      simpa [List.take_of_length_le (Nat.le_of_eq hRl)] using this
    have hHR : HoldsK Kn.cells 34 (sortWorldK Kn.cells 34 w g 0 n R.toArray os) g 0 R.toArray := holdsK_grow Kn.cells 34 _ os g 0 R.toArray (by rw [size_putRowK]; exact hgl) (holdsK_putRowK Kn.cells 34 _ g 0 l.toArray R.toArray (holdsK_ahead Kn.cells 34 w n g 0 l.toArray hH) (by simp [hRl]))
    have hgr : w.grownBy (sortWorldK Kn.cells 34 w g 0 n R.toArray os) (some g) := grown_trans (grown_trans (aheadH_grown w n _) (putRowH_grown _ _ _ _ _)) (growH_grown _ _ _)
    refine ⟨rfl, R, hperm, ?_, ?_, hgr⟩
    · rw [← hRl, show R.length = R.toArray.size by simp] at hs
      have := pairwise_of_sorted hs
      exact this.imp fun {x y} hxy => of_decide_eq_false hxy
    · have hG : ∃ cur', (sortWorldK Kn.cells 34 w g 0 n R.toArray os).heap[g]? = some (.cells cur' 164 (0, 0)) ∧ cur'.size = cur.size := by
        refine ⟨putCells id 0 (flatK Kn.cells 34 R.toArray) cur, ?_, by simp [putCells]⟩
        simp only [sortWorldK, putRowK, Sort.grow, putRow, mapBlock, Sort.ahead]
        rw [Array.getElem?_append_left (by simp; exact hgl), Array.getElem?_modify, if_pos rfl, hg]
        rfl
      obtain ⟨cur', hG1, hG2⟩ := hG
      show World.ownsRow _ _ _ _ _ _ _
      rw [hRl]
      refine own_of_cells hG1 hb h1 h2 (by rw [hG2, h3]) (by rw [flat_len _ (fun x _ => x.cells_len), hRl]) fun j u hj => ?_
      have hjl : j < R.length * 34 := by have := (List.getElem?_eq_some_iff.1 hj).1; rwa [flat_len R (fun x _ => x.cells_len)] at this
      have hi : j / 34 < R.length := by omega
      have hk := (HoldsK.cell hHR (i := j / 34) (c := j % 34) (by simpa using hi) (by omega)).1
      rw [show 0 + j / 34 * 34 + j % 34 = 0 + j by omega, Nat.zero_add] at hk
      rw [hk]
      have e : R.toArray[j / 34]! = R[j / 34] := by rw [getElem!_pos _ _ (by simpa using hi)]; simp
      have e1 := flat_at Kn.cells_len R (j / 34) R[j / 34] (j % 34) (List.getElem?_eq_getElem hi) (by omega)
      rw [show j / 34 * 34 + j % 34 = j by omega, hj] at e1
      rw [e, e1, getElem!_pos _ _ (by rw [Kn.cells_len]; omega)]
      exact (List.getElem?_eq_getElem _).symm
end Go.Proofs.Ytlomofcnknpciaa
