/-
  bevyref19.ahead and sorted.
-/
import Derived.Test.YtlomofcnknpciaaGleanMk
import Derived.Test.YtlomofcnknpciaaShaCmp
import Derived.WalkLawsBesides
import Derived.Laws.AppendOwnNone
import Derived.Outline
import Derived.Handy
import Derived.Deep.RegionHeld
set_option linter.unusedSimpArgs false
set_option linter.unusedVariables false
namespace Go.Proofs.Ytlomofcnknpciaa
open Go.RowKit

def cmpX (deep : Bool) : Kn → Kn → Int := if deep then cmpD else cmpK
theorem cmpX_swo (deep : Bool) : Sort.SWO (ltOf (cmpX deep)) := by
  cases deep
  · exact cmpK_swo
  · exact cmpD_swo
theorem cmpX_trans {deep : Bool} {x y z : Kn} (h1 : cmpX deep x y < 0) (h2 : cmpX deep y z < 0) : cmpX deep x z < 0 :=
  of_decide_eq_true ((cmpX_swo deep).trans x y z (decide_eq_true h1) (decide_eq_true h2))
theorem cmpX_irr {deep : Bool} (x : Kn) : ¬ cmpX deep x x < 0 := of_decide_eq_false ((cmpX_swo deep).irrefl x)
/-- One set into its place. -/
theorem ins_sorted {deep : Bool} {R : List Kn} {c : Kn} {k : Nat} (hs : R.Pairwise fun x y => 0 ≤ cmpX deep y x) (hp : ∀ j x, j < k → R[j]? = some x → 0 ≤ cmpX deep c x) (he : k = R.length ∨ ∃ y, R[k]? = some y ∧ cmpX deep c y < 0) :
    (R.take k ++ [c] ++ R.drop k).Pairwise fun x y => 0 ≤ cmpX deep y x := by
  have hlow : ∀ y ∈ R.drop k, ¬ cmpX deep y c < 0 := by
    intro y hy hlt
    rcases he with he | ⟨z, hz, hcz⟩
    · rw [he, List.drop_length] at hy; cases hy
    · have h2 := cmpX_trans hlt hcz
      obtain ⟨i, hi⟩ := List.getElem?_of_mem hy
      rw [List.getElem?_drop] at hi
      obtain ⟨hk, ez⟩ := List.getElem?_eq_some_iff.1 hz
      by_cases hi0 : i = 0
      · subst hi0
        rw [Nat.add_zero, hz] at hi
        obtain rfl := Option.some.inj hi
        exact cmpX_irr _ h2
      · obtain ⟨hk2, ey⟩ := List.getElem?_eq_some_iff.1 hi
        have := List.pairwise_iff_getElem.1 hs k (k + i) hk hk2 (by omega)
        rw [ez, ey] at this
        omega
  rw [List.pairwise_append, List.pairwise_append]
  refine ⟨⟨hs.sublist (List.take_sublist _ _), List.pairwise_singleton _ _, fun x hx y hy => ?_⟩, hs.sublist (List.drop_sublist _ _), fun x hx y hy => ?_⟩
  · obtain rfl := List.mem_singleton.1 hy
    obtain ⟨i, hi⟩ := List.getElem?_of_mem hx
    have hik : i < k := by have := (List.getElem?_eq_some_iff.1 hi).1; rw [List.length_take] at this; omega
    rw [List.getElem?_take_of_lt hik] at hi
    have := hp i x hik hi
    omega
  · rcases List.mem_append.1 hx with hx | hx
    · have h3 : R = R.take k ++ R.drop k := (List.take_append_drop k R).symm
      rw [h3, List.pairwise_append] at hs
      exact hs.2.2 x hx y hy
    · obtain rfl := List.mem_singleton.1 hx
      have := hlow y hy
      omega
theorem ins_perm {R l : List Kn} {c : Kn} {k i : Nat} (h : R.Perm (l.take i)) (hc : l[i]? = some c) : (R.take k ++ [c] ++ R.drop k).Perm (l.take (i + 1)) := by
  rw [List.take_add_one, hc]
  show List.Perm _ (l.take i ++ [c])
  refine List.Perm.trans ?_ (h.append_right [c])
  rw [List.append_assoc]
  refine (List.Perm.append_left _ (List.perm_append_comm (l₁ := [c]) (l₂ := R.drop k))).trans ?_
  rw [← List.append_assoc, List.take_append_drop]
theorem ROwn.nonec {α : Type} {cells : α → List Value} {size : Nat} {w : World} {base : Nat} {e : TypeId} {n c : Nat} {l : List α} (h : ROwn cells size w base e (.slice none n c) l) : c = 0 ∧ l = [] := by
  rcases h.2 with ⟨h0, h1⟩ | ⟨g, cap, cur, e1, hb, hg, h1, _⟩
  · injection h0 with _ h2 h3; exact ⟨h3, List.eq_nil_of_length_eq_zero h1⟩
  · injection e1 with h2; cases h2
theorem ROwn.shape {α : Type} {cells : α → List Value} {size : Nat} {w : World} {base : Nat} {e : TypeId} {ao : Option Addr} {n c : Nat} {l : List α} (h : ROwn cells size w base e (.slice ao n c) l) : ao = none ∨ ∃ g, ao = some ⟨g, 0, none⟩ := by
  rcases h.2 with ⟨h0, h1⟩ | ⟨g, cap, cur, e1, hb, hg, h1, _⟩
  · injection h0 with h2; exact .inl h2
  · injection e1 with h2; exact .inr ⟨g, h2⟩
set_option maxHeartbeats 4000000 in
set_option maxRecDepth 100000 in
theorem ahead_calls (x y : Kn) (deep : Bool) (w : World) : Calls Try.prog 149 #[.agg x.cells.toArray, .agg y.cells.toArray, .bool deep] w fun e w' => e = .returned (.bool (decide (cmpX deep x y < 0))) ∧ Below w.heap.size w w' := by
  have hA0 : Blk ((w.alloc (.cells x.cells.toArray 88)).alloc (.cells y.cells.toArray 88)) w.heap.size x.cells.toArray 88 := (Blk.new _ _ _).alloc _
  have hB0 : Blk ((w.alloc (.cells x.cells.toArray 88)).alloc (.cells y.cells.toArray 88)) (w.heap.size + 1) y.cells.toArray 88 := blk_newAt (by simp)
  have hb0 : Below w.heap.size w ((w.alloc (.cells x.cells.toArray 88)).alloc (.cells y.cells.toArray 88)) := (below_alloc1 _ _).alloc (by simp) _
  have hxd := kn_d (kn_blk hA0)
  have hyd := kn_d (kn_blk hB0)
  have hxh := kn_h (kn_blk hA0)
  have hyh := kn_h (kn_blk hB0)
  rw [Nat.zero_add] at hxd hyd
  obtain ⟨R, hR⟩ : ∃ R, R = decide (cmpX deep x y < 0) := ⟨_, rfl⟩
  have HR := Lib.hid hR
  have HXX := Lib.hid x.hh
  have HYY := Lib.hid y.hh
  rw [← hR]
  clear hR
  by_cases h1 : x.d = y.d
  · have hde : decide (x.d = y.d) = true := decide_eq_true h1
    have hR1 : Hid (R = ltT x.h y.h) := by
      show _ = _
      rw [HR.out]
      cases deep
      · show decide (cmpK x y < 0) = decide (cmpT x.h y.h < 0)
        congr 1
        rw [cmpK_lt, eq_iff_iff]
        constructor
        · rintro (h | h)
          · omega
          · exact h.2
        · exact fun h => .inr ⟨h1, h⟩
      · show decide (cmpD x y < 0) = decide (cmpT x.h y.h < 0)
        congr 1
        rw [cmpD_lt, eq_iff_iff]
        constructor
        · rintro (h | h)
          · omega
          · exact h.2
        · exact fun h => .inr ⟨h1, h⟩
    go_enter Try.func149, Try.ntmps149
    go_wp2_with (first | ((with_reducible show wpList _ _ _ (⟨some 8, _, _, _, _, _⟩ :: _) _ _); refine wpList_load1 rfl 3 (.tmp 7) rfl w.heap.size 32 (by rfl) _ _ hxd Try.underlying3 rfl ?_) | ((with_reducible show wpList _ _ _ (⟨some 10, _, _, _, _, _⟩ :: _) _ _); refine wpList_load1 rfl 3 (.tmp 9) rfl (w.heap.size + 1) 32 (by rfl) _ _ hyd Try.underlying3 rfl ?_) | ((with_reducible show wpList _ _ _ (⟨some 20, _, _, _, _, _⟩ :: _) _ _); refine wpList_load_mid rfl 23 (.tmp 19) rfl w.heap.size 0 (by rfl) (x.h.map bv) _ hxh Try.underlying23 rfl (by rw [List.length_map, HXX.out]; exact Try.sizeHash) ?_) | ((with_reducible show wpList _ _ _ (⟨some 22, _, _, _, _, _⟩ :: _) _ _); refine wpList_load_mid rfl 23 (.tmp 21) rfl (w.heap.size + 1) 0 (by rfl) (y.h.map bv) _ hyh Try.underlying23 rfl (by rw [List.length_map, HYY.out]; exact Try.sizeHash) ?_))
    refine (Less_calls x.h y.h HXX.out HYY.out _).mono ?_
    rintro e w5 ⟨rfl, b5⟩
    have hB5 := hb0.trans (b5.mono hb0.size)
    clear b5
    go_wp2_with fail
    go_returns
    exact ⟨by rw [hR1.out]; rfl, hB5⟩
  · have hde : decide (x.d = y.d) = false := decide_eq_false h1
    have hR1 : R = (decide (y.d < x.d) == deep) := by
      rw [HR.out]
      cases deep
      · have : (cmpX false x y < 0) ↔ ¬ y.d < x.d := by
          rw [show cmpX false = cmpK from rfl, cmpK_lt]
          constructor
          · rintro (h | h) <;> omega
          · intro h; exact .inl (by omega)
        by_cases e : y.d < x.d <;> simp [this, e]
      · have : (cmpX true x y < 0) ↔ y.d < x.d := by
          rw [show cmpX true = cmpD from rfl, cmpD_lt]
          constructor
          · rintro (h | h)
            · exact h
            · omega
          · intro h; exact .inl h
        by_cases e : y.d < x.d <;> simp [this, e]
    have HR1 := Lib.hid hR1
    clear hR1 HR
    by_cases h2 : y.d < x.d
    · have hd2 : decide (y.d < x.d) = true := decide_eq_true h2
      have HD2 := Lib.hid hd2
      go_enter Try.func149, Try.ntmps149
      go_wp2_with (first | ((with_reducible show wpList _ _ _ (⟨some 8, _, _, _, _, _⟩ :: _) _ _); refine wpList_load1 rfl 3 (.tmp 7) rfl w.heap.size 32 (by rfl) _ _ hxd Try.underlying3 rfl ?_) | ((with_reducible show wpList _ _ _ (⟨some 10, _, _, _, _, _⟩ :: _) _ _); refine wpList_load1 rfl 3 (.tmp 9) rfl (w.heap.size + 1) 32 (by rfl) _ _ hyd Try.underlying3 rfl ?_) | ((with_reducible show wpList _ _ _ (⟨some 13, _, _, _, _, _⟩ :: _) _ _); refine wpList_load1 rfl 3 (.tmp 12) rfl w.heap.size 32 (by rfl) _ _ hxd Try.underlying3 rfl ?_) | ((with_reducible show wpList _ _ _ (⟨some 15, _, _, _, _, _⟩ :: _) _ _); refine wpList_load1 rfl 3 (.tmp 14) rfl (w.heap.size + 1) 32 (by rfl) _ _ hyd Try.underlying3 rfl ?_))
      go_returns
      exact ⟨by rw [HR1.out, HD2.out]; cases deep <;> rfl, hb0⟩
    · have hd2 : decide (y.d < x.d) = false := decide_eq_false h2
      have HD2 := Lib.hid hd2
      go_enter Try.func149, Try.ntmps149
      go_wp2_with (first | ((with_reducible show wpList _ _ _ (⟨some 8, _, _, _, _, _⟩ :: _) _ _); refine wpList_load1 rfl 3 (.tmp 7) rfl w.heap.size 32 (by rfl) _ _ hxd Try.underlying3 rfl ?_) | ((with_reducible show wpList _ _ _ (⟨some 10, _, _, _, _, _⟩ :: _) _ _); refine wpList_load1 rfl 3 (.tmp 9) rfl (w.heap.size + 1) 32 (by rfl) _ _ hyd Try.underlying3 rfl ?_) | ((with_reducible show wpList _ _ _ (⟨some 13, _, _, _, _, _⟩ :: _) _ _); refine wpList_load1 rfl 3 (.tmp 12) rfl w.heap.size 32 (by rfl) _ _ hxd Try.underlying3 rfl ?_) | ((with_reducible show wpList _ _ _ (⟨some 15, _, _, _, _, _⟩ :: _) _ _); refine wpList_load1 rfl 3 (.tmp 14) rfl (w.heap.size + 1) 32 (by rfl) _ _ hyd Try.underlying3 rfl ?_))
      go_returns
      exact ⟨by rw [HR1.out, HD2.out]; cases deep <;> rfl, hb0⟩
set_option maxHeartbeats 16000000 in
set_option maxRecDepth 100000 in
theorem sorted_calls (deep : Bool) (v : Value) (l : List Kn) (w : World) (h : KnAt w v l) (hn : l.length ≤ 1000) :
    Calls Try.prog 100 #[v, .bool deep] w fun e w' => ∃ v', e = .returned v' ∧ ∃ R : List Kn, R.Perm l ∧ (R.Pairwise fun x y => 0 ≤ cmpX deep y x) ∧ KnOwn w' w.heap.size 88 v' R ∧ Below w.heap.size w w' := by
  obtain ⟨ao, cc, rfl⟩ := h.slice
  have H := Lib.hid h
  obtain ⟨n, hnn⟩ : ∃ n, n = l.length := ⟨_, rfl⟩
  have HN := Lib.hid hnn
  rw [← hnn] at hn H ⊢
  have hb0 := Lib.hid (Below.refl w.heap.size w)
  clear h hnn
  go_enter Try.func100, Try.ntmps100
  go_wp2_with fail
  go_loopw [5, 6] (fun lv iv wr => ∃ (i : Nat) (R : List Kn), i ≤ n ∧ iv = .int .i64 i ∧ Hid (R.Perm (l.take i)) ∧ Hid (R.Pairwise fun x y => 0 ≤ cmpX deep y x) ∧ Hid (R.length = i) ∧ Hid (KnOwn wr w.heap.size 88 lv R) ∧ Hid (Below w.heap.size w wr)) (fun _ iv _ => n - (intOf iv).toNat)
  case atStart => exact ⟨0, [], by omega, rfl, Lib.hid (by simp), Lib.hid List.Pairwise.nil, Lib.hid rfl, Lib.hid (ROwn.nil _ _ _), hb0⟩
  case round =>
    obtain ⟨i, R, hi, rfl, hP, hS, hL, hR, hB⟩ := hrel
    clear hb0
    obtain ⟨rao, rc, rfl⟩ := hR.out.slice
    have hcap := hR.out.cap
    obtain ⟨m, hm⟩ : ∃ m, m = R.length := ⟨_, rfl⟩
    have HM := Lib.hid hm
    have hml : m ≤ 1000 := by have := hL.out; omega
    rw [← hm] at hR hcap ⊢
    clear hm
    by_cases hlt : i < n
    · obtain ⟨c, hc⟩ : ∃ c, l[i]? = some c := ⟨_, List.getElem?_eq_getElem (by rw [← HN.out]; exact hlt)⟩
      obtain ⟨g, o, rfl, _⟩ := H.out.range Kn.cells_len i c hc
      have HRG : Hid (∀ z, Below w.heap.size w z → z.rangeAt g (o + i * 34) c.cells) := fun z hz => (H.out.below hz).range' Kn.cells_len i c hc
      have HCI := Lib.hid hc
      clear hc
      go_wp2_with fail
      go_loopw [7] (fun kv z2 => ∃ (k : Nat), k ≤ m ∧ kv = .int .i64 k ∧ Hid (∀ j x, j < k → R[j]? = some x → 0 ≤ cmpX deep c x) ∧ Hid (KnOwn z2 w.heap.size 88 (.slice rao m rc) R) ∧ Hid (Below w.heap.size w z2)) (fun kv _ => m - (intOf kv).toNat)
      case atStart => exact ⟨0, by omega, rfl, Lib.hid (fun j x hj => by omega), hR, hB⟩
      case round =>
        obtain ⟨k, hkl, rfl, hpre, hRk, hBk⟩ := hrel
        obtain ⟨z2, rfl⟩ : ∃ z, z = wr := ⟨_, rfl⟩
        clear hR hB
        by_cases hkk : k < m
        · obtain ⟨y, hy⟩ : ∃ y, R[k]? = some y := ⟨_, List.getElem?_eq_getElem (by rw [← HM.out]; exact hkk)⟩
          obtain ⟨rg, ro, rfl, _⟩ := hRk.out.at.range Kn.cells_len k y hy
          obtain rfl : ro = 0 := by
            rcases hRk.out.shape with e | ⟨g', e⟩
            · cases e
            · simp only [Option.some.injEq, Addr.mk.injEq] at e; exact e.2.1
          have HY := Lib.hid hy
          have hbr := Below.refl z2.heap.size z2
          have HRY : Hid (∀ z, Below z2.heap.size z2 z → z.rangeAt rg (k * 34) y.cells) := fun z hz => by have := (hRk.out.below hz).at.range' Kn.cells_len k y hy; rwa [Nat.zero_add] at this
          have HRC : Hid (∀ z, Below z2.heap.size z2 z → z.rangeAt g (o + i * 34) c.cells) := fun z hz => HRG.out z (hBk.out.trans (hz.mono hBk.out.size))
          have hkc : ¬ rc = k := by omega
          have hkc2 : rc - k ≠ 0 := by omega
          clear hy
          by_cases hah : cmpX deep c y < 0
          · have cA : ∀ z, Calls Try.prog 149 #[.agg c.cells.toArray, .agg y.cells.toArray, .bool deep] z fun e w' => e = .returned (.bool true) ∧ Below z.heap.size z w' := fun z => by have := ahead_calls c y deep z; rwa [decide_eq_true hah] at this
            have HAH := Lib.hid hah
            clear hah
            go_wp2_with fail
            refine wp_region_held_drew (S := fun x => Below z2.heap.size z2 x) (by kernel_rfl) (below_drewN hbr 1) (fun hSq1 => ?_)
            refine wpAnyH_take (i := 0) (v := .int .i64 k) rfl (by kernel_rfl) (by kernel_rfl) (by kernel_rfl) (fun _ _ _ h => h) (Or.inl ⟨by rfl, fun x hx => by go_simp⟩) hSq1 ?_
            simp only [Act.put, List.getElem_toArray, List.getElem_cons_zero, List.getElem_cons_succ, List.setIfInBounds_toArray, List.set_cons_zero, List.set_cons_succ]
            refine wpAnyH_take (i := 1) (v := .slice (some ⟨rg, 0, none⟩) m rc) rfl (by kernel_rfl) (by kernel_rfl) (by kernel_rfl) (fun _ _ _ h => h) (Or.inl ⟨by rfl, fun x hx => by go_simp⟩) hSq1 ?_
            simp only [Act.put, List.getElem_toArray, List.getElem_cons_zero, List.getElem_cons_succ, List.setIfInBounds_toArray, List.set_cons_zero, List.set_cons_succ]
            refine wpAnyH_take (i := 2) (v := .int .i64 m) rfl (by kernel_rfl) (by kernel_rfl) (by kernel_rfl) (fun _ _ _ h => h) (Or.inl ⟨by rfl, fun x hx => by go_simp⟩) hSq1 ?_
            simp only [Act.put, List.getElem_toArray, List.getElem_cons_zero, List.getElem_cons_succ, List.setIfInBounds_toArray, List.set_cons_zero, List.set_cons_succ]
            refine wpAnyH_take (i := 3) (v := .bool true) rfl (by kernel_rfl) (by kernel_rfl) (by kernel_rfl) (fun _ _ _ h => h) (Or.inl ⟨by rfl, fun x hx => by go_simp⟩) hSq1 ?_
            simp only [Act.put, List.getElem_toArray, List.getElem_cons_zero, List.getElem_cons_succ, List.setIfInBounds_toArray, List.set_cons_zero, List.set_cons_succ]
            refine wpAnyH_take (i := 4) (v := .bool true) rfl (by kernel_rfl) (by kernel_rfl) (by kernel_rfl) (fun _ _ _ h => h) (Or.inl ⟨by rfl, fun x hx => by go_simp⟩) hSq1 ?_
            simp only [Act.put, List.getElem_toArray, List.getElem_cons_zero, List.getElem_cons_succ, List.setIfInBounds_toArray, List.set_cons_zero, List.set_cons_succ]
            refine wpAnyH_take (i := 5) (v := .slice (some ⟨g, o, none⟩) n cc) rfl (by kernel_rfl) (by kernel_rfl) (by kernel_rfl) (fun _ _ _ h => h) (Or.inl ⟨by rfl, fun x hx => by go_simp⟩) hSq1 ?_
            simp only [Act.put, List.getElem_toArray, List.getElem_cons_zero, List.getElem_cons_succ, List.setIfInBounds_toArray, List.set_cons_zero, List.set_cons_succ]
            refine wpAnyH_take (i := 6) (v := .int .i64 i) rfl (by kernel_rfl) (by kernel_rfl) (by kernel_rfl) (fun _ _ _ h => h) (Or.inl ⟨by rfl, fun x hx => by go_simp⟩) hSq1 ?_
            simp only [Act.put, List.getElem_toArray, List.getElem_cons_zero, List.getElem_cons_succ, List.setIfInBounds_toArray, List.set_cons_zero, List.set_cons_succ]
            refine wpAnyH_take (i := 7) (v := .pointer (some ⟨g, o + i * 34, none⟩)) rfl (by kernel_rfl) (by kernel_rfl) (by kernel_rfl) (fun _ _ _ h => h) (Or.inl ⟨by rfl, fun x hx => by go_simp⟩) hSq1 ?_
            simp only [Act.put, List.getElem_toArray, List.getElem_cons_zero, List.getElem_cons_succ, List.setIfInBounds_toArray, List.set_cons_zero, List.set_cons_succ]
            refine wpAnyH_take (i := 8) rfl (by kernel_rfl) (by kernel_rfl) (by kernel_rfl) (fun _ _ _ h => h) (yieldsIf_load_mid (by rfl) 88 (.tmp 22) rfl (g) (o + i * 34) (by rfl) (c.cells) _ (fun x hx => HRC.out _ hx) Try.underlying88 rfl (kn_size c Try.sizeRKn)) hSq1 ?_
            simp only [Act.put, List.getElem_toArray, List.getElem_cons_zero, List.getElem_cons_succ, List.setIfInBounds_toArray, List.set_cons_zero, List.set_cons_succ]
            refine wpAnyH_take (i := 9) (v := .slice (some ⟨rg, 0, none⟩) m rc) rfl (by kernel_rfl) (by kernel_rfl) (by kernel_rfl) (fun _ _ _ h => h) (Or.inl ⟨by rfl, fun x hx => by go_simp⟩) hSq1 ?_
            simp only [Act.put, List.getElem_toArray, List.getElem_cons_zero, List.getElem_cons_succ, List.setIfInBounds_toArray, List.set_cons_zero, List.set_cons_succ]
            refine wpAnyH_take (i := 10) (v := .int .i64 k) rfl (by kernel_rfl) (by kernel_rfl) (by kernel_rfl) (fun _ _ _ h => h) (Or.inl ⟨by rfl, fun x hx => by go_simp⟩) hSq1 ?_
            simp only [Act.put, List.getElem_toArray, List.getElem_cons_zero, List.getElem_cons_succ, List.setIfInBounds_toArray, List.set_cons_zero, List.set_cons_succ]
            refine wpAnyH_take (i := 11) (v := .pointer (some ⟨rg, k * 34, none⟩)) rfl (by kernel_rfl) (by kernel_rfl) (by kernel_rfl) (fun _ _ _ h => h) (Or.inl ⟨by rfl, fun x hx => by go_simp⟩) hSq1 ?_
            simp only [Act.put, List.getElem_toArray, List.getElem_cons_zero, List.getElem_cons_succ, List.setIfInBounds_toArray, List.set_cons_zero, List.set_cons_succ]
            refine wpAnyH_take (i := 12) rfl (by kernel_rfl) (by kernel_rfl) (by kernel_rfl) (fun _ _ _ h => h) (yieldsIf_load_mid (by rfl) 88 (.tmp 26) rfl (rg) (k * 34) (by rfl) (y.cells) _ (fun x hx => HRY.out _ hx) Try.underlying88 rfl (kn_size y Try.sizeRKn)) hSq1 ?_
            simp only [Act.put, List.getElem_toArray, List.getElem_cons_zero, List.getElem_cons_succ, List.setIfInBounds_toArray, List.set_cons_zero, List.set_cons_succ]
            refine wpAnyH_take (i := 13) (v := .bool deep) rfl (by kernel_rfl) (by kernel_rfl) (by kernel_rfl) (fun _ _ _ h => h) (Or.inl ⟨by rfl, fun x hx => by go_simp⟩) hSq1 ?_
            simp only [Act.put, List.getElem_toArray, List.getElem_cons_zero, List.getElem_cons_succ, List.setIfInBounds_toArray, List.set_cons_zero, List.set_cons_succ]
            refine wpAnyH_ready (rs := [14]) (by kernel_rfl) (by simp) ?_
            refine AllReadyH.cons rfl (fun K hK => ?_) AllReadyH.nil
            go_simp
            go_wp2_with (go_at_call 149; refine (cA _).mono ?_; rintro e yq2 ⟨rfl, bq3⟩)
            refine hK.out _ _ (hSq1.trans (bq3.mono (hSq1.size))) (fun hSq4 => ?_)
            clear hK K hSq1 bq3
            refine wpAnyH_take (i := 15) (v := .bool false) rfl (by kernel_rfl) (by kernel_rfl) (by kernel_rfl) (fun _ _ _ h => h) (Or.inl ⟨by rfl, fun x hx => by go_simp⟩) hSq4 ?_
            simp only [Act.put, List.getElem_toArray, List.getElem_cons_zero, List.getElem_cons_succ, List.setIfInBounds_toArray, List.set_cons_zero, List.set_cons_succ]
            refine wpAnyH_take (i := 16) (v := .bool false) rfl (by kernel_rfl) (by kernel_rfl) (by kernel_rfl) (fun _ _ _ h => h) (Or.inl ⟨by rfl, fun x hx => by go_simp⟩) hSq4 ?_
            simp only [Act.put, List.getElem_toArray, List.getElem_cons_zero, List.getElem_cons_succ, List.setIfInBounds_toArray, List.set_cons_zero, List.set_cons_succ]
            refine wpAnyH_done (by kernel_rfl) ?_ _
            obtain ⟨z3, hz3⟩ : ∃ z3, z3 = yq2 := ⟨_, rfl⟩
            have hRk5 := Lib.hid (hRk.out.below hSq4)
            have hBk5 := Lib.hid (hBk.out.trans (hSq4.mono hBk.out.size))
            clear hSq4 cA HRY HRC hbr hRk hBk
            rw [← hz3] at hRk5 hBk5 ⊢
            clear hz3
            have hRk := hRk5
            have hBk := hBk5
            clear hRk5 hBk5
            obtain ⟨B2, hB2e⟩ : ∃ B2, B2 = z3.heap.size := ⟨_, rfl⟩
            have HB2 := Lib.hid hB2e
            clear hB2e
            have hBz := hBk.out
            have hend : Hid (k = R.length ∨ ∃ y, R[k]? = some y ∧ cmpX deep c y < 0) := .inr ⟨y, HY.out, HAH.out⟩
            clear hBk
            go_wp2_with (first | ((with_reducible show wpList _ _ _ (⟨some 38, _, _, _, _, _⟩ :: _) _ _); refine wpList_append_R rfl (.tmp 34) (.tmp 37) 75 rfl Kn.cells_len Kn.one B2 88 zKn 56 Try.underlying75 Try.infoRKn zKn_size (by omega) (by omega) _ ([]) (R.take k) (by rfl) (ROwn.nil _ _ _) _ (by rfl) (hRk.out.at.take Kn.cells_len (by rw [← HM.out]; exact hkl)) (by intro _ e; cases e) (by have := HM.out; simp; omega) (Nat.le_of_eq HB2.out) ?_; intro v1 w1 k1 g1; have hO1 := Lib.hid k1; have hB1 := (Below.refl B2 z3).grown g1 (Nat.le_of_eq HB2.out) (fun q e => by cases e); clear k1 g1) | ((with_reducible show wpList _ _ _ (⟨some 43, _, _, _, _, _⟩ :: _) _ _); refine wpList_load_mid rfl 88 (.tmp 42) rfl g (o + i * 34) (by rfl) c.cells _ (HRG.out _ (hBz.trans (hB1.mono (by have := hBz.size; have := HB2.out; omega)))) Try.underlying88 rfl (kn_size c Try.sizeRKn) ?_) | ((with_reducible show wpList _ _ _ (⟨some 44, _, _, _, _, _⟩ :: _) _ _); refine wpList_bsV rfl 75 88 (.tmp 43) rfl (.agg c.cells.toArray) (by rfl) Try.underlying75 zKn 34 Try.infoRKn2 (kn_szv c) (by omega) (by omega) ?_; intro w8 s8 b8 n8; have hO8 := Lib.hid (hO1.out.below b8); have hB8 := hB1.trans (b8.mono (by have := hB1.size; have := HB2.out; omega)); clear b8 s8 hO1 hB1) | ((with_reducible show wpList _ _ _ (⟨some 45, _, _, _, _, _⟩ :: _) _ _); refine wpList_append_R rfl (.tmp 39) (.tmp 44) 75 rfl Kn.cells_len Kn.one B2 88 zKn 56 Try.underlying75 Try.infoRKn zKn_size (by omega) (by omega) _ ([] ++ R.take k) ([c]) (by rfl) hO8.out _ (by rfl) (RAt.blk n8) (by intro _ e; cases e) (by have := HM.out; simp; omega) (by have := hB8.size; have := HB2.out; omega) ?_; intro v9 w9 k9 g9; have hO9 := Lib.hid k9; have hB9 := hB8.grown g9 (by have := hB8.size; have := HB2.out; omega) (fun q e => (hO8.out.lt _ e).1); clear k9 g9 hO8 hB8 n8) | ((with_reducible show wpList _ _ _ (⟨some 50, _, _, _, _, _⟩ :: _) _ _); refine wpList_append_R rfl (.tmp 46) (.tmp 49) 75 rfl Kn.cells_len Kn.one B2 88 zKn 56 Try.underlying75 Try.infoRKn zKn_size (by omega) (by omega) _ ([] ++ R.take k ++ [c]) (R.drop k) (by rfl) hO9.out _ (by rfl) (by have h9 := (hRk.out.below (HB2.out ▸ hB9)).at.drop (c' := rc - k) Kn.cells_len (by rw [← HM.out]; exact hkk); rw [← HM.out, Nat.zero_add] at h9; exact h9) (by intro _ e; cases e) (by have := HM.out; simp; omega) (by have := hB9.size; have := HB2.out; omega) ?_; intro v10 w10 k10 g10; have hO10 := Lib.hid k10; have hB10 := hB9.grown g10 (by have := hB9.size; have := HB2.out; omega) (fun q e => (hO9.out.lt _ e).1); clear k10 g10 hO9 hB9))
            have hO11 : Hid (KnOwn w10 w.heap.size 88 v10 (R.take k ++ [c] ++ R.drop k)) := hO10.out.low (by have := hBz.size; have := HB2.out; omega)
            have hB11 : Hid (Below w.heap.size w w10) := hBz.trans (hB10.mono (by have := hBz.size; have := HB2.out; omega))
            have hLL : Hid ((R.take k ++ [c] ++ R.drop k).length = i + 1) := by show _ = _; have := HM.out; have := hL.out; simp; omega
            have hPP := Lib.hid (ins_perm (k := k) hP.out HCI.out)
            have hSS := Lib.hid (ins_sorted hS.out hpre.out hend.out)
            clear hO10 hB10
            go_roundw
            case rel => exact ⟨i + 1, _, by omega, by go_num, hPP, hSS, hLL, hO11, hB11⟩
            case measure => simp [intOf]; omega
          · have cA : ∀ z, Calls Try.prog 149 #[.agg c.cells.toArray, .agg y.cells.toArray, .bool deep] z fun e w' => e = .returned (.bool false) ∧ Below z.heap.size z w' := fun z => by have := ahead_calls c y deep z; rwa [decide_eq_false hah] at this
            have HPRE : Hid (∀ j x, j < k + 1 → R[j]? = some x → 0 ≤ cmpX deep c x) := fun j x hj hx => by
              by_cases hjk : j < k
              · exact hpre.out j x hjk hx
              · obtain rfl : j = k := by omega
                rw [HY.out] at hx
                obtain rfl := Option.some.inj hx
                exact by omega
            clear hah
            go_wp2_with fail
            refine wp_region_held_drew (S := fun x => Below z2.heap.size z2 x) (by kernel_rfl) (below_drewN hbr 1) (fun hSq5 => ?_)
            refine wpAnyH_take (i := 0) (v := .int .i64 k) rfl (by kernel_rfl) (by kernel_rfl) (by kernel_rfl) (fun _ _ _ h => h) (Or.inl ⟨by rfl, fun x hx => by go_simp⟩) hSq5 ?_
            simp only [Act.put, List.getElem_toArray, List.getElem_cons_zero, List.getElem_cons_succ, List.setIfInBounds_toArray, List.set_cons_zero, List.set_cons_succ]
            refine wpAnyH_take (i := 1) (v := .slice (some ⟨rg, 0, none⟩) m rc) rfl (by kernel_rfl) (by kernel_rfl) (by kernel_rfl) (fun _ _ _ h => h) (Or.inl ⟨by rfl, fun x hx => by go_simp⟩) hSq5 ?_
            simp only [Act.put, List.getElem_toArray, List.getElem_cons_zero, List.getElem_cons_succ, List.setIfInBounds_toArray, List.set_cons_zero, List.set_cons_succ]
            refine wpAnyH_take (i := 2) (v := .int .i64 m) rfl (by kernel_rfl) (by kernel_rfl) (by kernel_rfl) (fun _ _ _ h => h) (Or.inl ⟨by rfl, fun x hx => by go_simp⟩) hSq5 ?_
            simp only [Act.put, List.getElem_toArray, List.getElem_cons_zero, List.getElem_cons_succ, List.setIfInBounds_toArray, List.set_cons_zero, List.set_cons_succ]
            refine wpAnyH_take (i := 3) (v := .bool true) rfl (by kernel_rfl) (by kernel_rfl) (by kernel_rfl) (fun _ _ _ h => h) (Or.inl ⟨by rfl, fun x hx => by go_simp⟩) hSq5 ?_
            simp only [Act.put, List.getElem_toArray, List.getElem_cons_zero, List.getElem_cons_succ, List.setIfInBounds_toArray, List.set_cons_zero, List.set_cons_succ]
            refine wpAnyH_take (i := 4) (v := .bool true) rfl (by kernel_rfl) (by kernel_rfl) (by kernel_rfl) (fun _ _ _ h => h) (Or.inl ⟨by rfl, fun x hx => by go_simp⟩) hSq5 ?_
            simp only [Act.put, List.getElem_toArray, List.getElem_cons_zero, List.getElem_cons_succ, List.setIfInBounds_toArray, List.set_cons_zero, List.set_cons_succ]
            refine wpAnyH_take (i := 5) (v := .slice (some ⟨g, o, none⟩) n cc) rfl (by kernel_rfl) (by kernel_rfl) (by kernel_rfl) (fun _ _ _ h => h) (Or.inl ⟨by rfl, fun x hx => by go_simp⟩) hSq5 ?_
            simp only [Act.put, List.getElem_toArray, List.getElem_cons_zero, List.getElem_cons_succ, List.setIfInBounds_toArray, List.set_cons_zero, List.set_cons_succ]
            refine wpAnyH_take (i := 6) (v := .int .i64 i) rfl (by kernel_rfl) (by kernel_rfl) (by kernel_rfl) (fun _ _ _ h => h) (Or.inl ⟨by rfl, fun x hx => by go_simp⟩) hSq5 ?_
            simp only [Act.put, List.getElem_toArray, List.getElem_cons_zero, List.getElem_cons_succ, List.setIfInBounds_toArray, List.set_cons_zero, List.set_cons_succ]
            refine wpAnyH_take (i := 7) (v := .pointer (some ⟨g, o + i * 34, none⟩)) rfl (by kernel_rfl) (by kernel_rfl) (by kernel_rfl) (fun _ _ _ h => h) (Or.inl ⟨by rfl, fun x hx => by go_simp⟩) hSq5 ?_
            simp only [Act.put, List.getElem_toArray, List.getElem_cons_zero, List.getElem_cons_succ, List.setIfInBounds_toArray, List.set_cons_zero, List.set_cons_succ]
            refine wpAnyH_take (i := 8) rfl (by kernel_rfl) (by kernel_rfl) (by kernel_rfl) (fun _ _ _ h => h) (yieldsIf_load_mid (by rfl) 88 (.tmp 22) rfl (g) (o + i * 34) (by rfl) (c.cells) _ (fun x hx => HRC.out _ hx) Try.underlying88 rfl (kn_size c Try.sizeRKn)) hSq5 ?_
            simp only [Act.put, List.getElem_toArray, List.getElem_cons_zero, List.getElem_cons_succ, List.setIfInBounds_toArray, List.set_cons_zero, List.set_cons_succ]
            refine wpAnyH_take (i := 9) (v := .slice (some ⟨rg, 0, none⟩) m rc) rfl (by kernel_rfl) (by kernel_rfl) (by kernel_rfl) (fun _ _ _ h => h) (Or.inl ⟨by rfl, fun x hx => by go_simp⟩) hSq5 ?_
            simp only [Act.put, List.getElem_toArray, List.getElem_cons_zero, List.getElem_cons_succ, List.setIfInBounds_toArray, List.set_cons_zero, List.set_cons_succ]
            refine wpAnyH_take (i := 10) (v := .int .i64 k) rfl (by kernel_rfl) (by kernel_rfl) (by kernel_rfl) (fun _ _ _ h => h) (Or.inl ⟨by rfl, fun x hx => by go_simp⟩) hSq5 ?_
            simp only [Act.put, List.getElem_toArray, List.getElem_cons_zero, List.getElem_cons_succ, List.setIfInBounds_toArray, List.set_cons_zero, List.set_cons_succ]
            refine wpAnyH_take (i := 11) (v := .pointer (some ⟨rg, k * 34, none⟩)) rfl (by kernel_rfl) (by kernel_rfl) (by kernel_rfl) (fun _ _ _ h => h) (Or.inl ⟨by rfl, fun x hx => by go_simp⟩) hSq5 ?_
            simp only [Act.put, List.getElem_toArray, List.getElem_cons_zero, List.getElem_cons_succ, List.setIfInBounds_toArray, List.set_cons_zero, List.set_cons_succ]
            refine wpAnyH_take (i := 12) rfl (by kernel_rfl) (by kernel_rfl) (by kernel_rfl) (fun _ _ _ h => h) (yieldsIf_load_mid (by rfl) 88 (.tmp 26) rfl (rg) (k * 34) (by rfl) (y.cells) _ (fun x hx => HRY.out _ hx) Try.underlying88 rfl (kn_size y Try.sizeRKn)) hSq5 ?_
            simp only [Act.put, List.getElem_toArray, List.getElem_cons_zero, List.getElem_cons_succ, List.setIfInBounds_toArray, List.set_cons_zero, List.set_cons_succ]
            refine wpAnyH_take (i := 13) (v := .bool deep) rfl (by kernel_rfl) (by kernel_rfl) (by kernel_rfl) (fun _ _ _ h => h) (Or.inl ⟨by rfl, fun x hx => by go_simp⟩) hSq5 ?_
            simp only [Act.put, List.getElem_toArray, List.getElem_cons_zero, List.getElem_cons_succ, List.setIfInBounds_toArray, List.set_cons_zero, List.set_cons_succ]
            refine wpAnyH_ready (rs := [14]) (by kernel_rfl) (by simp) ?_
            refine AllReadyH.cons rfl (fun K hK => ?_) AllReadyH.nil
            go_simp
            go_wp2_with (go_at_call 149; refine (cA _).mono ?_; rintro e yq6 ⟨rfl, bq7⟩)
            refine hK.out _ _ (hSq5.trans (bq7.mono (hSq5.size))) (fun hSq8 => ?_)
            clear hK K hSq5 bq7
            refine wpAnyH_take (i := 15) (v := .bool true) rfl (by kernel_rfl) (by kernel_rfl) (by kernel_rfl) (fun _ _ _ h => h) (Or.inl ⟨by rfl, fun x hx => by go_simp⟩) hSq8 ?_
            simp only [Act.put, List.getElem_toArray, List.getElem_cons_zero, List.getElem_cons_succ, List.setIfInBounds_toArray, List.set_cons_zero, List.set_cons_succ]
            refine wpAnyH_take (i := 16) (v := .bool true) rfl (by kernel_rfl) (by kernel_rfl) (by kernel_rfl) (fun _ _ _ h => h) (Or.inl ⟨by rfl, fun x hx => by go_simp⟩) hSq8 ?_
            simp only [Act.put, List.getElem_toArray, List.getElem_cons_zero, List.getElem_cons_succ, List.setIfInBounds_toArray, List.set_cons_zero, List.set_cons_succ]
            refine wpAnyH_done (by kernel_rfl) ?_ _
            have hRk5 := Lib.hid (hRk.out.below hSq8)
            have hBk5 := Lib.hid (hBk.out.trans (hSq8.mono hBk.out.size))
            clear hSq8 cA HRY HRC hbr hRk hBk hkc hkc2
            go_wp2_with fail
            go_roundw
            case rel => exact ⟨k + 1, by omega, by go_num, HPRE, hRk5, hBk5⟩
            case measure => simp [intOf]; omega
        · obtain rfl : k = m := by omega
          have HDR : Hid (R.drop k = []) := by show _ = _; rw [HM.out, List.drop_length]
          have hbr := Below.refl z2.heap.size z2
          go_wp2_with fail
          refine wp_region_held_drew (S := fun x => Below z2.heap.size z2 x) (by kernel_rfl) (below_drewN hbr 1) (fun hSq9 => ?_)
          refine wpAnyH_take (i := 0) (v := .int .i64 k) rfl (by kernel_rfl) (by kernel_rfl) (by kernel_rfl) (fun _ _ _ h => h) (Or.inl ⟨by rfl, fun x hx => by go_simp⟩) hSq9 ?_
          simp only [Act.put, List.getElem_toArray, List.getElem_cons_zero, List.getElem_cons_succ, List.setIfInBounds_toArray, List.set_cons_zero, List.set_cons_succ]
          refine wpAnyH_take (i := 1) (v := .slice rao k rc) rfl (by kernel_rfl) (by kernel_rfl) (by kernel_rfl) (fun _ _ _ h => h) (Or.inl ⟨by rfl, fun x hx => by go_simp⟩) hSq9 ?_
          simp only [Act.put, List.getElem_toArray, List.getElem_cons_zero, List.getElem_cons_succ, List.setIfInBounds_toArray, List.set_cons_zero, List.set_cons_succ]
          refine wpAnyH_take (i := 2) (v := .int .i64 k) rfl (by kernel_rfl) (by kernel_rfl) (by kernel_rfl) (fun _ _ _ h => h) (Or.inl ⟨by rfl, fun x hx => by go_simp⟩) hSq9 ?_
          simp only [Act.put, List.getElem_toArray, List.getElem_cons_zero, List.getElem_cons_succ, List.setIfInBounds_toArray, List.set_cons_zero, List.set_cons_succ]
          refine wpAnyH_take (i := 3) (v := .bool false) rfl (by kernel_rfl) (by kernel_rfl) (by kernel_rfl) (fun _ _ _ h => h) (Or.inl ⟨by rfl, fun x hx => by go_simp⟩) hSq9 ?_
          simp only [Act.put, List.getElem_toArray, List.getElem_cons_zero, List.getElem_cons_succ, List.setIfInBounds_toArray, List.set_cons_zero, List.set_cons_succ]
          refine wpAnyH_take (i := 4) (v := .bool false) rfl (by kernel_rfl) (by kernel_rfl) (by kernel_rfl) (fun _ _ _ h => h) (Or.inl ⟨by rfl, fun x hx => by go_simp⟩) hSq9 ?_
          simp only [Act.put, List.getElem_toArray, List.getElem_cons_zero, List.getElem_cons_succ, List.setIfInBounds_toArray, List.set_cons_zero, List.set_cons_succ]
          refine wpAnyH_take (i := 5) (v := undef) rfl (by kernel_rfl) (by kernel_rfl) (by kernel_rfl) (fun _ _ _ h => h) (Or.inr ⟨by rfl, rfl⟩) hSq9 ?_
          simp only [Act.put, List.getElem_toArray, List.getElem_cons_zero, List.getElem_cons_succ, List.setIfInBounds_toArray, List.set_cons_zero, List.set_cons_succ]
          refine wpAnyH_take (i := 6) (v := undef) rfl (by kernel_rfl) (by kernel_rfl) (by kernel_rfl) (fun _ _ _ h => h) (Or.inr ⟨by rfl, rfl⟩) hSq9 ?_
          simp only [Act.put, List.getElem_toArray, List.getElem_cons_zero, List.getElem_cons_succ, List.setIfInBounds_toArray, List.set_cons_zero, List.set_cons_succ]
          refine wpAnyH_take (i := 7) (v := undef) rfl (by kernel_rfl) (by kernel_rfl) (by kernel_rfl) (fun _ _ _ h => h) (Or.inr ⟨by rfl, rfl⟩) hSq9 ?_
          simp only [Act.put, List.getElem_toArray, List.getElem_cons_zero, List.getElem_cons_succ, List.setIfInBounds_toArray, List.set_cons_zero, List.set_cons_succ]
          refine wpAnyH_take (i := 8) (v := undef) rfl (by kernel_rfl) (by kernel_rfl) (by kernel_rfl) (fun _ _ _ h => h) (Or.inr ⟨by rfl, rfl⟩) hSq9 ?_
          simp only [Act.put, List.getElem_toArray, List.getElem_cons_zero, List.getElem_cons_succ, List.setIfInBounds_toArray, List.set_cons_zero, List.set_cons_succ]
          refine wpAnyH_take (i := 9) (v := undef) rfl (by kernel_rfl) (by kernel_rfl) (by kernel_rfl) (fun _ _ _ h => h) (Or.inr ⟨by rfl, rfl⟩) hSq9 ?_
          simp only [Act.put, List.getElem_toArray, List.getElem_cons_zero, List.getElem_cons_succ, List.setIfInBounds_toArray, List.set_cons_zero, List.set_cons_succ]
          refine wpAnyH_take (i := 10) (v := undef) rfl (by kernel_rfl) (by kernel_rfl) (by kernel_rfl) (fun _ _ _ h => h) (Or.inr ⟨by rfl, rfl⟩) hSq9 ?_
          simp only [Act.put, List.getElem_toArray, List.getElem_cons_zero, List.getElem_cons_succ, List.setIfInBounds_toArray, List.set_cons_zero, List.set_cons_succ]
          refine wpAnyH_take (i := 11) (v := undef) rfl (by kernel_rfl) (by kernel_rfl) (by kernel_rfl) (fun _ _ _ h => h) (Or.inr ⟨by rfl, rfl⟩) hSq9 ?_
          simp only [Act.put, List.getElem_toArray, List.getElem_cons_zero, List.getElem_cons_succ, List.setIfInBounds_toArray, List.set_cons_zero, List.set_cons_succ]
          refine wpAnyH_take (i := 12) (v := undef) rfl (by kernel_rfl) (by kernel_rfl) (by kernel_rfl) (fun _ _ _ h => h) (Or.inr ⟨by rfl, rfl⟩) hSq9 ?_
          simp only [Act.put, List.getElem_toArray, List.getElem_cons_zero, List.getElem_cons_succ, List.setIfInBounds_toArray, List.set_cons_zero, List.set_cons_succ]
          refine wpAnyH_take (i := 13) (v := undef) rfl (by kernel_rfl) (by kernel_rfl) (by kernel_rfl) (fun _ _ _ h => h) (Or.inr ⟨by rfl, rfl⟩) hSq9 ?_
          simp only [Act.put, List.getElem_toArray, List.getElem_cons_zero, List.getElem_cons_succ, List.setIfInBounds_toArray, List.set_cons_zero, List.set_cons_succ]
          refine wpAnyH_take (i := 14) (v := undef) rfl (by kernel_rfl) (by kernel_rfl) (by kernel_rfl) (fun _ _ _ h => h) (Or.inr ⟨by rfl, rfl⟩) hSq9 ?_
          simp only [Act.put, List.getElem_toArray, List.getElem_cons_zero, List.getElem_cons_succ, List.setIfInBounds_toArray, List.set_cons_zero, List.set_cons_succ]
          refine wpAnyH_take (i := 15) (v := undef) rfl (by kernel_rfl) (by kernel_rfl) (by kernel_rfl) (fun _ _ _ h => h) (Or.inr ⟨by rfl, rfl⟩) hSq9 ?_
          simp only [Act.put, List.getElem_toArray, List.getElem_cons_zero, List.getElem_cons_succ, List.setIfInBounds_toArray, List.set_cons_zero, List.set_cons_succ]
          refine wpAnyH_take (i := 16) (v := .bool false) rfl (by kernel_rfl) (by kernel_rfl) (by kernel_rfl) (fun _ _ _ h => h) (Or.inl ⟨by rfl, fun x hx => by go_simp⟩) hSq9 ?_
          simp only [Act.put, List.getElem_toArray, List.getElem_cons_zero, List.getElem_cons_succ, List.setIfInBounds_toArray, List.set_cons_zero, List.set_cons_succ]
          refine wpAnyH_done (by kernel_rfl) ?_ _
          obtain ⟨z3, hz3⟩ : ∃ z3, z3 = (World.drew z2) := ⟨_, rfl⟩
          have hRk5 := Lib.hid (hRk.out.below hSq9)
          have hBk5 := Lib.hid (hBk.out.trans (hSq9.mono hBk.out.size))
          clear hSq9 hbr hRk hBk
          rw [← hz3] at hRk5 hBk5 ⊢
          clear hz3
          have hRk := hRk5
          have hBk := hBk5
          clear hRk5 hBk5
          obtain ⟨B2, hB2e⟩ : ∃ B2, B2 = z3.heap.size := ⟨_, rfl⟩
          have HB2 := Lib.hid hB2e
          clear hB2e
          have hBz := hBk.out
          have hend : Hid (k = R.length ∨ ∃ y, R[k]? = some y ∧ cmpX deep c y < 0) := .inl HM.out
          clear hBk
          rcases hRk.out.shape with rfl | ⟨rg, rfl⟩
          · obtain ⟨hrc0, hR0⟩ := hRk.out.nonec
            have hk0 : k = 0 := by have := HM.out; rw [hR0] at this; exact this
            obtain rfl : k = rc := by omega
            have HK0 := Lib.hid hk0
            clear hrc0 hR0 hk0
            have hkc2 : k - k = 0 := by omega
            go_wp2_with (first | ((with_reducible show wpList _ _ _ (⟨some 38, _, _, _, _, _⟩ :: _) _ _); refine wpList_append_R rfl (.tmp 34) (.tmp 37) 75 rfl Kn.cells_len Kn.one B2 88 zKn 56 Try.underlying75 Try.infoRKn zKn_size (by omega) (by omega) _ ([]) (R.take k) (by rfl) (ROwn.nil _ _ _) _ (by rfl) (hRk.out.at.take Kn.cells_len (by rw [← HM.out]; exact hkl)) (by intro _ e; have := HK0.out; injection e; omega) (by have := HM.out; simp; omega) (Nat.le_of_eq HB2.out) ?_; intro v1 w1 k1 g1; have hO1 := Lib.hid k1; have hB1 := (Below.refl B2 z3).grown g1 (Nat.le_of_eq HB2.out) (fun q e => by cases e); clear k1 g1) | ((with_reducible show wpList _ _ _ (⟨some 43, _, _, _, _, _⟩ :: _) _ _); refine wpList_load_mid rfl 88 (.tmp 42) rfl g (o + i * 34) (by rfl) c.cells _ (HRG.out _ (hBz.trans (hB1.mono (by have := hBz.size; have := HB2.out; omega)))) Try.underlying88 rfl (kn_size c Try.sizeRKn) ?_) | ((with_reducible show wpList _ _ _ (⟨some 44, _, _, _, _, _⟩ :: _) _ _); refine wpList_bsV rfl 75 88 (.tmp 43) rfl (.agg c.cells.toArray) (by rfl) Try.underlying75 zKn 34 Try.infoRKn2 (kn_szv c) (by omega) (by omega) ?_; intro w8 s8 b8 n8; have hO8 := Lib.hid (hO1.out.below b8); have hB8 := hB1.trans (b8.mono (by have := hB1.size; have := HB2.out; omega)); clear b8 s8 hO1 hB1) | ((with_reducible show wpList _ _ _ (⟨some 45, _, _, _, _, _⟩ :: _) _ _); refine wpList_append_R rfl (.tmp 39) (.tmp 44) 75 rfl Kn.cells_len Kn.one B2 88 zKn 56 Try.underlying75 Try.infoRKn zKn_size (by omega) (by omega) _ ([] ++ R.take k) ([c]) (by rfl) hO8.out _ (by rfl) (RAt.blk n8) (by intro _ e; cases e) (by have := HM.out; simp; omega) (by have := hB8.size; have := HB2.out; omega) ?_; intro v9 w9 k9 g9; have hO9 := Lib.hid k9; have hB9 := hB8.grown g9 (by have := hB8.size; have := HB2.out; omega) (fun q e => (hO8.out.lt _ e).1); clear k9 g9 hO8 hB8 n8) | ((with_reducible show wpList _ _ _ (⟨some 50, _, _, _, _, _⟩ :: _) _ _); refine wpList_append_R rfl (.tmp 46) (.tmp 49) 75 rfl Kn.cells_len Kn.one B2 88 zKn 56 Try.underlying75 Try.infoRKn zKn_size (by omega) (by omega) _ ([] ++ R.take k ++ [c]) (R.drop k) (by rfl) hO9.out _ (by rfl) (.inl ⟨HDR.out, _, _, rfl⟩) (by intro _ e; have := HK0.out; injection e; omega) (by have := HM.out; simp; omega) (by have := hB9.size; have := HB2.out; omega) ?_; intro v10 w10 k10 g10; have hO10 := Lib.hid k10; have hB10 := hB9.grown g10 (by have := hB9.size; have := HB2.out; omega) (fun q e => (hO9.out.lt _ e).1); clear k10 g10 hO9 hB9))
            have hO11 : Hid (KnOwn w10 w.heap.size 88 v10 (R.take k ++ [c] ++ R.drop k)) := hO10.out.low (by have := hBz.size; have := HB2.out; omega)
            have hB11 : Hid (Below w.heap.size w w10) := hBz.trans (hB10.mono (by have := hBz.size; have := HB2.out; omega))
            have hLL : Hid ((R.take k ++ [c] ++ R.drop k).length = i + 1) := by show _ = _; have := HM.out; have := hL.out; simp; omega
            have hPP := Lib.hid (ins_perm (k := k) hP.out HCI.out)
            have hSS := Lib.hid (ins_sorted hS.out hpre.out hend.out)
            clear hO10 hB10
            go_roundw
            case rel => exact ⟨i + 1, _, by omega, by go_num, hPP, hSS, hLL, hO11, hB11⟩
            case measure => simp [intOf]; omega
          · by_cases hkc0 : k = rc
            · obtain rfl : k = rc := hkc0
              have hkc2 : k - k = 0 := by omega
              go_wp2_with (first | ((with_reducible show wpList _ _ _ (⟨some 38, _, _, _, _, _⟩ :: _) _ _); refine wpList_append_R rfl (.tmp 34) (.tmp 37) 75 rfl Kn.cells_len Kn.one B2 88 zKn 56 Try.underlying75 Try.infoRKn zKn_size (by omega) (by omega) _ ([]) (R.take k) (by rfl) (ROwn.nil _ _ _) _ (by rfl) (hRk.out.at.take Kn.cells_len (by rw [← HM.out]; exact hkl)) (by intro _ e; cases e) (by have := HM.out; simp; omega) (Nat.le_of_eq HB2.out) ?_; intro v1 w1 k1 g1; have hO1 := Lib.hid k1; have hB1 := (Below.refl B2 z3).grown g1 (Nat.le_of_eq HB2.out) (fun q e => by cases e); clear k1 g1) | ((with_reducible show wpList _ _ _ (⟨some 43, _, _, _, _, _⟩ :: _) _ _); refine wpList_load_mid rfl 88 (.tmp 42) rfl g (o + i * 34) (by rfl) c.cells _ (HRG.out _ (hBz.trans (hB1.mono (by have := hBz.size; have := HB2.out; omega)))) Try.underlying88 rfl (kn_size c Try.sizeRKn) ?_) | ((with_reducible show wpList _ _ _ (⟨some 44, _, _, _, _, _⟩ :: _) _ _); refine wpList_bsV rfl 75 88 (.tmp 43) rfl (.agg c.cells.toArray) (by rfl) Try.underlying75 zKn 34 Try.infoRKn2 (kn_szv c) (by omega) (by omega) ?_; intro w8 s8 b8 n8; have hO8 := Lib.hid (hO1.out.below b8); have hB8 := hB1.trans (b8.mono (by have := hB1.size; have := HB2.out; omega)); clear b8 s8 hO1 hB1) | ((with_reducible show wpList _ _ _ (⟨some 45, _, _, _, _, _⟩ :: _) _ _); refine wpList_append_R rfl (.tmp 39) (.tmp 44) 75 rfl Kn.cells_len Kn.one B2 88 zKn 56 Try.underlying75 Try.infoRKn zKn_size (by omega) (by omega) _ ([] ++ R.take k) ([c]) (by rfl) hO8.out _ (by rfl) (RAt.blk n8) (by intro _ e; cases e) (by have := HM.out; simp; omega) (by have := hB8.size; have := HB2.out; omega) ?_; intro v9 w9 k9 g9; have hO9 := Lib.hid k9; have hB9 := hB8.grown g9 (by have := hB8.size; have := HB2.out; omega) (fun q e => (hO8.out.lt _ e).1); clear k9 g9 hO8 hB8 n8) | ((with_reducible show wpList _ _ _ (⟨some 50, _, _, _, _, _⟩ :: _) _ _); refine wpList_append_R rfl (.tmp 46) (.tmp 49) 75 rfl Kn.cells_len Kn.one B2 88 zKn 56 Try.underlying75 Try.infoRKn zKn_size (by omega) (by omega) _ ([] ++ R.take k ++ [c]) (R.drop k) (by rfl) hO9.out _ (by rfl) (.inl ⟨HDR.out, _, _, rfl⟩) (by intro _ e; cases e) (by have := HM.out; simp; omega) (by have := hB9.size; have := HB2.out; omega) ?_; intro v10 w10 k10 g10; have hO10 := Lib.hid k10; have hB10 := hB9.grown g10 (by have := hB9.size; have := HB2.out; omega) (fun q e => (hO9.out.lt _ e).1); clear k10 g10 hO9 hB9))
              have hO11 : Hid (KnOwn w10 w.heap.size 88 v10 (R.take k ++ [c] ++ R.drop k)) := hO10.out.low (by have := hBz.size; have := HB2.out; omega)
              have hB11 : Hid (Below w.heap.size w w10) := hBz.trans (hB10.mono (by have := hBz.size; have := HB2.out; omega))
              have hLL : Hid ((R.take k ++ [c] ++ R.drop k).length = i + 1) := by show _ = _; have := HM.out; have := hL.out; simp; omega
              have hPP := Lib.hid (ins_perm (k := k) hP.out HCI.out)
              have hSS := Lib.hid (ins_sorted hS.out hpre.out hend.out)
              clear hO10 hB10
              go_roundw
              case rel => exact ⟨i + 1, _, by omega, by go_num, hPP, hSS, hLL, hO11, hB11⟩
              case measure => simp [intOf]; omega
            · have hkc : ¬ rc = k := by omega
              have hkc2 : rc - k ≠ 0 := by omega
              go_wp2_with (first | ((with_reducible show wpList _ _ _ (⟨some 38, _, _, _, _, _⟩ :: _) _ _); refine wpList_append_R rfl (.tmp 34) (.tmp 37) 75 rfl Kn.cells_len Kn.one B2 88 zKn 56 Try.underlying75 Try.infoRKn zKn_size (by omega) (by omega) _ ([]) (R.take k) (by rfl) (ROwn.nil _ _ _) _ (by rfl) (hRk.out.at.take Kn.cells_len (by rw [← HM.out]; exact hkl)) (by intro _ e; cases e) (by have := HM.out; simp; omega) (Nat.le_of_eq HB2.out) ?_; intro v1 w1 k1 g1; have hO1 := Lib.hid k1; have hB1 := (Below.refl B2 z3).grown g1 (Nat.le_of_eq HB2.out) (fun q e => by cases e); clear k1 g1) | ((with_reducible show wpList _ _ _ (⟨some 43, _, _, _, _, _⟩ :: _) _ _); refine wpList_load_mid rfl 88 (.tmp 42) rfl g (o + i * 34) (by rfl) c.cells _ (HRG.out _ (hBz.trans (hB1.mono (by have := hBz.size; have := HB2.out; omega)))) Try.underlying88 rfl (kn_size c Try.sizeRKn) ?_) | ((with_reducible show wpList _ _ _ (⟨some 44, _, _, _, _, _⟩ :: _) _ _); refine wpList_bsV rfl 75 88 (.tmp 43) rfl (.agg c.cells.toArray) (by rfl) Try.underlying75 zKn 34 Try.infoRKn2 (kn_szv c) (by omega) (by omega) ?_; intro w8 s8 b8 n8; have hO8 := Lib.hid (hO1.out.below b8); have hB8 := hB1.trans (b8.mono (by have := hB1.size; have := HB2.out; omega)); clear b8 s8 hO1 hB1) | ((with_reducible show wpList _ _ _ (⟨some 45, _, _, _, _, _⟩ :: _) _ _); refine wpList_append_R rfl (.tmp 39) (.tmp 44) 75 rfl Kn.cells_len Kn.one B2 88 zKn 56 Try.underlying75 Try.infoRKn zKn_size (by omega) (by omega) _ ([] ++ R.take k) ([c]) (by rfl) hO8.out _ (by rfl) (RAt.blk n8) (by intro _ e; cases e) (by have := HM.out; simp; omega) (by have := hB8.size; have := HB2.out; omega) ?_; intro v9 w9 k9 g9; have hO9 := Lib.hid k9; have hB9 := hB8.grown g9 (by have := hB8.size; have := HB2.out; omega) (fun q e => (hO8.out.lt _ e).1); clear k9 g9 hO8 hB8 n8) | ((with_reducible show wpList _ _ _ (⟨some 50, _, _, _, _, _⟩ :: _) _ _); refine wpList_append_R rfl (.tmp 46) (.tmp 49) 75 rfl Kn.cells_len Kn.one B2 88 zKn 56 Try.underlying75 Try.infoRKn zKn_size (by omega) (by omega) _ ([] ++ R.take k ++ [c]) (R.drop k) (by rfl) hO9.out _ (by rfl) (.inl ⟨HDR.out, _, _, rfl⟩) (by intro _ e; cases e) (by have := HM.out; simp; omega) (by have := hB9.size; have := HB2.out; omega) ?_; intro v10 w10 k10 g10; have hO10 := Lib.hid k10; have hB10 := hB9.grown g10 (by have := hB9.size; have := HB2.out; omega) (fun q e => (hO9.out.lt _ e).1); clear k10 g10 hO9 hB9))
              have hO11 : Hid (KnOwn w10 w.heap.size 88 v10 (R.take k ++ [c] ++ R.drop k)) := hO10.out.low (by have := hBz.size; have := HB2.out; omega)
              have hB11 : Hid (Below w.heap.size w w10) := hBz.trans (hB10.mono (by have := hBz.size; have := HB2.out; omega))
              have hLL : Hid ((R.take k ++ [c] ++ R.drop k).length = i + 1) := by show _ = _; have := HM.out; have := hL.out; simp; omega
              have hPP := Lib.hid (ins_perm (k := k) hP.out HCI.out)
              have hSS := Lib.hid (ins_sorted hS.out hpre.out hend.out)
              clear hO10 hB10
              go_roundw
              case rel => exact ⟨i + 1, _, by omega, by go_num, hPP, hSS, hLL, hO11, hB11⟩
              case measure => simp [intOf]; omega
    · obtain rfl : i = n := by omega
      have hPl : Hid (R.Perm l) := by
        have := hP.out
        rwa [List.take_of_length_le (by have := HN.out; omega)] at this
      clear hP
      go_wp2_with fail
      go_returns
      exact ⟨_, rfl, R, hPl.out, hS.out, hR.out, hB.out⟩
end Go.Proofs.Ytlomofcnknpciaa
