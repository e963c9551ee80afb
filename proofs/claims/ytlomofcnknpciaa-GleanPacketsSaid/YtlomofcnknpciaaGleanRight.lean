/-
  glean.Right, bevyref19.Right.
-/
import Derived.Test.YtlomofcnknpciaaGleanPkLaw
import Derived.Test.YtlomofcnknpciaaGleanOrd
import Derived.Test.YtlomofcnknpciaaGleanRef
import Derived.WalkLawsBesides
import Derived.Outline
import Derived.Handy
import Derived.Deep.RegionHeld
set_option linter.unusedSimpArgs false
set_option linter.unusedVariables false
namespace Go.Proofs.Ytlomofcnknpciaa
open Go.RowKit

theorem Cmp_below (a b : HsT) (ha : a.length = 32) (hb : b.length = 32) (w : World) : Calls Try.prog 85 #[.agg (a.map bv).toArray, .agg (b.map bv).toArray] w fun e w' => e = .returned (.int .i64 (cmpT a b)) ∧ Below w.heap.size w w' :=
  (Cmp_calls a b ha hb w).mono fun e w' ⟨h1, h2⟩ => ⟨h1, GrowsW.below h2⟩
set_option maxHeartbeats 4000000 in
set_option maxRecDepth 100000 in
theorem Right1_calls (s : List UInt8) (w : World) (hs : s.length ≤ maxLen) : Calls Try.prog 110 #[.string (str s)] w fun e w' => e = .returned (.bool (longT s)) ∧ w = w' := by
  unfold maxLen at hs
  have HL : Hid (longT s = decide ((65536 : Int) < (s.length : Int))) := by
    show _ = _
    unfold longT
    by_cases h : 65536 < s.length
    · rw [decide_eq_true h, decide_eq_true (by omega)]
    · rw [decide_eq_false h, decide_eq_false (by omega)]
  go_enter Try.func110, Try.ntmps110
  go_wp2_with fail
  go_returns
  exact ⟨by rw [HL.out]; rfl, rfl⟩
set_option maxHeartbeats 4000000 in
set_option maxRecDepth 100000 in
theorem IndexS_calls (v : Value) (l : List (List UInt8)) (w : World) (h : TxAt w v l) (hn : l.length ≤ 1000000) (hm : ∀ s ∈ l, s.length ≤ maxLen) :
    Calls Try.prog 154 #[v, .func (.func 110) #[] #[]] w fun e w' => ∃ n : Int, e = .returned (.int .i64 n) ∧ (l.any longT = true → 0 ≤ n) ∧ (l.any longT = false → n = -1) ∧ Below w.heap.size w w' := by
  obtain ⟨ao, cc, rfl⟩ := h.slice
  have H := Lib.hid h
  have HMX := Lib.hid hm
  obtain ⟨n, hnn⟩ : ∃ n, n = l.length := ⟨_, rfl⟩
  have HN := Lib.hid hnn
  rw [← hnn] at hn H ⊢
  have hb0 := Lib.hid (Below.refl w.heap.size w)
  clear h hnn hm
  go_enter Try.func154, Try.ntmps154
  go_wp2_with fail
  go_loopw [8] (fun iv wr => ∃ i : Nat, i ≤ n ∧ iv = .int .i64 i ∧ Hid ((l.take i).any longT = false) ∧ Hid (Below w.heap.size w wr)) (fun iv _ => n - (intOf iv).toNat)
  case atStart => exact ⟨0, by omega, rfl, Lib.hid (by simp), hb0⟩
  case round =>
    obtain ⟨i, hi, rfl, hA, hB⟩ := hrel
    clear hb0
    by_cases hlt : i < n
    · obtain ⟨s, hs⟩ : ∃ s, l[i]? = some s := ⟨_, List.getElem?_eq_getElem (by rw [← HN.out]; exact hlt)⟩
      obtain ⟨g, o, rfl, hrg⟩ := (H.out.below hB.out).range sCells_len i s hs
      have hc : wr.cell? ⟨g, o + i, none⟩ = some (.string (str s)) := by have := hrg 0 _ rfl; rwa [Nat.mul_one] at this
      have HSM : Hid (s.length ≤ maxLen) := HMX.out s (List.mem_of_getElem? hs)
      have HTK : Hid ((l.take (i + 1)).any longT = longT s) := by
        show _ = _
        rw [List.take_add_one, hs, List.any_append, hA.out]; simp
      have HME : Hid (s ∈ l) := List.mem_of_getElem? hs
      obtain ⟨D, hD⟩ : ∃ D, D = longT s := ⟨_, rfl⟩
      have HD := Lib.hid hD
      have c1 := Right1_calls s wr HSM.out
      rw [← hD] at c1
      clear hs hrg hD
      go_wp2_with fail
      refine c1.mono ?_
      rintro e w5 ⟨rfl, rfl⟩
      clear c1
      cases D with
      | true =>
        go_wp2_with fail
        go_returns
        exact ⟨_, rfl, fun _ => by omega, fun h => (by
          have : l.any longT = true := List.any_eq_true.2 ⟨s, HME.out, HD.out.symm⟩
          rw [h] at this; cases this), hB.out⟩
      | false =>
        have hA5 : Hid ((l.take (i + 1)).any longT = false) := by
          show _ = _
          rw [HTK.out, ← HD.out]
        clear hA hc
        go_wp2_with fail
        go_roundw
        case rel => exact ⟨i + 1, by omega, by go_num, hA5, hB⟩
        case measure => simp [intOf]; omega
    · obtain rfl : n = i := by omega
      have hAl : Hid (l.any longT = false) := by
        have := hA.out
        rwa [List.take_of_length_le (by have := HN.out; omega)] at this
      clear hA
      go_wp2_with fail
      go_returns
      exact ⟨_, rfl, fun h => by (rw [hAl.out] at h; cases h), fun _ => rfl, hB.out⟩
set_option maxHeartbeats 4000000 in
set_option maxRecDepth 100000 in
theorem ContainsS_calls (v : Value) (l : List (List UInt8)) (w : World) (h : TxAt w v l) (hn : l.length ≤ 1000000) (hm : ∀ s ∈ l, s.length ≤ maxLen) :
    Calls Try.prog 111 #[v, .func (.func 110) #[] #[]] w fun e w' => e = .returned (.bool (l.any longT)) ∧ Below w.heap.size w w' := by
  obtain ⟨D, hD⟩ : ∃ D, D = l.any longT := ⟨_, rfl⟩
  have HD := Lib.hid hD
  have c := IndexS_calls v l w h hn hm
  rw [← hD]
  rw [← hD] at c
  clear h hm hD
  go_enter Try.func111, Try.ntmps111
  go_wp2_with fail
  refine c.mono ?_
  rintro e w5 ⟨n, rfl, h1, h2, b5⟩
  cases D with
  | true =>
    have hn0 := h1 rfl
    have hd : decide (0 ≤ n) = true := decide_eq_true hn0
    clear h1 h2 c
    go_wp2_with fail
    go_returns
    exact ⟨rfl, b5⟩
  | false =>
    obtain rfl := h2 rfl
    clear h1 h2 c
    go_wp2_with fail
    go_returns
    exact ⟨rfl, b5⟩
set_option maxHeartbeats 16000000 in
set_option maxRecDepth 100000 in
theorem GRight_calls (p : Pk) (iv tv : Value) (w : World) (hi : HashesAt w iv p.ids) (ht : TxAt w tv p.ts) (hn1 : p.ids.length ≤ 1000) (hn2 : p.ts.length ≤ 1000) (hsm : p.s.length ≤ maxLen) (htm : ∀ t ∈ p.ts, t.length ≤ maxLen) (D : Bool) (hD : D = true ↔ RightP p) :
    Calls Try.prog 58 #[.agg #[.int .i64 p.k, .string (str p.s), iv, tv]] w fun e w' => e = .returned (.bool D) ∧ Below w.heap.size w w' := by
  obtain ⟨k, s, ids, ts⟩ := p
  obtain ⟨iao, ic, rfl, _⟩ := hi.slice
  obtain ⟨tao, tc, rfl⟩ := ht.slice
  have HI := Lib.hid hi
  have HT := Lib.hid ht
  have HD := Lib.hid hD
  have HTM := Lib.hid htm
  simp only at hn1 hn2 hsm HI HT HTM ⊢
  obtain ⟨n, hnn⟩ : ∃ n, n = ids.length := ⟨_, rfl⟩
  obtain ⟨m, hmm⟩ : ∃ m, m = ts.length := ⟨_, rfl⟩
  have HN := Lib.hid hnn
  have HM := Lib.hid hmm
  rw [← hnn] at hn1 HI ⊢
  rw [← hmm] at hn2 HT ⊢
  unfold maxLen at hsm
  clear hi ht hD hnn hmm htm
  by_cases hk1 : k = 1
  · subst hk1
    have hb0 : Below w.heap.size w (w.alloc (.cells #[.int .i64 1, .string (str s), .slice iao n ic, .slice tao m tc] 109)) := below_alloc1 _ _
    have hA0 : Blk (w.alloc (.cells #[.int .i64 1, .string (str s), .slice iao n ic, .slice tao m tc] 109)) w.heap.size #[.int .i64 1, .string (str s), .slice iao n ic, .slice tao m tc] 109 := Blk.new _ _ _
    have h0 := hA0.cell 0 _ rfl
    have h1 := hA0.cell 1 _ rfl
    have h2 := hA0.cell 2 _ rfl
    have h3 := hA0.cell 3 _ rfl
    have HR : Hid (D = true ↔ ids = [] ∧ ts = [] ∧ s.length ≤ 65536) := HD.out.trans (right_123 (by omega))
    by_cases hz : n + m = 0
    · obtain rfl : n = 0 := by omega
      obtain rfl : m = 0 := by omega
      have he1 : ids = [] := List.eq_nil_of_length_eq_zero HN.out.symm
      have he2 : ts = [] := List.eq_nil_of_length_eq_zero HM.out.symm
      subst he1; subst he2
      have HL : Hid (D = !(longT s)) := by
        show _ = _
        by_cases h : 65536 < s.length
        · rw [dFalse HR.out (fun h2 => by omega)]; simp [longT, h]
        · rw [dTrue HR.out ⟨rfl, rfl, by omega⟩]; simp [longT, h]
      obtain ⟨E, hE⟩ : ∃ E, E = longT s := ⟨_, rfl⟩
      have c1 := fun y => Right1_calls s y (by unfold maxLen; exact hsm)
      rw [← hE] at c1
      have hL := HL.out
      rw [← hE] at hL
      subst hL
      clear hE HL hz
      go_enter Try.func58, Try.ntmps58
      go_wp2_with fail
      refine (c1 _).mono ?_
      rintro e w5 ⟨rfl, rfl⟩
      clear c1
      cases E <;>
      · go_wp2_with fail
        go_returns
        exact ⟨rfl, hb0⟩
    · have hz1 : ¬ ((n : Int) + (m : Int) = 0) := by omega
      have hz2 : decide ((n : Int) + (m : Int) = 0) = false := decide_eq_false hz1
      have hz3 : IntKind.i64.wrap ((n : Int) + (m : Int)) = (n : Int) + (m : Int) := IntWalk.i64_in _ (by omega)
      obtain rfl : D = false := dFalse HR.out (fun h => by have := HN.out; have := HM.out; rw [h.1] at *; rw [h.2.1] at *; simp at *; omega)
      go_enter Try.func58, Try.ntmps58
      go_wp2_with fail
      go_returns
      exact ⟨rfl, hb0⟩
  by_cases hk2 : k = 2
  · subst hk2
    have hb0 : Below w.heap.size w (w.alloc (.cells #[.int .i64 2, .string (str s), .slice iao n ic, .slice tao m tc] 109)) := below_alloc1 _ _
    have hA0 : Blk (w.alloc (.cells #[.int .i64 2, .string (str s), .slice iao n ic, .slice tao m tc] 109)) w.heap.size #[.int .i64 2, .string (str s), .slice iao n ic, .slice tao m tc] 109 := Blk.new _ _ _
    have h0 := hA0.cell 0 _ rfl
    have h1 := hA0.cell 1 _ rfl
    have h2 := hA0.cell 2 _ rfl
    have h3 := hA0.cell 3 _ rfl
    have HR : Hid (D = true ↔ ids = [] ∧ ts = [] ∧ s.length ≤ 65536) := HD.out.trans (right_123 (by omega))
    by_cases hz : n + m = 0
    · obtain rfl : n = 0 := by omega
      obtain rfl : m = 0 := by omega
      have he1 : ids = [] := List.eq_nil_of_length_eq_zero HN.out.symm
      have he2 : ts = [] := List.eq_nil_of_length_eq_zero HM.out.symm
      subst he1; subst he2
      have HL : Hid (D = !(longT s)) := by
        show _ = _
        by_cases h : 65536 < s.length
        · rw [dFalse HR.out (fun h2 => by omega)]; simp [longT, h]
        · rw [dTrue HR.out ⟨rfl, rfl, by omega⟩]; simp [longT, h]
      obtain ⟨E, hE⟩ : ∃ E, E = longT s := ⟨_, rfl⟩
      have c1 := fun y => Right1_calls s y (by unfold maxLen; exact hsm)
      rw [← hE] at c1
      have hL := HL.out
      rw [← hE] at hL
      subst hL
      clear hE HL hz
      go_enter Try.func58, Try.ntmps58
      go_wp2_with fail
      refine (c1 _).mono ?_
      rintro e w5 ⟨rfl, rfl⟩
      clear c1
      cases E <;>
      · go_wp2_with fail
        go_returns
        exact ⟨rfl, hb0⟩
    · have hz1 : ¬ ((n : Int) + (m : Int) = 0) := by omega
      have hz2 : decide ((n : Int) + (m : Int) = 0) = false := decide_eq_false hz1
      have hz3 : IntKind.i64.wrap ((n : Int) + (m : Int)) = (n : Int) + (m : Int) := IntWalk.i64_in _ (by omega)
      obtain rfl : D = false := dFalse HR.out (fun h => by have := HN.out; have := HM.out; rw [h.1] at *; rw [h.2.1] at *; simp at *; omega)
      go_enter Try.func58, Try.ntmps58
      go_wp2_with fail
      go_returns
      exact ⟨rfl, hb0⟩
  by_cases hk3 : k = 3
  · subst hk3
    have hb0 : Below w.heap.size w (w.alloc (.cells #[.int .i64 3, .string (str s), .slice iao n ic, .slice tao m tc] 109)) := below_alloc1 _ _
    have hA0 : Blk (w.alloc (.cells #[.int .i64 3, .string (str s), .slice iao n ic, .slice tao m tc] 109)) w.heap.size #[.int .i64 3, .string (str s), .slice iao n ic, .slice tao m tc] 109 := Blk.new _ _ _
    have h0 := hA0.cell 0 _ rfl
    have h1 := hA0.cell 1 _ rfl
    have h2 := hA0.cell 2 _ rfl
    have h3 := hA0.cell 3 _ rfl
    have HR : Hid (D = true ↔ ids = [] ∧ ts = [] ∧ s.length ≤ 65536) := HD.out.trans (right_123 (by omega))
    by_cases hz : n + m = 0
    · obtain rfl : n = 0 := by omega
      obtain rfl : m = 0 := by omega
      have he1 : ids = [] := List.eq_nil_of_length_eq_zero HN.out.symm
      have he2 : ts = [] := List.eq_nil_of_length_eq_zero HM.out.symm
      subst he1; subst he2
      have HL : Hid (D = !(longT s)) := by
        show _ = _
        by_cases h : 65536 < s.length
        · rw [dFalse HR.out (fun h2 => by omega)]; simp [longT, h]
        · rw [dTrue HR.out ⟨rfl, rfl, by omega⟩]; simp [longT, h]
      obtain ⟨E, hE⟩ : ∃ E, E = longT s := ⟨_, rfl⟩
      have c1 := fun y => Right1_calls s y (by unfold maxLen; exact hsm)
      rw [← hE] at c1
      have hL := HL.out
      rw [← hE] at hL
      subst hL
      clear hE HL hz
      go_enter Try.func58, Try.ntmps58
      go_wp2_with fail
      refine (c1 _).mono ?_
      rintro e w5 ⟨rfl, rfl⟩
      clear c1
      cases E <;>
      · go_wp2_with fail
        go_returns
        exact ⟨rfl, hb0⟩
    · have hz1 : ¬ ((n : Int) + (m : Int) = 0) := by omega
      have hz2 : decide ((n : Int) + (m : Int) = 0) = false := decide_eq_false hz1
      have hz3 : IntKind.i64.wrap ((n : Int) + (m : Int)) = (n : Int) + (m : Int) := IntWalk.i64_in _ (by omega)
      obtain rfl : D = false := dFalse HR.out (fun h => by have := HN.out; have := HM.out; rw [h.1] at *; rw [h.2.1] at *; simp at *; omega)
      go_enter Try.func58, Try.ntmps58
      go_wp2_with fail
      go_returns
      exact ⟨rfl, hb0⟩
  by_cases hk4 : k = 4
  · subst hk4
    have hb0 : Below w.heap.size w (w.alloc (.cells #[.int .i64 4, .string (str s), .slice iao n ic, .slice tao m tc] 109)) := below_alloc1 _ _
    have hA0 : Blk (w.alloc (.cells #[.int .i64 4, .string (str s), .slice iao n ic, .slice tao m tc] 109)) w.heap.size #[.int .i64 4, .string (str s), .slice iao n ic, .slice tao m tc] 109 := Blk.new _ _ _
    have h0 := hA0.cell 0 _ rfl
    have h1 := hA0.cell 1 _ rfl
    have h2 := hA0.cell 2 _ rfl
    have h3 := hA0.cell 3 _ rfl
    have HR : Hid (D = true ↔ s = [] ∧ ts = [] ∧ ids.length ≤ 256 ∧ Rises ids) := HD.out.trans (right_45 (by omega))
    by_cases hn256 : 256 < n
    · obtain rfl : D = false := dFalse HD.out (fun h => by have := (right_45 (by omega)).1 h; have := HN.out; omega)
      go_enter Try.func58, Try.ntmps58
      go_wp2_with fail
      go_returns
      exact ⟨rfl, hb0⟩
    by_cases hs0 : s = []
    · have hse : s.isEmpty = true := by rw [hs0]; rfl
      have HS0 := Lib.hid hs0
      clear hs0
      by_cases hm0 : 0 < m
      · obtain rfl : D = false := dFalse HD.out (fun h => by have := (right_45 (by omega)).1 h; have h5 := HM.out; rw [this.2.1] at h5; simp at h5; omega)
        go_enter Try.func58, Try.ntmps58
        go_wp2_with fail
        go_returns
        exact ⟨rfl, hb0⟩
      · obtain rfl : m = 0 := by omega
        go_enter Try.func58, Try.ntmps58
        go_wp2_with fail
        have hA0h := Lib.hid hA0
        have hb0h := Lib.hid hb0
        go_loopw [4] (fun iv wr => ∃ i : Nat, 1 ≤ i ∧ i ≤ n + 1 ∧ iv = .int .i64 i ∧ Hid (∀ q a b, q + 1 < i → ids[q]? = some a → ids[q + 1]? = some b → cmpT a b < 0) ∧ Hid (Blk wr w.heap.size #[.int .i64 4, .string (str s), .slice iao n ic, .slice tao 0 tc] 109) ∧ Hid (Below w.heap.size w wr)) (fun iv _ => n + 1 - (intOf iv).toNat)
        case atStart => exact ⟨1, by omega, by omega, rfl, Lib.hid (fun q a b hq => by omega), hA0h, hb0h⟩
        case round =>
          obtain ⟨i, hi1, hi, rfl, hK, hAr, hBr⟩ := hrel
          clear hA0h hb0h h0 h1 h2 h3 hA0 hb0
          have h0 := hAr.out.cell 0 _ rfl
          have h1 := hAr.out.cell 1 _ rfl
          have h2 := hAr.out.cell 2 _ rfl
          have h3 := hAr.out.cell 3 _ rfl
          by_cases hlt : i < n
          · go_wp2_with fail
            clear h0 h1 h2 h3
            obtain ⟨hb, hhb⟩ : ∃ h, ids[i]? = some h := ⟨_, List.getElem?_eq_getElem (by rw [← HN.out]; exact hlt)⟩
            obtain ⟨j, hj⟩ : ∃ j, j = i - 1 := ⟨_, rfl⟩
            have hji : j + 1 = i := by omega
            obtain ⟨ha, hha⟩ : ∃ h, ids[j]? = some h := ⟨_, List.getElem?_eq_getElem (by rw [← HN.out]; omega)⟩
            obtain ⟨g, o, rfl, _⟩ := HI.out.range i hb hhb
            have HRA : Hid (∀ z, Below w.heap.size w z → z.rangeAt g (o + j * 32) (ha.map bv)) := fun z hz => (HI.out.below hz).range' j ha hha
            have HRB : Hid (∀ z, Below w.heap.size w z → z.rangeAt g (o + i * 32) (hb.map bv)) := fun z hz => (HI.out.below hz).range' i hb hhb
            have HA : Hid (ha.length = 32) := HI.out.1 ha (List.mem_of_getElem? hha)
            have HB : Hid (hb.length = 32) := HI.out.1 hb (List.mem_of_getElem? hhb)
            have HJ := Lib.hid hji
            have HHA := Lib.hid hha
            have HHB := Lib.hid hhb
            have hij : IntKind.i64.wrap ((i : Int) - 1) = (j : Int) := by rw [IntWalk.i64_in _ (by omega)]; omega
            have hjn : j < n := by omega
            have hA3 := hAr.out
            have hb3 := hBr.out
            clear hj hji hha hhb hAr hBr
            by_cases hcc : cmpT ha hb < 0
            · have HK5 : Hid (∀ q a b, q + 1 < i + 1 → ids[q]? = some a → ids[q + 1]? = some b → cmpT a b < 0) := fun q a b hq h4 h5 => by
                by_cases hqi : q + 1 < i
                · exact hK.out q a b hqi h4 h5
                · obtain rfl : q = j := by have := HJ.out; omega
                  rw [HJ.out, HHB.out] at h5
                  rw [HHA.out] at h4
                  obtain rfl := Option.some.inj h4
                  obtain rfl := Option.some.inj h5
                  exact hcc
              obtain ⟨C, hC⟩ : ∃ C, C = cmpT ha hb := ⟨_, rfl⟩
              have cC : ∀ y, Calls Try.prog 85 #[.agg (ha.map bv).toArray, .agg (hb.map bv).toArray] y fun e w' => e = .returned (.int .i64 C) ∧ Below y.heap.size y w' := fun y => by rw [hC]; exact Cmp_below ha hb HA.out HB.out y
              have hCd : decide (0 ≤ C) = false := decide_eq_false (by omega)
              clear hC
              clear hcc hK
              refine wp_region_held_drew (S := fun x => Blk x (w.heap.size) #[.int .i64 4, .string (str s), .slice (some ⟨g, o, none⟩) n ic, .slice tao 0 tc] 109 ∧ Below w.heap.size w x) (by kernel_rfl) ⟨hA3.drew, below_drewN hb3 1⟩ (fun hSq1 => ?_)
              refine wpAnyH_take (i := 0) (v := .pointer (some ⟨w.heap.size, 2, none⟩)) rfl (by kernel_rfl) (by kernel_rfl) (by kernel_rfl) (fun _ _ _ h => h) (Or.inl ⟨by rfl, fun x hx => by go_simp⟩) hSq1 ?_
              simp only [Act.put, List.getElem_toArray, List.getElem_cons_zero, List.getElem_cons_succ, List.setIfInBounds_toArray, List.set_cons_zero, List.set_cons_succ]
              refine wpAnyH_take (i := 1) (v := .slice (some ⟨g, o, none⟩) n ic) rfl (by kernel_rfl) (by kernel_rfl) (by kernel_rfl) (fun _ _ _ h => h) (Or.inl ⟨by rfl, fun x hx => by have hc := hx.1.cell 2 _ rfl; go_simp⟩) hSq1 ?_
              simp only [Act.put, List.getElem_toArray, List.getElem_cons_zero, List.getElem_cons_succ, List.setIfInBounds_toArray, List.set_cons_zero, List.set_cons_succ]
              refine wpAnyH_take (i := 2) (v := .int .i64 i) rfl (by kernel_rfl) (by kernel_rfl) (by kernel_rfl) (fun _ _ _ h => h) (Or.inl ⟨by rfl, fun x hx => by go_simp⟩) hSq1 ?_
              simp only [Act.put, List.getElem_toArray, List.getElem_cons_zero, List.getElem_cons_succ, List.setIfInBounds_toArray, List.set_cons_zero, List.set_cons_succ]
              refine wpAnyH_take (i := 3) (v := .int .i64 j) rfl (by kernel_rfl) (by kernel_rfl) (by kernel_rfl) (fun _ _ _ h => h) (Or.inl ⟨by rfl, fun x hx => by go_simp⟩) hSq1 ?_
              simp only [Act.put, List.getElem_toArray, List.getElem_cons_zero, List.getElem_cons_succ, List.setIfInBounds_toArray, List.set_cons_zero, List.set_cons_succ]
              refine wpAnyH_take (i := 4) (v := .pointer (some ⟨g, o + j * 32, none⟩)) rfl (by kernel_rfl) (by kernel_rfl) (by kernel_rfl) (fun _ _ _ h => h) (Or.inl ⟨by rfl, fun x hx => by go_simp⟩) hSq1 ?_
              simp only [Act.put, List.getElem_toArray, List.getElem_cons_zero, List.getElem_cons_succ, List.setIfInBounds_toArray, List.set_cons_zero, List.set_cons_succ]
              refine wpAnyH_take (i := 5) rfl (by kernel_rfl) (by kernel_rfl) (by kernel_rfl) (fun _ _ _ h => h) (yieldsIf_load_mid (by rfl) 23 (.tmp 55) rfl (g) (o + j * 32) (by rfl) (ha.map bv) _ (fun x hx => HRA.out _ hx.2) Try.underlying23 rfl (by rw [List.length_map, HA.out]; exact Try.sizeHash)) hSq1 ?_
              simp only [Act.put, List.getElem_toArray, List.getElem_cons_zero, List.getElem_cons_succ, List.setIfInBounds_toArray, List.set_cons_zero, List.set_cons_succ]
              refine wpAnyH_take (i := 6) (v := .pointer (some ⟨w.heap.size, 2, none⟩)) rfl (by kernel_rfl) (by kernel_rfl) (by kernel_rfl) (fun _ _ _ h => h) (Or.inl ⟨by rfl, fun x hx => by go_simp⟩) hSq1 ?_
              simp only [Act.put, List.getElem_toArray, List.getElem_cons_zero, List.getElem_cons_succ, List.setIfInBounds_toArray, List.set_cons_zero, List.set_cons_succ]
              refine wpAnyH_take (i := 7) (v := .slice (some ⟨g, o, none⟩) n ic) rfl (by kernel_rfl) (by kernel_rfl) (by kernel_rfl) (fun _ _ _ h => h) (Or.inl ⟨by rfl, fun x hx => by have hc := hx.1.cell 2 _ rfl; go_simp⟩) hSq1 ?_
              simp only [Act.put, List.getElem_toArray, List.getElem_cons_zero, List.getElem_cons_succ, List.setIfInBounds_toArray, List.set_cons_zero, List.set_cons_succ]
              refine wpAnyH_take (i := 8) (v := .int .i64 i) rfl (by kernel_rfl) (by kernel_rfl) (by kernel_rfl) (fun _ _ _ h => h) (Or.inl ⟨by rfl, fun x hx => by go_simp⟩) hSq1 ?_
              simp only [Act.put, List.getElem_toArray, List.getElem_cons_zero, List.getElem_cons_succ, List.setIfInBounds_toArray, List.set_cons_zero, List.set_cons_succ]
              refine wpAnyH_take (i := 9) (v := .pointer (some ⟨g, o + i * 32, none⟩)) rfl (by kernel_rfl) (by kernel_rfl) (by kernel_rfl) (fun _ _ _ h => h) (Or.inl ⟨by rfl, fun x hx => by go_simp⟩) hSq1 ?_
              simp only [Act.put, List.getElem_toArray, List.getElem_cons_zero, List.getElem_cons_succ, List.setIfInBounds_toArray, List.set_cons_zero, List.set_cons_succ]
              refine wpAnyH_take (i := 10) rfl (by kernel_rfl) (by kernel_rfl) (by kernel_rfl) (fun _ _ _ h => h) (yieldsIf_load_mid (by rfl) 23 (.tmp 60) rfl (g) (o + i * 32) (by rfl) (hb.map bv) _ (fun x hx => HRB.out _ hx.2) Try.underlying23 rfl (by rw [List.length_map, HB.out]; exact Try.sizeHash)) hSq1 ?_
              simp only [Act.put, List.getElem_toArray, List.getElem_cons_zero, List.getElem_cons_succ, List.setIfInBounds_toArray, List.set_cons_zero, List.set_cons_succ]
              refine wpAnyH_ready (rs := [11]) (by kernel_rfl) (by simp) ?_
              refine AllReadyH.cons rfl (fun K hK => ?_) AllReadyH.nil
              go_simp
              go_wp2_with (go_at_call 85; refine (cC _).mono ?_; rintro e yq2 ⟨rfl, bq3⟩)
              refine hK.out _ _ ⟨hSq1.1.below bq3 hSq1.1.lt, hSq1.2.trans (bq3.mono (hSq1.2.size))⟩ (fun hSq4 => ?_)
              clear hK K hSq1 bq3
              refine wpAnyH_take (i := 12) (v := .bool false) rfl (by kernel_rfl) (by kernel_rfl) (by kernel_rfl) (fun _ _ _ h => h) (Or.inl ⟨by rfl, fun x hx => by go_simp⟩) hSq4 ?_
              simp only [Act.put, List.getElem_toArray, List.getElem_cons_zero, List.getElem_cons_succ, List.setIfInBounds_toArray, List.set_cons_zero, List.set_cons_succ]
              refine wpAnyH_done (by kernel_rfl) ?_ _
              have hA9 := Lib.hid hSq4.1
              have hB9 := Lib.hid hSq4.2
              clear hSq4 hij cC
              go_wp2_with fail
              go_roundw
              case rel => exact ⟨i + 1, by omega, by omega, by go_num, HK5, hA9, hB9⟩
              case measure => simp [intOf]; omega
            · obtain rfl : D = false := dFalse HR.out (fun h => hcc (rises_next (h.2.2.2) HHA.out (by rw [HJ.out]; exact HHB.out)))
              obtain ⟨C, hC⟩ : ∃ C, C = cmpT ha hb := ⟨_, rfl⟩
              have cC : ∀ y, Calls Try.prog 85 #[.agg (ha.map bv).toArray, .agg (hb.map bv).toArray] y fun e w' => e = .returned (.int .i64 C) ∧ Below y.heap.size y w' := fun y => by rw [hC]; exact Cmp_below ha hb HA.out HB.out y
              have hCd : decide (0 ≤ C) = true := decide_eq_true (by omega)
              clear hC
              clear hcc hK
              refine wp_region_held_drew (S := fun x => Blk x (w.heap.size) #[.int .i64 4, .string (str s), .slice (some ⟨g, o, none⟩) n ic, .slice tao 0 tc] 109 ∧ Below w.heap.size w x) (by kernel_rfl) ⟨hA3.drew, below_drewN hb3 1⟩ (fun hSq5 => ?_)
              refine wpAnyH_take (i := 0) (v := .pointer (some ⟨w.heap.size, 2, none⟩)) rfl (by kernel_rfl) (by kernel_rfl) (by kernel_rfl) (fun _ _ _ h => h) (Or.inl ⟨by rfl, fun x hx => by go_simp⟩) hSq5 ?_
              simp only [Act.put, List.getElem_toArray, List.getElem_cons_zero, List.getElem_cons_succ, List.setIfInBounds_toArray, List.set_cons_zero, List.set_cons_succ]
              refine wpAnyH_take (i := 1) (v := .slice (some ⟨g, o, none⟩) n ic) rfl (by kernel_rfl) (by kernel_rfl) (by kernel_rfl) (fun _ _ _ h => h) (Or.inl ⟨by rfl, fun x hx => by have hc := hx.1.cell 2 _ rfl; go_simp⟩) hSq5 ?_
              simp only [Act.put, List.getElem_toArray, List.getElem_cons_zero, List.getElem_cons_succ, List.setIfInBounds_toArray, List.set_cons_zero, List.set_cons_succ]
              refine wpAnyH_take (i := 2) (v := .int .i64 i) rfl (by kernel_rfl) (by kernel_rfl) (by kernel_rfl) (fun _ _ _ h => h) (Or.inl ⟨by rfl, fun x hx => by go_simp⟩) hSq5 ?_
              simp only [Act.put, List.getElem_toArray, List.getElem_cons_zero, List.getElem_cons_succ, List.setIfInBounds_toArray, List.set_cons_zero, List.set_cons_succ]
              refine wpAnyH_take (i := 3) (v := .int .i64 j) rfl (by kernel_rfl) (by kernel_rfl) (by kernel_rfl) (fun _ _ _ h => h) (Or.inl ⟨by rfl, fun x hx => by go_simp⟩) hSq5 ?_
              simp only [Act.put, List.getElem_toArray, List.getElem_cons_zero, List.getElem_cons_succ, List.setIfInBounds_toArray, List.set_cons_zero, List.set_cons_succ]
              refine wpAnyH_take (i := 4) (v := .pointer (some ⟨g, o + j * 32, none⟩)) rfl (by kernel_rfl) (by kernel_rfl) (by kernel_rfl) (fun _ _ _ h => h) (Or.inl ⟨by rfl, fun x hx => by go_simp⟩) hSq5 ?_
              simp only [Act.put, List.getElem_toArray, List.getElem_cons_zero, List.getElem_cons_succ, List.setIfInBounds_toArray, List.set_cons_zero, List.set_cons_succ]
              refine wpAnyH_take (i := 5) rfl (by kernel_rfl) (by kernel_rfl) (by kernel_rfl) (fun _ _ _ h => h) (yieldsIf_load_mid (by rfl) 23 (.tmp 55) rfl (g) (o + j * 32) (by rfl) (ha.map bv) _ (fun x hx => HRA.out _ hx.2) Try.underlying23 rfl (by rw [List.length_map, HA.out]; exact Try.sizeHash)) hSq5 ?_
              simp only [Act.put, List.getElem_toArray, List.getElem_cons_zero, List.getElem_cons_succ, List.setIfInBounds_toArray, List.set_cons_zero, List.set_cons_succ]
              refine wpAnyH_take (i := 6) (v := .pointer (some ⟨w.heap.size, 2, none⟩)) rfl (by kernel_rfl) (by kernel_rfl) (by kernel_rfl) (fun _ _ _ h => h) (Or.inl ⟨by rfl, fun x hx => by go_simp⟩) hSq5 ?_
              simp only [Act.put, List.getElem_toArray, List.getElem_cons_zero, List.getElem_cons_succ, List.setIfInBounds_toArray, List.set_cons_zero, List.set_cons_succ]
              refine wpAnyH_take (i := 7) (v := .slice (some ⟨g, o, none⟩) n ic) rfl (by kernel_rfl) (by kernel_rfl) (by kernel_rfl) (fun _ _ _ h => h) (Or.inl ⟨by rfl, fun x hx => by have hc := hx.1.cell 2 _ rfl; go_simp⟩) hSq5 ?_
              simp only [Act.put, List.getElem_toArray, List.getElem_cons_zero, List.getElem_cons_succ, List.setIfInBounds_toArray, List.set_cons_zero, List.set_cons_succ]
              refine wpAnyH_take (i := 8) (v := .int .i64 i) rfl (by kernel_rfl) (by kernel_rfl) (by kernel_rfl) (fun _ _ _ h => h) (Or.inl ⟨by rfl, fun x hx => by go_simp⟩) hSq5 ?_
              simp only [Act.put, List.getElem_toArray, List.getElem_cons_zero, List.getElem_cons_succ, List.setIfInBounds_toArray, List.set_cons_zero, List.set_cons_succ]
              refine wpAnyH_take (i := 9) (v := .pointer (some ⟨g, o + i * 32, none⟩)) rfl (by kernel_rfl) (by kernel_rfl) (by kernel_rfl) (fun _ _ _ h => h) (Or.inl ⟨by rfl, fun x hx => by go_simp⟩) hSq5 ?_
              simp only [Act.put, List.getElem_toArray, List.getElem_cons_zero, List.getElem_cons_succ, List.setIfInBounds_toArray, List.set_cons_zero, List.set_cons_succ]
              refine wpAnyH_take (i := 10) rfl (by kernel_rfl) (by kernel_rfl) (by kernel_rfl) (fun _ _ _ h => h) (yieldsIf_load_mid (by rfl) 23 (.tmp 60) rfl (g) (o + i * 32) (by rfl) (hb.map bv) _ (fun x hx => HRB.out _ hx.2) Try.underlying23 rfl (by rw [List.length_map, HB.out]; exact Try.sizeHash)) hSq5 ?_
              simp only [Act.put, List.getElem_toArray, List.getElem_cons_zero, List.getElem_cons_succ, List.setIfInBounds_toArray, List.set_cons_zero, List.set_cons_succ]
              refine wpAnyH_ready (rs := [11]) (by kernel_rfl) (by simp) ?_
              refine AllReadyH.cons rfl (fun K hK => ?_) AllReadyH.nil
              go_simp
              go_wp2_with (go_at_call 85; refine (cC _).mono ?_; rintro e yq6 ⟨rfl, bq7⟩)
              refine hK.out _ _ ⟨hSq5.1.below bq7 hSq5.1.lt, hSq5.2.trans (bq7.mono (hSq5.2.size))⟩ (fun hSq8 => ?_)
              clear hK K hSq5 bq7
              refine wpAnyH_take (i := 12) (v := .bool true) rfl (by kernel_rfl) (by kernel_rfl) (by kernel_rfl) (fun _ _ _ h => h) (Or.inl ⟨by rfl, fun x hx => by go_simp⟩) hSq8 ?_
              simp only [Act.put, List.getElem_toArray, List.getElem_cons_zero, List.getElem_cons_succ, List.setIfInBounds_toArray, List.set_cons_zero, List.set_cons_succ]
              refine wpAnyH_done (by kernel_rfl) ?_ _
              have hB9 := hSq8.2
              clear hSq8 hij cC
              go_wp2_with fail
              go_returns
              exact ⟨rfl, hB9⟩
          · have hri : Rises ids := rises_chain HI.out.1 fun q a b h4 h5 => hK.out q a b (by have := (List.getElem?_eq_some_iff.1 h5).1; have := HN.out; omega) h4 h5
            obtain rfl : D = true := dTrue HR.out ⟨HS0.out, List.eq_nil_of_length_eq_zero HM.out.symm, by have := HN.out; omega, hri⟩
            go_wp2_with fail
            go_returns
            exact ⟨rfl, hBr.out⟩
    · have hse : s.isEmpty = false := by cases h : s with | nil => exact absurd h hs0 | cons _ _ => rfl
      have HS0 := Lib.hid hs0
      clear hs0
      obtain rfl : D = false := dFalse HD.out (fun h => HS0.out ((right_45 (by omega)).1 h).1)
      go_enter Try.func58, Try.ntmps58
      go_wp2_with fail
      go_returns
      exact ⟨rfl, hb0⟩
  by_cases hk5 : k = 5
  · subst hk5
    have hb0 : Below w.heap.size w (w.alloc (.cells #[.int .i64 5, .string (str s), .slice iao n ic, .slice tao m tc] 109)) := below_alloc1 _ _
    have hA0 : Blk (w.alloc (.cells #[.int .i64 5, .string (str s), .slice iao n ic, .slice tao m tc] 109)) w.heap.size #[.int .i64 5, .string (str s), .slice iao n ic, .slice tao m tc] 109 := Blk.new _ _ _
    have h0 := hA0.cell 0 _ rfl
    have h1 := hA0.cell 1 _ rfl
    have h2 := hA0.cell 2 _ rfl
    have h3 := hA0.cell 3 _ rfl
    have HR : Hid (D = true ↔ s = [] ∧ ts = [] ∧ ids.length ≤ 256 ∧ Rises ids) := HD.out.trans (right_45 (by omega))
    by_cases hn256 : 256 < n
    · obtain rfl : D = false := dFalse HD.out (fun h => by have := (right_45 (by omega)).1 h; have := HN.out; omega)
      go_enter Try.func58, Try.ntmps58
      go_wp2_with fail
      go_returns
      exact ⟨rfl, hb0⟩
    by_cases hs0 : s = []
    · have hse : s.isEmpty = true := by rw [hs0]; rfl
      have HS0 := Lib.hid hs0
      clear hs0
      by_cases hm0 : 0 < m
      · obtain rfl : D = false := dFalse HD.out (fun h => by have := (right_45 (by omega)).1 h; have h5 := HM.out; rw [this.2.1] at h5; simp at h5; omega)
        go_enter Try.func58, Try.ntmps58
        go_wp2_with fail
        go_returns
        exact ⟨rfl, hb0⟩
      · obtain rfl : m = 0 := by omega
        go_enter Try.func58, Try.ntmps58
        go_wp2_with fail
        have hA0h := Lib.hid hA0
        have hb0h := Lib.hid hb0
        go_loopw [4] (fun iv wr => ∃ i : Nat, 1 ≤ i ∧ i ≤ n + 1 ∧ iv = .int .i64 i ∧ Hid (∀ q a b, q + 1 < i → ids[q]? = some a → ids[q + 1]? = some b → cmpT a b < 0) ∧ Hid (Blk wr w.heap.size #[.int .i64 5, .string (str s), .slice iao n ic, .slice tao 0 tc] 109) ∧ Hid (Below w.heap.size w wr)) (fun iv _ => n + 1 - (intOf iv).toNat)
        case atStart => exact ⟨1, by omega, by omega, rfl, Lib.hid (fun q a b hq => by omega), hA0h, hb0h⟩
        case round =>
          obtain ⟨i, hi1, hi, rfl, hK, hAr, hBr⟩ := hrel
          clear hA0h hb0h h0 h1 h2 h3 hA0 hb0
          have h0 := hAr.out.cell 0 _ rfl
          have h1 := hAr.out.cell 1 _ rfl
          have h2 := hAr.out.cell 2 _ rfl
          have h3 := hAr.out.cell 3 _ rfl
          by_cases hlt : i < n
          · go_wp2_with fail
            clear h0 h1 h2 h3
            obtain ⟨hb, hhb⟩ : ∃ h, ids[i]? = some h := ⟨_, List.getElem?_eq_getElem (by rw [← HN.out]; exact hlt)⟩
            obtain ⟨j, hj⟩ : ∃ j, j = i - 1 := ⟨_, rfl⟩
            have hji : j + 1 = i := by omega
            obtain ⟨ha, hha⟩ : ∃ h, ids[j]? = some h := ⟨_, List.getElem?_eq_getElem (by rw [← HN.out]; omega)⟩
            obtain ⟨g, o, rfl, _⟩ := HI.out.range i hb hhb
            have HRA : Hid (∀ z, Below w.heap.size w z → z.rangeAt g (o + j * 32) (ha.map bv)) := fun z hz => (HI.out.below hz).range' j ha hha
            have HRB : Hid (∀ z, Below w.heap.size w z → z.rangeAt g (o + i * 32) (hb.map bv)) := fun z hz => (HI.out.below hz).range' i hb hhb
            have HA : Hid (ha.length = 32) := HI.out.1 ha (List.mem_of_getElem? hha)
            have HB : Hid (hb.length = 32) := HI.out.1 hb (List.mem_of_getElem? hhb)
            have HJ := Lib.hid hji
            have HHA := Lib.hid hha
            have HHB := Lib.hid hhb
            have hij : IntKind.i64.wrap ((i : Int) - 1) = (j : Int) := by rw [IntWalk.i64_in _ (by omega)]; omega
            have hjn : j < n := by omega
            have hA3 := hAr.out
            have hb3 := hBr.out
            clear hj hji hha hhb hAr hBr
            by_cases hcc : cmpT ha hb < 0
            · have HK5 : Hid (∀ q a b, q + 1 < i + 1 → ids[q]? = some a → ids[q + 1]? = some b → cmpT a b < 0) := fun q a b hq h4 h5 => by
                by_cases hqi : q + 1 < i
                · exact hK.out q a b hqi h4 h5
                · obtain rfl : q = j := by have := HJ.out; omega
                  rw [HJ.out, HHB.out] at h5
                  rw [HHA.out] at h4
                  obtain rfl := Option.some.inj h4
                  obtain rfl := Option.some.inj h5
                  exact hcc
              obtain ⟨C, hC⟩ : ∃ C, C = cmpT ha hb := ⟨_, rfl⟩
              have cC : ∀ y, Calls Try.prog 85 #[.agg (ha.map bv).toArray, .agg (hb.map bv).toArray] y fun e w' => e = .returned (.int .i64 C) ∧ Below y.heap.size y w' := fun y => by rw [hC]; exact Cmp_below ha hb HA.out HB.out y
              have hCd : decide (0 ≤ C) = false := decide_eq_false (by omega)
              clear hC
              clear hcc hK
              refine wp_region_held_drew (S := fun x => Blk x (w.heap.size) #[.int .i64 5, .string (str s), .slice (some ⟨g, o, none⟩) n ic, .slice tao 0 tc] 109 ∧ Below w.heap.size w x) (by kernel_rfl) ⟨hA3.drew, below_drewN hb3 1⟩ (fun hSq9 => ?_)
              refine wpAnyH_take (i := 0) (v := .pointer (some ⟨w.heap.size, 2, none⟩)) rfl (by kernel_rfl) (by kernel_rfl) (by kernel_rfl) (fun _ _ _ h => h) (Or.inl ⟨by rfl, fun x hx => by go_simp⟩) hSq9 ?_
              simp only [Act.put, List.getElem_toArray, List.getElem_cons_zero, List.getElem_cons_succ, List.setIfInBounds_toArray, List.set_cons_zero, List.set_cons_succ]
              refine wpAnyH_take (i := 1) (v := .slice (some ⟨g, o, none⟩) n ic) rfl (by kernel_rfl) (by kernel_rfl) (by kernel_rfl) (fun _ _ _ h => h) (Or.inl ⟨by rfl, fun x hx => by have hc := hx.1.cell 2 _ rfl; go_simp⟩) hSq9 ?_
              simp only [Act.put, List.getElem_toArray, List.getElem_cons_zero, List.getElem_cons_succ, List.setIfInBounds_toArray, List.set_cons_zero, List.set_cons_succ]
              refine wpAnyH_take (i := 2) (v := .int .i64 i) rfl (by kernel_rfl) (by kernel_rfl) (by kernel_rfl) (fun _ _ _ h => h) (Or.inl ⟨by rfl, fun x hx => by go_simp⟩) hSq9 ?_
              simp only [Act.put, List.getElem_toArray, List.getElem_cons_zero, List.getElem_cons_succ, List.setIfInBounds_toArray, List.set_cons_zero, List.set_cons_succ]
              refine wpAnyH_take (i := 3) (v := .int .i64 j) rfl (by kernel_rfl) (by kernel_rfl) (by kernel_rfl) (fun _ _ _ h => h) (Or.inl ⟨by rfl, fun x hx => by go_simp⟩) hSq9 ?_
              simp only [Act.put, List.getElem_toArray, List.getElem_cons_zero, List.getElem_cons_succ, List.setIfInBounds_toArray, List.set_cons_zero, List.set_cons_succ]
              refine wpAnyH_take (i := 4) (v := .pointer (some ⟨g, o + j * 32, none⟩)) rfl (by kernel_rfl) (by kernel_rfl) (by kernel_rfl) (fun _ _ _ h => h) (Or.inl ⟨by rfl, fun x hx => by go_simp⟩) hSq9 ?_
              simp only [Act.put, List.getElem_toArray, List.getElem_cons_zero, List.getElem_cons_succ, List.setIfInBounds_toArray, List.set_cons_zero, List.set_cons_succ]
              refine wpAnyH_take (i := 5) rfl (by kernel_rfl) (by kernel_rfl) (by kernel_rfl) (fun _ _ _ h => h) (yieldsIf_load_mid (by rfl) 23 (.tmp 55) rfl (g) (o + j * 32) (by rfl) (ha.map bv) _ (fun x hx => HRA.out _ hx.2) Try.underlying23 rfl (by rw [List.length_map, HA.out]; exact Try.sizeHash)) hSq9 ?_
              simp only [Act.put, List.getElem_toArray, List.getElem_cons_zero, List.getElem_cons_succ, List.setIfInBounds_toArray, List.set_cons_zero, List.set_cons_succ]
              refine wpAnyH_take (i := 6) (v := .pointer (some ⟨w.heap.size, 2, none⟩)) rfl (by kernel_rfl) (by kernel_rfl) (by kernel_rfl) (fun _ _ _ h => h) (Or.inl ⟨by rfl, fun x hx => by go_simp⟩) hSq9 ?_
              simp only [Act.put, List.getElem_toArray, List.getElem_cons_zero, List.getElem_cons_succ, List.setIfInBounds_toArray, List.set_cons_zero, List.set_cons_succ]
              refine wpAnyH_take (i := 7) (v := .slice (some ⟨g, o, none⟩) n ic) rfl (by kernel_rfl) (by kernel_rfl) (by kernel_rfl) (fun _ _ _ h => h) (Or.inl ⟨by rfl, fun x hx => by have hc := hx.1.cell 2 _ rfl; go_simp⟩) hSq9 ?_
              simp only [Act.put, List.getElem_toArray, List.getElem_cons_zero, List.getElem_cons_succ, List.setIfInBounds_toArray, List.set_cons_zero, List.set_cons_succ]
              refine wpAnyH_take (i := 8) (v := .int .i64 i) rfl (by kernel_rfl) (by kernel_rfl) (by kernel_rfl) (fun _ _ _ h => h) (Or.inl ⟨by rfl, fun x hx => by go_simp⟩) hSq9 ?_
              simp only [Act.put, List.getElem_toArray, List.getElem_cons_zero, List.getElem_cons_succ, List.setIfInBounds_toArray, List.set_cons_zero, List.set_cons_succ]
              refine wpAnyH_take (i := 9) (v := .pointer (some ⟨g, o + i * 32, none⟩)) rfl (by kernel_rfl) (by kernel_rfl) (by kernel_rfl) (fun _ _ _ h => h) (Or.inl ⟨by rfl, fun x hx => by go_simp⟩) hSq9 ?_
              simp only [Act.put, List.getElem_toArray, List.getElem_cons_zero, List.getElem_cons_succ, List.setIfInBounds_toArray, List.set_cons_zero, List.set_cons_succ]
              refine wpAnyH_take (i := 10) rfl (by kernel_rfl) (by kernel_rfl) (by kernel_rfl) (fun _ _ _ h => h) (yieldsIf_load_mid (by rfl) 23 (.tmp 60) rfl (g) (o + i * 32) (by rfl) (hb.map bv) _ (fun x hx => HRB.out _ hx.2) Try.underlying23 rfl (by rw [List.length_map, HB.out]; exact Try.sizeHash)) hSq9 ?_
              simp only [Act.put, List.getElem_toArray, List.getElem_cons_zero, List.getElem_cons_succ, List.setIfInBounds_toArray, List.set_cons_zero, List.set_cons_succ]
              refine wpAnyH_ready (rs := [11]) (by kernel_rfl) (by simp) ?_
              refine AllReadyH.cons rfl (fun K hK => ?_) AllReadyH.nil
              go_simp
              go_wp2_with (go_at_call 85; refine (cC _).mono ?_; rintro e yq10 ⟨rfl, bq11⟩)
              refine hK.out _ _ ⟨hSq9.1.below bq11 hSq9.1.lt, hSq9.2.trans (bq11.mono (hSq9.2.size))⟩ (fun hSq12 => ?_)
              clear hK K hSq9 bq11
              refine wpAnyH_take (i := 12) (v := .bool false) rfl (by kernel_rfl) (by kernel_rfl) (by kernel_rfl) (fun _ _ _ h => h) (Or.inl ⟨by rfl, fun x hx => by go_simp⟩) hSq12 ?_
              simp only [Act.put, List.getElem_toArray, List.getElem_cons_zero, List.getElem_cons_succ, List.setIfInBounds_toArray, List.set_cons_zero, List.set_cons_succ]
              refine wpAnyH_done (by kernel_rfl) ?_ _
              have hA9 := Lib.hid hSq12.1
              have hB9 := Lib.hid hSq12.2
              clear hSq12 hij cC
              go_wp2_with fail
              go_roundw
              case rel => exact ⟨i + 1, by omega, by omega, by go_num, HK5, hA9, hB9⟩
              case measure => simp [intOf]; omega
            · obtain rfl : D = false := dFalse HR.out (fun h => hcc (rises_next (h.2.2.2) HHA.out (by rw [HJ.out]; exact HHB.out)))
              obtain ⟨C, hC⟩ : ∃ C, C = cmpT ha hb := ⟨_, rfl⟩
              have cC : ∀ y, Calls Try.prog 85 #[.agg (ha.map bv).toArray, .agg (hb.map bv).toArray] y fun e w' => e = .returned (.int .i64 C) ∧ Below y.heap.size y w' := fun y => by rw [hC]; exact Cmp_below ha hb HA.out HB.out y
              have hCd : decide (0 ≤ C) = true := decide_eq_true (by omega)
              clear hC
              clear hcc hK
              refine wp_region_held_drew (S := fun x => Blk x (w.heap.size) #[.int .i64 5, .string (str s), .slice (some ⟨g, o, none⟩) n ic, .slice tao 0 tc] 109 ∧ Below w.heap.size w x) (by kernel_rfl) ⟨hA3.drew, below_drewN hb3 1⟩ (fun hSq13 => ?_)
              refine wpAnyH_take (i := 0) (v := .pointer (some ⟨w.heap.size, 2, none⟩)) rfl (by kernel_rfl) (by kernel_rfl) (by kernel_rfl) (fun _ _ _ h => h) (Or.inl ⟨by rfl, fun x hx => by go_simp⟩) hSq13 ?_
              simp only [Act.put, List.getElem_toArray, List.getElem_cons_zero, List.getElem_cons_succ, List.setIfInBounds_toArray, List.set_cons_zero, List.set_cons_succ]
              refine wpAnyH_take (i := 1) (v := .slice (some ⟨g, o, none⟩) n ic) rfl (by kernel_rfl) (by kernel_rfl) (by kernel_rfl) (fun _ _ _ h => h) (Or.inl ⟨by rfl, fun x hx => by have hc := hx.1.cell 2 _ rfl; go_simp⟩) hSq13 ?_
              simp only [Act.put, List.getElem_toArray, List.getElem_cons_zero, List.getElem_cons_succ, List.setIfInBounds_toArray, List.set_cons_zero, List.set_cons_succ]
              refine wpAnyH_take (i := 2) (v := .int .i64 i) rfl (by kernel_rfl) (by kernel_rfl) (by kernel_rfl) (fun _ _ _ h => h) (Or.inl ⟨by rfl, fun x hx => by go_simp⟩) hSq13 ?_
              simp only [Act.put, List.getElem_toArray, List.getElem_cons_zero, List.getElem_cons_succ, List.setIfInBounds_toArray, List.set_cons_zero, List.set_cons_succ]
              refine wpAnyH_take (i := 3) (v := .int .i64 j) rfl (by kernel_rfl) (by kernel_rfl) (by kernel_rfl) (fun _ _ _ h => h) (Or.inl ⟨by rfl, fun x hx => by go_simp⟩) hSq13 ?_
              simp only [Act.put, List.getElem_toArray, List.getElem_cons_zero, List.getElem_cons_succ, List.setIfInBounds_toArray, List.set_cons_zero, List.set_cons_succ]
              refine wpAnyH_take (i := 4) (v := .pointer (some ⟨g, o + j * 32, none⟩)) rfl (by kernel_rfl) (by kernel_rfl) (by kernel_rfl) (fun _ _ _ h => h) (Or.inl ⟨by rfl, fun x hx => by go_simp⟩) hSq13 ?_
              simp only [Act.put, List.getElem_toArray, List.getElem_cons_zero, List.getElem_cons_succ, List.setIfInBounds_toArray, List.set_cons_zero, List.set_cons_succ]
              refine wpAnyH_take (i := 5) rfl (by kernel_rfl) (by kernel_rfl) (by kernel_rfl) (fun _ _ _ h => h) (yieldsIf_load_mid (by rfl) 23 (.tmp 55) rfl (g) (o + j * 32) (by rfl) (ha.map bv) _ (fun x hx => HRA.out _ hx.2) Try.underlying23 rfl (by rw [List.length_map, HA.out]; exact Try.sizeHash)) hSq13 ?_
              simp only [Act.put, List.getElem_toArray, List.getElem_cons_zero, List.getElem_cons_succ, List.setIfInBounds_toArray, List.set_cons_zero, List.set_cons_succ]
              refine wpAnyH_take (i := 6) (v := .pointer (some ⟨w.heap.size, 2, none⟩)) rfl (by kernel_rfl) (by kernel_rfl) (by kernel_rfl) (fun _ _ _ h => h) (Or.inl ⟨by rfl, fun x hx => by go_simp⟩) hSq13 ?_
              simp only [Act.put, List.getElem_toArray, List.getElem_cons_zero, List.getElem_cons_succ, List.setIfInBounds_toArray, List.set_cons_zero, List.set_cons_succ]
              refine wpAnyH_take (i := 7) (v := .slice (some ⟨g, o, none⟩) n ic) rfl (by kernel_rfl) (by kernel_rfl) (by kernel_rfl) (fun _ _ _ h => h) (Or.inl ⟨by rfl, fun x hx => by have hc := hx.1.cell 2 _ rfl; go_simp⟩) hSq13 ?_
              simp only [Act.put, List.getElem_toArray, List.getElem_cons_zero, List.getElem_cons_succ, List.setIfInBounds_toArray, List.set_cons_zero, List.set_cons_succ]
              refine wpAnyH_take (i := 8) (v := .int .i64 i) rfl (by kernel_rfl) (by kernel_rfl) (by kernel_rfl) (fun _ _ _ h => h) (Or.inl ⟨by rfl, fun x hx => by go_simp⟩) hSq13 ?_
              simp only [Act.put, List.getElem_toArray, List.getElem_cons_zero, List.getElem_cons_succ, List.setIfInBounds_toArray, List.set_cons_zero, List.set_cons_succ]
              refine wpAnyH_take (i := 9) (v := .pointer (some ⟨g, o + i * 32, none⟩)) rfl (by kernel_rfl) (by kernel_rfl) (by kernel_rfl) (fun _ _ _ h => h) (Or.inl ⟨by rfl, fun x hx => by go_simp⟩) hSq13 ?_
              simp only [Act.put, List.getElem_toArray, List.getElem_cons_zero, List.getElem_cons_succ, List.setIfInBounds_toArray, List.set_cons_zero, List.set_cons_succ]
              refine wpAnyH_take (i := 10) rfl (by kernel_rfl) (by kernel_rfl) (by kernel_rfl) (fun _ _ _ h => h) (yieldsIf_load_mid (by rfl) 23 (.tmp 60) rfl (g) (o + i * 32) (by rfl) (hb.map bv) _ (fun x hx => HRB.out _ hx.2) Try.underlying23 rfl (by rw [List.length_map, HB.out]; exact Try.sizeHash)) hSq13 ?_
              simp only [Act.put, List.getElem_toArray, List.getElem_cons_zero, List.getElem_cons_succ, List.setIfInBounds_toArray, List.set_cons_zero, List.set_cons_succ]
              refine wpAnyH_ready (rs := [11]) (by kernel_rfl) (by simp) ?_
              refine AllReadyH.cons rfl (fun K hK => ?_) AllReadyH.nil
              go_simp
              go_wp2_with (go_at_call 85; refine (cC _).mono ?_; rintro e yq14 ⟨rfl, bq15⟩)
              refine hK.out _ _ ⟨hSq13.1.below bq15 hSq13.1.lt, hSq13.2.trans (bq15.mono (hSq13.2.size))⟩ (fun hSq16 => ?_)
              clear hK K hSq13 bq15
              refine wpAnyH_take (i := 12) (v := .bool true) rfl (by kernel_rfl) (by kernel_rfl) (by kernel_rfl) (fun _ _ _ h => h) (Or.inl ⟨by rfl, fun x hx => by go_simp⟩) hSq16 ?_
              simp only [Act.put, List.getElem_toArray, List.getElem_cons_zero, List.getElem_cons_succ, List.setIfInBounds_toArray, List.set_cons_zero, List.set_cons_succ]
              refine wpAnyH_done (by kernel_rfl) ?_ _
              have hB9 := hSq16.2
              clear hSq16 hij cC
              go_wp2_with fail
              go_returns
              exact ⟨rfl, hB9⟩
          · have hri : Rises ids := rises_chain HI.out.1 fun q a b h4 h5 => hK.out q a b (by have := (List.getElem?_eq_some_iff.1 h5).1; have := HN.out; omega) h4 h5
            obtain rfl : D = true := dTrue HR.out ⟨HS0.out, List.eq_nil_of_length_eq_zero HM.out.symm, by have := HN.out; omega, hri⟩
            go_wp2_with fail
            go_returns
            exact ⟨rfl, hBr.out⟩
    · have hse : s.isEmpty = false := by cases h : s with | nil => exact absurd h hs0 | cons _ _ => rfl
      have HS0 := Lib.hid hs0
      clear hs0
      obtain rfl : D = false := dFalse HD.out (fun h => HS0.out ((right_45 (by omega)).1 h).1)
      go_enter Try.func58, Try.ntmps58
      go_wp2_with fail
      go_returns
      exact ⟨rfl, hb0⟩
  by_cases hk6 : k = 6
  · subst hk6
    have hb0 : Below w.heap.size w (w.alloc (.cells #[.int .i64 6, .string (str s), .slice iao n ic, .slice tao m tc] 109)) := below_alloc1 _ _
    have hA0 : Blk (w.alloc (.cells #[.int .i64 6, .string (str s), .slice iao n ic, .slice tao m tc] 109)) w.heap.size #[.int .i64 6, .string (str s), .slice iao n ic, .slice tao m tc] 109 := Blk.new _ _ _
    have h0 := hA0.cell 0 _ rfl
    have h1 := hA0.cell 1 _ rfl
    have h2 := hA0.cell 2 _ rfl
    have h3 := hA0.cell 3 _ rfl
    have HR : Hid (D = true ↔ s = [] ∧ ids = [] ∧ ts.length ≤ 64 ∧ ∀ t ∈ ts, t.length ≤ 65536) := HD.out.trans (right_6 rfl)
    by_cases hm64 : 64 < m
    · obtain rfl : D = false := dFalse HD.out (fun h => by have := (right_6 rfl).1 h; have := HM.out; omega)
      go_enter Try.func58, Try.ntmps58
      go_wp2_with fail
      go_returns
      exact ⟨rfl, hb0⟩
    by_cases hs0 : s = []
    · have hse : s.isEmpty = true := by rw [hs0]; rfl
      have HS0 := Lib.hid hs0
      clear hs0
      by_cases hn0 : 0 < n
      · have hn1 : ¬ n = 0 := by omega
        obtain rfl : D = false := dFalse HD.out (fun h => by have := (right_6 rfl).1 h; have h5 := HN.out; rw [this.2.1] at h5; simp at h5; omega)
        go_enter Try.func58, Try.ntmps58
        go_wp2_with fail
        go_returns
        exact ⟨rfl, hb0⟩
      · obtain rfl : n = 0 := by omega
        have HL : Hid (D = !(ts.any longT)) := by
          show _ = _
          cases h : ts.any longT with
          | true =>
            obtain ⟨x, hx, h2⟩ := List.any_eq_true.1 h
            rw [dFalse HR.out (fun h3 => by have := h3.2.2.2 x hx; have := of_decide_eq_true h2; omega)]; rfl
          | false =>
            rw [dTrue HR.out ⟨HS0.out, List.eq_nil_of_length_eq_zero HN.out.symm, by have := HM.out; omega, fun x hx => by
              have := List.any_eq_false.1 h x hx
              simp [longT] at this
              exact this⟩]; rfl
        obtain ⟨E, hE⟩ : ∃ E, E = ts.any longT := ⟨_, rfl⟩
        have c1 : ∀ y, Below w.heap.size w y → Calls Try.prog 111 #[.slice tao m tc, .func (.func 110) #[] #[]] y fun e w' => e = .returned (.bool E) ∧ Below y.heap.size y w' := fun y hy => by rw [hE]; exact ContainsS_calls _ ts y (HT.out.below hy) (by have := HM.out; omega) HTM.out
        have hL := HL.out
        rw [← hE] at hL
        subst hL
        clear hE HL
        go_enter Try.func58, Try.ntmps58
        go_wp2_with fail
        refine (c1 _ hb0).mono ?_
        rintro e w5 ⟨rfl, b5⟩
        have hb5 := hb0.trans (b5.mono hb0.size)
        clear c1 b5 hb0
        cases E <;>
        · go_wp2_with fail
          go_returns
          exact ⟨rfl, hb5⟩
    · have hse : s.isEmpty = false := by cases h : s with | nil => exact absurd h hs0 | cons _ _ => rfl
      have HS0 := Lib.hid hs0
      clear hs0
      obtain rfl : D = false := dFalse HD.out (fun h => HS0.out ((right_6 rfl).1 h).1)
      go_enter Try.func58, Try.ntmps58
      go_wp2_with fail
      go_returns
      exact ⟨rfl, hb0⟩
  have hb0 : Below w.heap.size w (w.alloc (.cells #[.int .i64 k, .string (str s), .slice iao n ic, .slice tao m tc] 109)) := below_alloc1 _ _
  have hA0 : Blk (w.alloc (.cells #[.int .i64 k, .string (str s), .slice iao n ic, .slice tao m tc] 109)) w.heap.size #[.int .i64 k, .string (str s), .slice iao n ic, .slice tao m tc] 109 := Blk.new _ _ _
  have h0 := hA0.cell 0 _ rfl
  have h1 := hA0.cell 1 _ rfl
  have h2 := hA0.cell 2 _ rfl
  have h3 := hA0.cell 3 _ rfl
  have hd1 : decide (k = 1) = false := decide_eq_false hk1
  have hd2 : decide (k = 2) = false := decide_eq_false hk2
  have hd3 : decide (k = 3) = false := decide_eq_false hk3
  have hd4 : decide (k = 4) = false := decide_eq_false hk4
  have hd5 : decide (k = 5) = false := decide_eq_false hk5
  have hd6 : decide (k = 6) = false := decide_eq_false hk6
  obtain rfl : D = false := dFalse HD.out (right_no (by show k < 1 ∨ 6 < k; omega))
  go_enter Try.func58, Try.ntmps58
  go_wp2_with fail
  go_returns
  exact ⟨rfl, hb0⟩
end Go.Proofs.Ytlomofcnknpciaa
