/-
  bevyref19.Right.
-/
import Derived.Test.YtlomofcnknpciaaGleanRight
import Derived.WalkLawsBesides
import Derived.Outline
import Derived.Handy
import Derived.Deep.RegionHeld
set_option linter.unusedSimpArgs false
set_option linter.unusedVariables false
namespace Go.Proofs.Ytlomofcnknpciaa
open Go.RowKit

theorem right_small {p : Pk} (h : RightP p) : p.s.length ≤ 65536 ∧ p.ids.length ≤ 256 ∧ p.ts.length ≤ 64 := by
  rcases h with ⟨_, _, h3, h4, h5⟩ | ⟨_, h2, h3, h4, _⟩ | ⟨_, h2, h3, h4, _⟩
  · rw [h3, h4]; simp; omega
  · rw [h2, h3]; simp; omega
  · rw [h2, h3]; simp; omega
set_option maxHeartbeats 16000000 in
set_option maxRecDepth 100000 in
theorem RRight_calls (p : Pk) (iv tv : Value) (w : World) (hi : HashesAt w iv p.ids) (ht : TxAt w tv p.ts) (hn1 : p.ids.length ≤ 1000) (hn2 : p.ts.length ≤ 1000) (hsm : p.s.length ≤ maxLen) (htm : ∀ t ∈ p.ts, t.length ≤ maxLen) (D : Bool) (hD : D = true ↔ RightP p) :
    Calls Try.prog 57 #[.agg #[.int .i64 p.k, .string (str p.s), iv, tv]] w fun e w' => e = .returned (.bool D) ∧ Below w.heap.size w w' := by
  obtain ⟨k, s, ids, ts⟩ := p
  obtain ⟨iao, ic, rfl, _⟩ := hi.slice
  obtain ⟨tao, tc, rfl⟩ := ht.slice
  have HI := Lib.hid hi
  have HT := Lib.hid ht
  have HD := Lib.hid hD
  have HTM := Lib.hid htm
  simp only at hn1 hn2 hsm HI HT HTM ⊢
  obtain ⟨n, hnn⟩ : ∃ n, n = ids.length := ⟨_, rfl⟩
  obtain ⟨m, hmm⟩ : ∃ m, m = ts.length := ⟨_, rfl⟩
  have HN := Lib.hid hnn
  have HM := Lib.hid hmm
  rw [← hnn] at hn1 HI ⊢
  rw [← hmm] at hn2 HT ⊢
  unfold maxLen at hsm
  clear hi ht hD hnn hmm htm
  by_cases hk1 : k < 1
  · have hd1 : decide (k < 1) = true := decide_eq_true hk1
    have hb0 : Below w.heap.size w (w.alloc (.cells #[.int .i64 k, .string (str s), .slice iao n ic, .slice tao m tc] 107)) := below_alloc1 _ _
    have hA0 : Blk (w.alloc (.cells #[.int .i64 k, .string (str s), .slice iao n ic, .slice tao m tc] 107)) w.heap.size #[.int .i64 k, .string (str s), .slice iao n ic, .slice tao m tc] 107 := Blk.new _ _ _
    have h0 := hA0.cell 0 _ rfl
    have h1 := hA0.cell 1 _ rfl
    have h2 := hA0.cell 2 _ rfl
    have h3 := hA0.cell 3 _ rfl
    obtain rfl : D = false := dFalse HD.out (right_no (.inl hk1))
    go_enter Try.func57, Try.ntmps57
    go_wp2_with fail
    go_returns
    exact ⟨rfl, hb0⟩
  have hd1 : decide (k < 1) = false := decide_eq_false hk1
  by_cases hk6 : 6 < k
  · have hd2 : decide (6 < k) = true := decide_eq_true hk6
    have hb0 : Below w.heap.size w (w.alloc (.cells #[.int .i64 k, .string (str s), .slice iao n ic, .slice tao m tc] 107)) := below_alloc1 _ _
    have hA0 : Blk (w.alloc (.cells #[.int .i64 k, .string (str s), .slice iao n ic, .slice tao m tc] 107)) w.heap.size #[.int .i64 k, .string (str s), .slice iao n ic, .slice tao m tc] 107 := Blk.new _ _ _
    have h0 := hA0.cell 0 _ rfl
    have h1 := hA0.cell 1 _ rfl
    have h2 := hA0.cell 2 _ rfl
    have h3 := hA0.cell 3 _ rfl
    obtain rfl : D = false := dFalse HD.out (right_no (.inr hk6))
    go_enter Try.func57, Try.ntmps57
    go_wp2_with fail
    go_returns
    exact ⟨rfl, hb0⟩
  have hd2 : decide (6 < k) = false := decide_eq_false hk6
  by_cases hs6 : 65536 < s.length
  · have hb0 : Below w.heap.size w (w.alloc (.cells #[.int .i64 k, .string (str s), .slice iao n ic, .slice tao m tc] 107)) := below_alloc1 _ _
    have hA0 : Blk (w.alloc (.cells #[.int .i64 k, .string (str s), .slice iao n ic, .slice tao m tc] 107)) w.heap.size #[.int .i64 k, .string (str s), .slice iao n ic, .slice tao m tc] 107 := Blk.new _ _ _
    have h0 := hA0.cell 0 _ rfl
    have h1 := hA0.cell 1 _ rfl
    have h2 := hA0.cell 2 _ rfl
    have h3 := hA0.cell 3 _ rfl
    obtain rfl : D = false := dFalse HD.out (fun h => by have := right_small h; simp only at this; have := HN.out; have := HM.out; omega)
    go_enter Try.func57, Try.ntmps57
    go_wp2_with fail
    go_returns
    exact ⟨rfl, hb0⟩
  by_cases hn6 : 256 < n
  · have hb0 : Below w.heap.size w (w.alloc (.cells #[.int .i64 k, .string (str s), .slice iao n ic, .slice tao m tc] 107)) := below_alloc1 _ _
    have hA0 : Blk (w.alloc (.cells #[.int .i64 k, .string (str s), .slice iao n ic, .slice tao m tc] 107)) w.heap.size #[.int .i64 k, .string (str s), .slice iao n ic, .slice tao m tc] 107 := Blk.new _ _ _
    have h0 := hA0.cell 0 _ rfl
    have h1 := hA0.cell 1 _ rfl
    have h2 := hA0.cell 2 _ rfl
    have h3 := hA0.cell 3 _ rfl
    obtain rfl : D = false := dFalse HD.out (fun h => by have := right_small h; simp only at this; have := HN.out; have := HM.out; omega)
    go_enter Try.func57, Try.ntmps57
    go_wp2_with fail
    go_returns
    exact ⟨rfl, hb0⟩
  by_cases hm6 : 64 < m
  · have hb0 : Below w.heap.size w (w.alloc (.cells #[.int .i64 k, .string (str s), .slice iao n ic, .slice tao m tc] 107)) := below_alloc1 _ _
    have hA0 : Blk (w.alloc (.cells #[.int .i64 k, .string (str s), .slice iao n ic, .slice tao m tc] 107)) w.heap.size #[.int .i64 k, .string (str s), .slice iao n ic, .slice tao m tc] 107 := Blk.new _ _ _
    have h0 := hA0.cell 0 _ rfl
    have h1 := hA0.cell 1 _ rfl
    have h2 := hA0.cell 2 _ rfl
    have h3 := hA0.cell 3 _ rfl
    obtain rfl : D = false := dFalse HD.out (fun h => by have := right_small h; simp only at this; have := HN.out; have := HM.out; omega)
    go_enter Try.func57, Try.ntmps57
    go_wp2_with fail
    go_returns
    exact ⟨rfl, hb0⟩
  by_cases hk1 : k = 1
  · subst hk1
    have hb0 : Below w.heap.size w (w.alloc (.cells #[.int .i64 1, .string (str s), .slice iao n ic, .slice tao m tc] 107)) := below_alloc1 _ _
    have hA0 : Blk (w.alloc (.cells #[.int .i64 1, .string (str s), .slice iao n ic, .slice tao m tc] 107)) w.heap.size #[.int .i64 1, .string (str s), .slice iao n ic, .slice tao m tc] 107 := Blk.new _ _ _
    have h0 := hA0.cell 0 _ rfl
    have h1 := hA0.cell 1 _ rfl
    have h2 := hA0.cell 2 _ rfl
    have h3 := hA0.cell 3 _ rfl
    clear hd1 hd2 hk1 hk6
    by_cases hn0 : 0 < n
    · obtain rfl : D = false := dFalse HD.out (fun h => by have := (right_123 (by omega)).1 h; have h5 := HN.out; rw [this.1] at h5; simp at h5; omega)
      go_enter Try.func57, Try.ntmps57
      go_wp2_with fail
      go_returns
      exact ⟨rfl, hb0⟩
    · obtain rfl : n = 0 := by omega
      by_cases hm0 : 0 < m
      · obtain rfl : D = false := dFalse HD.out (fun h => by have := (right_123 (by omega)).1 h; have h5 := HM.out; rw [this.2.1] at h5; simp at h5; omega)
        go_enter Try.func57, Try.ntmps57
        go_wp2_with fail
        go_returns
        exact ⟨rfl, hb0⟩
      · obtain rfl : m = 0 := by omega
        have HSL : Hid (s.length ≤ 65536) := by show _ ≤ _; omega
        go_enter Try.func57, Try.ntmps57
        go_wp2_with fail
        
        have hA0h := Lib.hid hA0
        have hb0h := Lib.hid hb0
        go_loopw [3] (fun iv wr => iv = .int .i64 1 ∧ Hid (Blk wr w.heap.size #[.int .i64 1, .string (str s), .slice iao 0 ic, .slice tao 0 tc] 107) ∧ Hid (Below w.heap.size w wr)) (fun _ _ => 0)
        case atStart => exact ⟨rfl, hA0h, hb0h⟩
        case round =>
          obtain ⟨rfl, hAr, hBr⟩ := hrel
          obtain ⟨z2, rfl⟩ : ∃ z, z = wr := ⟨_, rfl⟩
          clear hA0h hb0h h0 h1 h2 h3 hA0 hb0
          have h0 := hAr.out.cell 0 _ rfl
          have h1 := hAr.out.cell 1 _ rfl
          have h2 := hAr.out.cell 2 _ rfl
          have h3 := hAr.out.cell 3 _ rfl
          go_wp2_with fail
          go_loopw [4] (fun iv wr => iv = .int .i64 0 ∧ Hid (Blk wr w.heap.size #[.int .i64 1, .string (str s), .slice iao 0 ic, .slice tao 0 tc] 107) ∧ Hid (Below w.heap.size w wr)) (fun _ _ => 0)
          case atStart => exact ⟨rfl, hAr, hBr⟩
          case round =>
            obtain ⟨rfl, hAz, hBz⟩ := hrel
            clear hAr hBr h0 h1 h2 h3
            have h0 := hAz.out.cell 0 _ rfl
            have h3 := hAz.out.cell 3 _ rfl
            obtain rfl : D = true := dTrue HD.out ((right_123 (by omega)).2 ⟨List.eq_nil_of_length_eq_zero HN.out.symm, List.eq_nil_of_length_eq_zero HM.out.symm, HSL.out⟩)
            go_wp2_with fail
            go_returns
            exact ⟨rfl, hBz.out⟩
  by_cases hk2 : k = 2
  · subst hk2
    have hb0 : Below w.heap.size w (w.alloc (.cells #[.int .i64 2, .string (str s), .slice iao n ic, .slice tao m tc] 107)) := below_alloc1 _ _
    have hA0 : Blk (w.alloc (.cells #[.int .i64 2, .string (str s), .slice iao n ic, .slice tao m tc] 107)) w.heap.size #[.int .i64 2, .string (str s), .slice iao n ic, .slice tao m tc] 107 := Blk.new _ _ _
    have h0 := hA0.cell 0 _ rfl
    have h1 := hA0.cell 1 _ rfl
    have h2 := hA0.cell 2 _ rfl
    have h3 := hA0.cell 3 _ rfl
    clear hd1 hd2 hk1 hk6
    by_cases hn0 : 0 < n
    · obtain rfl : D = false := dFalse HD.out (fun h => by have := (right_123 (by omega)).1 h; have h5 := HN.out; rw [this.1] at h5; simp at h5; omega)
      go_enter Try.func57, Try.ntmps57
      go_wp2_with fail
      go_returns
      exact ⟨rfl, hb0⟩
    · obtain rfl : n = 0 := by omega
      by_cases hm0 : 0 < m
      · obtain rfl : D = false := dFalse HD.out (fun h => by have := (right_123 (by omega)).1 h; have h5 := HM.out; rw [this.2.1] at h5; simp at h5; omega)
        go_enter Try.func57, Try.ntmps57
        go_wp2_with fail
        go_returns
        exact ⟨rfl, hb0⟩
      · obtain rfl : m = 0 := by omega
        have HSL : Hid (s.length ≤ 65536) := by show _ ≤ _; omega
        go_enter Try.func57, Try.ntmps57
        go_wp2_with fail
        
        have hA0h := Lib.hid hA0
        have hb0h := Lib.hid hb0
        go_loopw [3] (fun iv wr => iv = .int .i64 1 ∧ Hid (Blk wr w.heap.size #[.int .i64 2, .string (str s), .slice iao 0 ic, .slice tao 0 tc] 107) ∧ Hid (Below w.heap.size w wr)) (fun _ _ => 0)
        case atStart => exact ⟨rfl, hA0h, hb0h⟩
        case round =>
          obtain ⟨rfl, hAr, hBr⟩ := hrel
          obtain ⟨z2, rfl⟩ : ∃ z, z = wr := ⟨_, rfl⟩
          clear hA0h hb0h h0 h1 h2 h3 hA0 hb0
          have h0 := hAr.out.cell 0 _ rfl
          have h1 := hAr.out.cell 1 _ rfl
          have h2 := hAr.out.cell 2 _ rfl
          have h3 := hAr.out.cell 3 _ rfl
          go_wp2_with fail
          go_loopw [4] (fun iv wr => iv = .int .i64 0 ∧ Hid (Blk wr w.heap.size #[.int .i64 2, .string (str s), .slice iao 0 ic, .slice tao 0 tc] 107) ∧ Hid (Below w.heap.size w wr)) (fun _ _ => 0)
          case atStart => exact ⟨rfl, hAr, hBr⟩
          case round =>
            obtain ⟨rfl, hAz, hBz⟩ := hrel
            clear hAr hBr h0 h1 h2 h3
            have h0 := hAz.out.cell 0 _ rfl
            have h3 := hAz.out.cell 3 _ rfl
            obtain rfl : D = true := dTrue HD.out ((right_123 (by omega)).2 ⟨List.eq_nil_of_length_eq_zero HN.out.symm, List.eq_nil_of_length_eq_zero HM.out.symm, HSL.out⟩)
            go_wp2_with fail
            go_returns
            exact ⟨rfl, hBz.out⟩
  by_cases hk3 : k = 3
  · subst hk3
    have hb0 : Below w.heap.size w (w.alloc (.cells #[.int .i64 3, .string (str s), .slice iao n ic, .slice tao m tc] 107)) := below_alloc1 _ _
    have hA0 : Blk (w.alloc (.cells #[.int .i64 3, .string (str s), .slice iao n ic, .slice tao m tc] 107)) w.heap.size #[.int .i64 3, .string (str s), .slice iao n ic, .slice tao m tc] 107 := Blk.new _ _ _
    have h0 := hA0.cell 0 _ rfl
    have h1 := hA0.cell 1 _ rfl
    have h2 := hA0.cell 2 _ rfl
    have h3 := hA0.cell 3 _ rfl
    clear hd1 hd2 hk1 hk6
    by_cases hn0 : 0 < n
    · obtain rfl : D = false := dFalse HD.out (fun h => by have := (right_123 (by omega)).1 h; have h5 := HN.out; rw [this.1] at h5; simp at h5; omega)
      go_enter Try.func57, Try.ntmps57
      go_wp2_with fail
      go_returns
      exact ⟨rfl, hb0⟩
    · obtain rfl : n = 0 := by omega
      by_cases hm0 : 0 < m
      · obtain rfl : D = false := dFalse HD.out (fun h => by have := (right_123 (by omega)).1 h; have h5 := HM.out; rw [this.2.1] at h5; simp at h5; omega)
        go_enter Try.func57, Try.ntmps57
        go_wp2_with fail
        go_returns
        exact ⟨rfl, hb0⟩
      · obtain rfl : m = 0 := by omega
        have HSL : Hid (s.length ≤ 65536) := by show _ ≤ _; omega
        go_enter Try.func57, Try.ntmps57
        go_wp2_with fail
        
        have hA0h := Lib.hid hA0
        have hb0h := Lib.hid hb0
        go_loopw [3] (fun iv wr => iv = .int .i64 1 ∧ Hid (Blk wr w.heap.size #[.int .i64 3, .string (str s), .slice iao 0 ic, .slice tao 0 tc] 107) ∧ Hid (Below w.heap.size w wr)) (fun _ _ => 0)
        case atStart => exact ⟨rfl, hA0h, hb0h⟩
        case round =>
          obtain ⟨rfl, hAr, hBr⟩ := hrel
          obtain ⟨z2, rfl⟩ : ∃ z, z = wr := ⟨_, rfl⟩
          clear hA0h hb0h h0 h1 h2 h3 hA0 hb0
          have h0 := hAr.out.cell 0 _ rfl
          have h1 := hAr.out.cell 1 _ rfl
          have h2 := hAr.out.cell 2 _ rfl
          have h3 := hAr.out.cell 3 _ rfl
          go_wp2_with fail
          go_loopw [4] (fun iv wr => iv = .int .i64 0 ∧ Hid (Blk wr w.heap.size #[.int .i64 3, .string (str s), .slice iao 0 ic, .slice tao 0 tc] 107) ∧ Hid (Below w.heap.size w wr)) (fun _ _ => 0)
          case atStart => exact ⟨rfl, hAr, hBr⟩
          case round =>
            obtain ⟨rfl, hAz, hBz⟩ := hrel
            clear hAr hBr h0 h1 h2 h3
            have h0 := hAz.out.cell 0 _ rfl
            have h3 := hAz.out.cell 3 _ rfl
            obtain rfl : D = true := dTrue HD.out ((right_123 (by omega)).2 ⟨List.eq_nil_of_length_eq_zero HN.out.symm, List.eq_nil_of_length_eq_zero HM.out.symm, HSL.out⟩)
            go_wp2_with fail
            go_returns
            exact ⟨rfl, hBz.out⟩
  by_cases hk4 : k = 4
  · subst hk4
    have hb0 : Below w.heap.size w (w.alloc (.cells #[.int .i64 4, .string (str s), .slice iao n ic, .slice tao m tc] 107)) := below_alloc1 _ _
    have hA0 : Blk (w.alloc (.cells #[.int .i64 4, .string (str s), .slice iao n ic, .slice tao m tc] 107)) w.heap.size #[.int .i64 4, .string (str s), .slice iao n ic, .slice tao m tc] 107 := Blk.new _ _ _
    have h0 := hA0.cell 0 _ rfl
    have h1 := hA0.cell 1 _ rfl
    have h2 := hA0.cell 2 _ rfl
    have h3 := hA0.cell 3 _ rfl
    clear hd1 hd2 hk1 hk6
    have HR : Hid (D = true ↔ s = [] ∧ ts = [] ∧ ids.length ≤ 256 ∧ Rises ids) := HD.out.trans (right_45 (by omega))
    by_cases hs0 : s = []
    · have hse : s.isEmpty = true := by rw [hs0]; rfl
      have HS0 := Lib.hid hs0
      clear hs0
      by_cases hm0 : 0 < m
      · obtain rfl : D = false := dFalse HD.out (fun h => by have := (right_45 (by omega)).1 h; have h5 := HM.out; rw [this.2.1] at h5; simp at h5; omega)
        go_enter Try.func57, Try.ntmps57
        go_wp2_with fail
        go_returns
        exact ⟨rfl, hb0⟩
      · obtain rfl : m = 0 := by omega
        go_enter Try.func57, Try.ntmps57
        go_wp2_with fail
        have hA0h := Lib.hid hA0
        have hb0h := Lib.hid hb0
        go_loopw [3] (fun iv wr => ∃ i : Nat, 1 ≤ i ∧ i ≤ n + 1 ∧ iv = .int .i64 i ∧ Hid (∀ q a b, q + 1 < i → ids[q]? = some a → ids[q + 1]? = some b → cmpT a b < 0) ∧ Hid (Blk wr w.heap.size #[.int .i64 4, .string (str s), .slice iao n ic, .slice tao 0 tc] 107) ∧ Hid (Below w.heap.size w wr)) (fun iv _ => n + 1 - (intOf iv).toNat)
        case atStart => exact ⟨1, by omega, by omega, rfl, Lib.hid (fun q a b hq => by omega), hA0h, hb0h⟩
        case round =>
          obtain ⟨i, hi1, hi, rfl, hK, hAr, hBr⟩ := hrel
          clear hA0h hb0h h0 h1 h2 h3 hA0 hb0
          have h0 := hAr.out.cell 0 _ rfl
          have h1 := hAr.out.cell 1 _ rfl
          have h2 := hAr.out.cell 2 _ rfl
          have h3 := hAr.out.cell 3 _ rfl
          by_cases hlt : i < n
          · go_wp2_with fail
            clear h0 h1 h2 h3
            obtain ⟨hb, hhb⟩ : ∃ h, ids[i]? = some h := ⟨_, List.getElem?_eq_getElem (by rw [← HN.out]; exact hlt)⟩
            obtain ⟨j, hj⟩ : ∃ j, j = i - 1 := ⟨_, rfl⟩
            have hji : j + 1 = i := by omega
            obtain ⟨ha, hha⟩ : ∃ h, ids[j]? = some h := ⟨_, List.getElem?_eq_getElem (by rw [← HN.out]; omega)⟩
            obtain ⟨g, o, rfl, _⟩ := HI.out.range i hb hhb
            have HRA : Hid (∀ z, Below w.heap.size w z → z.rangeAt g (o + j * 32) (ha.map bv)) := fun z hz => (HI.out.below hz).range' j ha hha
            have HRB : Hid (∀ z, Below w.heap.size w z → z.rangeAt g (o + i * 32) (hb.map bv)) := fun z hz => (HI.out.below hz).range' i hb hhb
            have HA : Hid (ha.length = 32) := HI.out.1 ha (List.mem_of_getElem? hha)
            have HB : Hid (hb.length = 32) := HI.out.1 hb (List.mem_of_getElem? hhb)
            have HJ := Lib.hid hji
            have HHA := Lib.hid hha
            have HHB := Lib.hid hhb
            have hij : IntKind.i64.wrap ((i : Int) - 1) = (j : Int) := by rw [IntWalk.i64_in _ (by omega)]; omega
            have hjn : j < n := by omega
            have hA3 := hAr.out
            have hb3 := hBr.out
            clear hj hji hha hhb hAr hBr
            by_cases hcc : cmpT ha hb < 0
            · have HK5 : Hid (∀ q a b, q + 1 < i + 1 → ids[q]? = some a → ids[q + 1]? = some b → cmpT a b < 0) := fun q a b hq h4 h5 => by
                by_cases hqi : q + 1 < i
                · exact hK.out q a b hqi h4 h5
                · obtain rfl : q = j := by have := HJ.out; omega
                  rw [HJ.out, HHB.out] at h5
                  rw [HHA.out] at h4
                  obtain rfl := Option.some.inj h4
                  obtain rfl := Option.some.inj h5
                  exact hcc
              have cC : ∀ y, Calls Try.prog 46 #[.agg (ha.map bv).toArray, .agg (hb.map bv).toArray] y fun e w' => e = .returned (.bool true) ∧ Below y.heap.size y w' := fun y => by
                have := Less_calls ha hb HA.out HB.out y
                rwa [show ltT ha hb = true from decide_eq_true hcc] at this
              clear hcc hK
              refine wp_region_held_drew (S := fun x => Blk x (w.heap.size) #[.int .i64 4, .string (str s), .slice (some ⟨g, o, none⟩) n ic, .slice tao 0 tc] 107 ∧ Below w.heap.size w x) (by kernel_rfl) ⟨hA3.drew, below_drewN hb3 1⟩ (fun hSq65 => ?_)
              refine wpAnyH_take (i := 0) (v := .pointer (some ⟨w.heap.size, 2, none⟩)) rfl (by kernel_rfl) (by kernel_rfl) (by kernel_rfl) (fun _ _ _ h => h) (Or.inl ⟨by rfl, fun x hx => by go_simp⟩) hSq65 ?_
              simp only [Act.put, List.getElem_toArray, List.getElem_cons_zero, List.getElem_cons_succ, List.setIfInBounds_toArray, List.set_cons_zero, List.set_cons_succ]
              refine wpAnyH_take (i := 1) (v := .slice (some ⟨g, o, none⟩) n ic) rfl (by kernel_rfl) (by kernel_rfl) (by kernel_rfl) (fun _ _ _ h => h) (Or.inl ⟨by rfl, fun x hx => by have hc := hx.1.cell 2 _ rfl; go_simp⟩) hSq65 ?_
              simp only [Act.put, List.getElem_toArray, List.getElem_cons_zero, List.getElem_cons_succ, List.setIfInBounds_toArray, List.set_cons_zero, List.set_cons_succ]
              refine wpAnyH_take (i := 2) (v := .int .i64 i) rfl (by kernel_rfl) (by kernel_rfl) (by kernel_rfl) (fun _ _ _ h => h) (Or.inl ⟨by rfl, fun x hx => by go_simp⟩) hSq65 ?_
              simp only [Act.put, List.getElem_toArray, List.getElem_cons_zero, List.getElem_cons_succ, List.setIfInBounds_toArray, List.set_cons_zero, List.set_cons_succ]
              refine wpAnyH_take (i := 3) (v := .int .i64 j) rfl (by kernel_rfl) (by kernel_rfl) (by kernel_rfl) (fun _ _ _ h => h) (Or.inl ⟨by rfl, fun x hx => by go_simp⟩) hSq65 ?_
              simp only [Act.put, List.getElem_toArray, List.getElem_cons_zero, List.getElem_cons_succ, List.setIfInBounds_toArray, List.set_cons_zero, List.set_cons_succ]
              refine wpAnyH_take (i := 4) (v := .pointer (some ⟨g, o + j * 32, none⟩)) rfl (by kernel_rfl) (by kernel_rfl) (by kernel_rfl) (fun _ _ _ h => h) (Or.inl ⟨by rfl, fun x hx => by go_simp⟩) hSq65 ?_
              simp only [Act.put, List.getElem_toArray, List.getElem_cons_zero, List.getElem_cons_succ, List.setIfInBounds_toArray, List.set_cons_zero, List.set_cons_succ]
              refine wpAnyH_take (i := 5) rfl (by kernel_rfl) (by kernel_rfl) (by kernel_rfl) (fun _ _ _ h => h) (yieldsIf_load_mid (by rfl) 23 (.tmp 77) rfl (g) (o + j * 32) (by rfl) (ha.map bv) _ (fun x hx => HRA.out _ hx.2) Try.underlying23 rfl (by rw [List.length_map, HA.out]; exact Try.sizeHash)) hSq65 ?_
              simp only [Act.put, List.getElem_toArray, List.getElem_cons_zero, List.getElem_cons_succ, List.setIfInBounds_toArray, List.set_cons_zero, List.set_cons_succ]
              refine wpAnyH_take (i := 6) (v := .pointer (some ⟨w.heap.size, 2, none⟩)) rfl (by kernel_rfl) (by kernel_rfl) (by kernel_rfl) (fun _ _ _ h => h) (Or.inl ⟨by rfl, fun x hx => by go_simp⟩) hSq65 ?_
              simp only [Act.put, List.getElem_toArray, List.getElem_cons_zero, List.getElem_cons_succ, List.setIfInBounds_toArray, List.set_cons_zero, List.set_cons_succ]
              refine wpAnyH_take (i := 7) (v := .slice (some ⟨g, o, none⟩) n ic) rfl (by kernel_rfl) (by kernel_rfl) (by kernel_rfl) (fun _ _ _ h => h) (Or.inl ⟨by rfl, fun x hx => by have hc := hx.1.cell 2 _ rfl; go_simp⟩) hSq65 ?_
              simp only [Act.put, List.getElem_toArray, List.getElem_cons_zero, List.getElem_cons_succ, List.setIfInBounds_toArray, List.set_cons_zero, List.set_cons_succ]
              refine wpAnyH_take (i := 8) (v := .int .i64 i) rfl (by kernel_rfl) (by kernel_rfl) (by kernel_rfl) (fun _ _ _ h => h) (Or.inl ⟨by rfl, fun x hx => by go_simp⟩) hSq65 ?_
              simp only [Act.put, List.getElem_toArray, List.getElem_cons_zero, List.getElem_cons_succ, List.setIfInBounds_toArray, List.set_cons_zero, List.set_cons_succ]
              refine wpAnyH_take (i := 9) (v := .pointer (some ⟨g, o + i * 32, none⟩)) rfl (by kernel_rfl) (by kernel_rfl) (by kernel_rfl) (fun _ _ _ h => h) (Or.inl ⟨by rfl, fun x hx => by go_simp⟩) hSq65 ?_
              simp only [Act.put, List.getElem_toArray, List.getElem_cons_zero, List.getElem_cons_succ, List.setIfInBounds_toArray, List.set_cons_zero, List.set_cons_succ]
              refine wpAnyH_take (i := 10) rfl (by kernel_rfl) (by kernel_rfl) (by kernel_rfl) (fun _ _ _ h => h) (yieldsIf_load_mid (by rfl) 23 (.tmp 82) rfl (g) (o + i * 32) (by rfl) (hb.map bv) _ (fun x hx => HRB.out _ hx.2) Try.underlying23 rfl (by rw [List.length_map, HB.out]; exact Try.sizeHash)) hSq65 ?_
              simp only [Act.put, List.getElem_toArray, List.getElem_cons_zero, List.getElem_cons_succ, List.setIfInBounds_toArray, List.set_cons_zero, List.set_cons_succ]
              refine wpAnyH_ready (rs := [11]) (by kernel_rfl) (by simp) ?_
              refine AllReadyH.cons rfl (fun K hK => ?_) AllReadyH.nil
              go_simp
              go_wp2_with (go_at_call 46; refine (cC _).mono ?_; rintro e yq66 ⟨rfl, bq67⟩)
              refine hK.out _ _ ⟨hSq65.1.below bq67 hSq65.1.lt, hSq65.2.trans (bq67.mono (hSq65.2.size))⟩ (fun hSq68 => ?_)
              clear hK K hSq65 bq67
              refine wpAnyH_take (i := 12) (v := .bool false) rfl (by kernel_rfl) (by kernel_rfl) (by kernel_rfl) (fun _ _ _ h => h) (Or.inl ⟨by rfl, fun x hx => by go_simp⟩) hSq68 ?_
              simp only [Act.put, List.getElem_toArray, List.getElem_cons_zero, List.getElem_cons_succ, List.setIfInBounds_toArray, List.set_cons_zero, List.set_cons_succ]
              refine wpAnyH_done (by kernel_rfl) ?_ _
              have hA9 := Lib.hid hSq68.1
              have hB9 := Lib.hid hSq68.2
              clear hSq68 hij cC
              go_wp2_with fail
              go_roundw
              case rel => exact ⟨i + 1, by omega, by omega, by go_num, HK5, hA9, hB9⟩
              case measure => simp [intOf]; omega
            · obtain rfl : D = false := dFalse HR.out (fun h => hcc (rises_next (h.2.2.2) HHA.out (by rw [HJ.out]; exact HHB.out)))
              have cC : ∀ y, Calls Try.prog 46 #[.agg (ha.map bv).toArray, .agg (hb.map bv).toArray] y fun e w' => e = .returned (.bool false) ∧ Below y.heap.size y w' := fun y => by
                have := Less_calls ha hb HA.out HB.out y
                rwa [show ltT ha hb = false from decide_eq_false hcc] at this
              clear hcc hK
              refine wp_region_held_drew (S := fun x => Blk x (w.heap.size) #[.int .i64 4, .string (str s), .slice (some ⟨g, o, none⟩) n ic, .slice tao 0 tc] 107 ∧ Below w.heap.size w x) (by kernel_rfl) ⟨hA3.drew, below_drewN hb3 1⟩ (fun hSq69 => ?_)
              refine wpAnyH_take (i := 0) (v := .pointer (some ⟨w.heap.size, 2, none⟩)) rfl (by kernel_rfl) (by kernel_rfl) (by kernel_rfl) (fun _ _ _ h => h) (Or.inl ⟨by rfl, fun x hx => by go_simp⟩) hSq69 ?_
              simp only [Act.put, List.getElem_toArray, List.getElem_cons_zero, List.getElem_cons_succ, List.setIfInBounds_toArray, List.set_cons_zero, List.set_cons_succ]
              refine wpAnyH_take (i := 1) (v := .slice (some ⟨g, o, none⟩) n ic) rfl (by kernel_rfl) (by kernel_rfl) (by kernel_rfl) (fun _ _ _ h => h) (Or.inl ⟨by rfl, fun x hx => by have hc := hx.1.cell 2 _ rfl; go_simp⟩) hSq69 ?_
              simp only [Act.put, List.getElem_toArray, List.getElem_cons_zero, List.getElem_cons_succ, List.setIfInBounds_toArray, List.set_cons_zero, List.set_cons_succ]
              refine wpAnyH_take (i := 2) (v := .int .i64 i) rfl (by kernel_rfl) (by kernel_rfl) (by kernel_rfl) (fun _ _ _ h => h) (Or.inl ⟨by rfl, fun x hx => by go_simp⟩) hSq69 ?_
              simp only [Act.put, List.getElem_toArray, List.getElem_cons_zero, List.getElem_cons_succ, List.setIfInBounds_toArray, List.set_cons_zero, List.set_cons_succ]
              refine wpAnyH_take (i := 3) (v := .int .i64 j) rfl (by kernel_rfl) (by kernel_rfl) (by kernel_rfl) (fun _ _ _ h => h) (Or.inl ⟨by rfl, fun x hx => by go_simp⟩) hSq69 ?_
              simp only [Act.put, List.getElem_toArray, List.getElem_cons_zero, List.getElem_cons_succ, List.setIfInBounds_toArray, List.set_cons_zero, List.set_cons_succ]
              refine wpAnyH_take (i := 4) (v := .pointer (some ⟨g, o + j * 32, none⟩)) rfl (by kernel_rfl) (by kernel_rfl) (by kernel_rfl) (fun _ _ _ h => h) (Or.inl ⟨by rfl, fun x hx => by go_simp⟩) hSq69 ?_
              simp only [Act.put, List.getElem_toArray, List.getElem_cons_zero, List.getElem_cons_succ, List.setIfInBounds_toArray, List.set_cons_zero, List.set_cons_succ]
              refine wpAnyH_take (i := 5) rfl (by kernel_rfl) (by kernel_rfl) (by kernel_rfl) (fun _ _ _ h => h) (yieldsIf_load_mid (by rfl) 23 (.tmp 77) rfl (g) (o + j * 32) (by rfl) (ha.map bv) _ (fun x hx => HRA.out _ hx.2) Try.underlying23 rfl (by rw [List.length_map, HA.out]; exact Try.sizeHash)) hSq69 ?_
              simp only [Act.put, List.getElem_toArray, List.getElem_cons_zero, List.getElem_cons_succ, List.setIfInBounds_toArray, List.set_cons_zero, List.set_cons_succ]
              refine wpAnyH_take (i := 6) (v := .pointer (some ⟨w.heap.size, 2, none⟩)) rfl (by kernel_rfl) (by kernel_rfl) (by kernel_rfl) (fun _ _ _ h => h) (Or.inl ⟨by rfl, fun x hx => by go_simp⟩) hSq69 ?_
              simp only [Act.put, List.getElem_toArray, List.getElem_cons_zero, List.getElem_cons_succ, List.setIfInBounds_toArray, List.set_cons_zero, List.set_cons_succ]
              refine wpAnyH_take (i := 7) (v := .slice (some ⟨g, o, none⟩) n ic) rfl (by kernel_rfl) (by kernel_rfl) (by kernel_rfl) (fun _ _ _ h => h) (Or.inl ⟨by rfl, fun x hx => by have hc := hx.1.cell 2 _ rfl; go_simp⟩) hSq69 ?_
              simp only [Act.put, List.getElem_toArray, List.getElem_cons_zero, List.getElem_cons_succ, List.setIfInBounds_toArray, List.set_cons_zero, List.set_cons_succ]
              refine wpAnyH_take (i := 8) (v := .int .i64 i) rfl (by kernel_rfl) (by kernel_rfl) (by kernel_rfl) (fun _ _ _ h => h) (Or.inl ⟨by rfl, fun x hx => by go_simp⟩) hSq69 ?_
              simp only [Act.put, List.getElem_toArray, List.getElem_cons_zero, List.getElem_cons_succ, List.setIfInBounds_toArray, List.set_cons_zero, List.set_cons_succ]
              refine wpAnyH_take (i := 9) (v := .pointer (some ⟨g, o + i * 32, none⟩)) rfl (by kernel_rfl) (by kernel_rfl) (by kernel_rfl) (fun _ _ _ h => h) (Or.inl ⟨by rfl, fun x hx => by go_simp⟩) hSq69 ?_
              simp only [Act.put, List.getElem_toArray, List.getElem_cons_zero, List.getElem_cons_succ, List.setIfInBounds_toArray, List.set_cons_zero, List.set_cons_succ]
              refine wpAnyH_take (i := 10) rfl (by kernel_rfl) (by kernel_rfl) (by kernel_rfl) (fun _ _ _ h => h) (yieldsIf_load_mid (by rfl) 23 (.tmp 82) rfl (g) (o + i * 32) (by rfl) (hb.map bv) _ (fun x hx => HRB.out _ hx.2) Try.underlying23 rfl (by rw [List.length_map, HB.out]; exact Try.sizeHash)) hSq69 ?_
              simp only [Act.put, List.getElem_toArray, List.getElem_cons_zero, List.getElem_cons_succ, List.setIfInBounds_toArray, List.set_cons_zero, List.set_cons_succ]
              refine wpAnyH_ready (rs := [11]) (by kernel_rfl) (by simp) ?_
              refine AllReadyH.cons rfl (fun K hK => ?_) AllReadyH.nil
              go_simp
              go_wp2_with (go_at_call 46; refine (cC _).mono ?_; rintro e yq70 ⟨rfl, bq71⟩)
              refine hK.out _ _ ⟨hSq69.1.below bq71 hSq69.1.lt, hSq69.2.trans (bq71.mono (hSq69.2.size))⟩ (fun hSq72 => ?_)
              clear hK K hSq69 bq71
              refine wpAnyH_take (i := 12) (v := .bool true) rfl (by kernel_rfl) (by kernel_rfl) (by kernel_rfl) (fun _ _ _ h => h) (Or.inl ⟨by rfl, fun x hx => by go_simp⟩) hSq72 ?_
              simp only [Act.put, List.getElem_toArray, List.getElem_cons_zero, List.getElem_cons_succ, List.setIfInBounds_toArray, List.set_cons_zero, List.set_cons_succ]
              refine wpAnyH_done (by kernel_rfl) ?_ _
              have hB9 := hSq72.2
              clear hSq72 hij cC
              go_wp2_with fail
              go_returns
              exact ⟨rfl, hB9⟩
          · have hri : Rises ids := rises_chain HI.out.1 fun q a b h4 h5 => hK.out q a b (by have := (List.getElem?_eq_some_iff.1 h5).1; have := HN.out; omega) h4 h5
            have hri' := Lib.hid hri
            clear hri
            have hA0 := hAr
            have hb0 := hBr
            clear hAr hBr
            go_wp2_with fail
            obtain ⟨z2, rfl⟩ : ∃ z, z = wr := ⟨_, rfl⟩
            have hAr := hA0
            have hBr := hb0
            clear hA0 hb0
            go_loopw [4] (fun iv wr => iv = .int .i64 0 ∧ Hid (Blk wr w.heap.size #[.int .i64 4, .string (str s), .slice iao n ic, .slice tao 0 tc] 107) ∧ Hid (Below w.heap.size w wr)) (fun _ _ => 0)
            case atStart => exact ⟨rfl, hAr, hBr⟩
            case round =>
              obtain ⟨rfl, hAz, hBz⟩ := hrel
              clear hAr hBr h0 h1 h2 h3
              have h0 := hAz.out.cell 0 _ rfl
              have h3 := hAz.out.cell 3 _ rfl
              obtain rfl : D = true := dTrue HD.out ((right_45 (by omega)).2 ⟨HS0.out, List.eq_nil_of_length_eq_zero HM.out.symm, by have := HN.out; omega, hri'.out⟩)
              go_wp2_with fail
              go_returns
              exact ⟨rfl, hBz.out⟩
    · have hse : s.isEmpty = false := by cases h : s with | nil => exact absurd h hs0 | cons _ _ => rfl
      have HS0 := Lib.hid hs0
      clear hs0
      obtain rfl : D = false := dFalse HD.out (fun h => HS0.out ((right_45 (by omega)).1 h).1)
      go_enter Try.func57, Try.ntmps57
      go_wp2_with fail
      go_returns
      exact ⟨rfl, hb0⟩
  by_cases hk5 : k = 5
  · subst hk5
    have hb0 : Below w.heap.size w (w.alloc (.cells #[.int .i64 5, .string (str s), .slice iao n ic, .slice tao m tc] 107)) := below_alloc1 _ _
    have hA0 : Blk (w.alloc (.cells #[.int .i64 5, .string (str s), .slice iao n ic, .slice tao m tc] 107)) w.heap.size #[.int .i64 5, .string (str s), .slice iao n ic, .slice tao m tc] 107 := Blk.new _ _ _
    have h0 := hA0.cell 0 _ rfl
    have h1 := hA0.cell 1 _ rfl
    have h2 := hA0.cell 2 _ rfl
    have h3 := hA0.cell 3 _ rfl
    clear hd1 hd2 hk1 hk6
    have HR : Hid (D = true ↔ s = [] ∧ ts = [] ∧ ids.length ≤ 256 ∧ Rises ids) := HD.out.trans (right_45 (by omega))
    by_cases hs0 : s = []
    · have hse : s.isEmpty = true := by rw [hs0]; rfl
      have HS0 := Lib.hid hs0
      clear hs0
      by_cases hm0 : 0 < m
      · obtain rfl : D = false := dFalse HD.out (fun h => by have := (right_45 (by omega)).1 h; have h5 := HM.out; rw [this.2.1] at h5; simp at h5; omega)
        go_enter Try.func57, Try.ntmps57
        go_wp2_with fail
        go_returns
        exact ⟨rfl, hb0⟩
      · obtain rfl : m = 0 := by omega
        go_enter Try.func57, Try.ntmps57
        go_wp2_with fail
        have hA0h := Lib.hid hA0
        have hb0h := Lib.hid hb0
        go_loopw [3] (fun iv wr => ∃ i : Nat, 1 ≤ i ∧ i ≤ n + 1 ∧ iv = .int .i64 i ∧ Hid (∀ q a b, q + 1 < i → ids[q]? = some a → ids[q + 1]? = some b → cmpT a b < 0) ∧ Hid (Blk wr w.heap.size #[.int .i64 5, .string (str s), .slice iao n ic, .slice tao 0 tc] 107) ∧ Hid (Below w.heap.size w wr)) (fun iv _ => n + 1 - (intOf iv).toNat)
        case atStart => exact ⟨1, by omega, by omega, rfl, Lib.hid (fun q a b hq => by omega), hA0h, hb0h⟩
        case round =>
          obtain ⟨i, hi1, hi, rfl, hK, hAr, hBr⟩ := hrel
          clear hA0h hb0h h0 h1 h2 h3 hA0 hb0
          have h0 := hAr.out.cell 0 _ rfl
          have h1 := hAr.out.cell 1 _ rfl
          have h2 := hAr.out.cell 2 _ rfl
          have h3 := hAr.out.cell 3 _ rfl
          by_cases hlt : i < n
          · go_wp2_with fail
            clear h0 h1 h2 h3
            obtain ⟨hb, hhb⟩ : ∃ h, ids[i]? = some h := ⟨_, List.getElem?_eq_getElem (by rw [← HN.out]; exact hlt)⟩
            obtain ⟨j, hj⟩ : ∃ j, j = i - 1 := ⟨_, rfl⟩
            have hji : j + 1 = i := by omega
            obtain ⟨ha, hha⟩ : ∃ h, ids[j]? = some h := ⟨_, List.getElem?_eq_getElem (by rw [← HN.out]; omega)⟩
            obtain ⟨g, o, rfl, _⟩ := HI.out.range i hb hhb
            have HRA : Hid (∀ z, Below w.heap.size w z → z.rangeAt g (o + j * 32) (ha.map bv)) := fun z hz => (HI.out.below hz).range' j ha hha
            have HRB : Hid (∀ z, Below w.heap.size w z → z.rangeAt g (o + i * 32) (hb.map bv)) := fun z hz => (HI.out.below hz).range' i hb hhb
            have HA : Hid (ha.length = 32) := HI.out.1 ha (List.mem_of_getElem? hha)
            have HB : Hid (hb.length = 32) := HI.out.1 hb (List.mem_of_getElem? hhb)
            have HJ := Lib.hid hji
            have HHA := Lib.hid hha
            have HHB := Lib.hid hhb
            have hij : IntKind.i64.wrap ((i : Int) - 1) = (j : Int) := by rw [IntWalk.i64_in _ (by omega)]; omega
            have hjn : j < n := by omega
            have hA3 := hAr.out
            have hb3 := hBr.out
            clear hj hji hha hhb hAr hBr
            by_cases hcc : cmpT ha hb < 0
            · have HK5 : Hid (∀ q a b, q + 1 < i + 1 → ids[q]? = some a → ids[q + 1]? = some b → cmpT a b < 0) := fun q a b hq h4 h5 => by
                by_cases hqi : q + 1 < i
                · exact hK.out q a b hqi h4 h5
                · obtain rfl : q = j := by have := HJ.out; omega
                  rw [HJ.out, HHB.out] at h5
                  rw [HHA.out] at h4
                  obtain rfl := Option.some.inj h4
                  obtain rfl := Option.some.inj h5
                  exact hcc
              have cC : ∀ y, Calls Try.prog 46 #[.agg (ha.map bv).toArray, .agg (hb.map bv).toArray] y fun e w' => e = .returned (.bool true) ∧ Below y.heap.size y w' := fun y => by
                have := Less_calls ha hb HA.out HB.out y
                rwa [show ltT ha hb = true from decide_eq_true hcc] at this
              clear hcc hK
              refine wp_region_held_drew (S := fun x => Blk x (w.heap.size) #[.int .i64 5, .string (str s), .slice (some ⟨g, o, none⟩) n ic, .slice tao 0 tc] 107 ∧ Below w.heap.size w x) (by kernel_rfl) ⟨hA3.drew, below_drewN hb3 1⟩ (fun hSq89 => ?_)
              refine wpAnyH_take (i := 0) (v := .pointer (some ⟨w.heap.size, 2, none⟩)) rfl (by kernel_rfl) (by kernel_rfl) (by kernel_rfl) (fun _ _ _ h => h) (Or.inl ⟨by rfl, fun x hx => by go_simp⟩) hSq89 ?_
              simp only [Act.put, List.getElem_toArray, List.getElem_cons_zero, List.getElem_cons_succ, List.setIfInBounds_toArray, List.set_cons_zero, List.set_cons_succ]
              refine wpAnyH_take (i := 1) (v := .slice (some ⟨g, o, none⟩) n ic) rfl (by kernel_rfl) (by kernel_rfl) (by kernel_rfl) (fun _ _ _ h => h) (Or.inl ⟨by rfl, fun x hx => by have hc := hx.1.cell 2 _ rfl; go_simp⟩) hSq89 ?_
              simp only [Act.put, List.getElem_toArray, List.getElem_cons_zero, List.getElem_cons_succ, List.setIfInBounds_toArray, List.set_cons_zero, List.set_cons_succ]
              refine wpAnyH_take (i := 2) (v := .int .i64 i) rfl (by kernel_rfl) (by kernel_rfl) (by kernel_rfl) (fun _ _ _ h => h) (Or.inl ⟨by rfl, fun x hx => by go_simp⟩) hSq89 ?_
              simp only [Act.put, List.getElem_toArray, List.getElem_cons_zero, List.getElem_cons_succ, List.setIfInBounds_toArray, List.set_cons_zero, List.set_cons_succ]
              refine wpAnyH_take (i := 3) (v := .int .i64 j) rfl (by kernel_rfl) (by kernel_rfl) (by kernel_rfl) (fun _ _ _ h => h) (Or.inl ⟨by rfl, fun x hx => by go_simp⟩) hSq89 ?_
              simp only [Act.put, List.getElem_toArray, List.getElem_cons_zero, List.getElem_cons_succ, List.setIfInBounds_toArray, List.set_cons_zero, List.set_cons_succ]
              refine wpAnyH_take (i := 4) (v := .pointer (some ⟨g, o + j * 32, none⟩)) rfl (by kernel_rfl) (by kernel_rfl) (by kernel_rfl) (fun _ _ _ h => h) (Or.inl ⟨by rfl, fun x hx => by go_simp⟩) hSq89 ?_
              simp only [Act.put, List.getElem_toArray, List.getElem_cons_zero, List.getElem_cons_succ, List.setIfInBounds_toArray, List.set_cons_zero, List.set_cons_succ]
              refine wpAnyH_take (i := 5) rfl (by kernel_rfl) (by kernel_rfl) (by kernel_rfl) (fun _ _ _ h => h) (yieldsIf_load_mid (by rfl) 23 (.tmp 77) rfl (g) (o + j * 32) (by rfl) (ha.map bv) _ (fun x hx => HRA.out _ hx.2) Try.underlying23 rfl (by rw [List.length_map, HA.out]; exact Try.sizeHash)) hSq89 ?_
              simp only [Act.put, List.getElem_toArray, List.getElem_cons_zero, List.getElem_cons_succ, List.setIfInBounds_toArray, List.set_cons_zero, List.set_cons_succ]
              refine wpAnyH_take (i := 6) (v := .pointer (some ⟨w.heap.size, 2, none⟩)) rfl (by kernel_rfl) (by kernel_rfl) (by kernel_rfl) (fun _ _ _ h => h) (Or.inl ⟨by rfl, fun x hx => by go_simp⟩) hSq89 ?_
              simp only [Act.put, List.getElem_toArray, List.getElem_cons_zero, List.getElem_cons_succ, List.setIfInBounds_toArray, List.set_cons_zero, List.set_cons_succ]
              refine wpAnyH_take (i := 7) (v := .slice (some ⟨g, o, none⟩) n ic) rfl (by kernel_rfl) (by kernel_rfl) (by kernel_rfl) (fun _ _ _ h => h) (Or.inl ⟨by rfl, fun x hx => by have hc := hx.1.cell 2 _ rfl; go_simp⟩) hSq89 ?_
              simp only [Act.put, List.getElem_toArray, List.getElem_cons_zero, List.getElem_cons_succ, List.setIfInBounds_toArray, List.set_cons_zero, List.set_cons_succ]
              refine wpAnyH_take (i := 8) (v := .int .i64 i) rfl (by kernel_rfl) (by kernel_rfl) (by kernel_rfl) (fun _ _ _ h => h) (Or.inl ⟨by rfl, fun x hx => by go_simp⟩) hSq89 ?_
              simp only [Act.put, List.getElem_toArray, List.getElem_cons_zero, List.getElem_cons_succ, List.setIfInBounds_toArray, List.set_cons_zero, List.set_cons_succ]
              refine wpAnyH_take (i := 9) (v := .pointer (some ⟨g, o + i * 32, none⟩)) rfl (by kernel_rfl) (by kernel_rfl) (by kernel_rfl) (fun _ _ _ h => h) (Or.inl ⟨by rfl, fun x hx => by go_simp⟩) hSq89 ?_
              simp only [Act.put, List.getElem_toArray, List.getElem_cons_zero, List.getElem_cons_succ, List.setIfInBounds_toArray, List.set_cons_zero, List.set_cons_succ]
              refine wpAnyH_take (i := 10) rfl (by kernel_rfl) (by kernel_rfl) (by kernel_rfl) (fun _ _ _ h => h) (yieldsIf_load_mid (by rfl) 23 (.tmp 82) rfl (g) (o + i * 32) (by rfl) (hb.map bv) _ (fun x hx => HRB.out _ hx.2) Try.underlying23 rfl (by rw [List.length_map, HB.out]; exact Try.sizeHash)) hSq89 ?_
              simp only [Act.put, List.getElem_toArray, List.getElem_cons_zero, List.getElem_cons_succ, List.setIfInBounds_toArray, List.set_cons_zero, List.set_cons_succ]
              refine wpAnyH_ready (rs := [11]) (by kernel_rfl) (by simp) ?_
              refine AllReadyH.cons rfl (fun K hK => ?_) AllReadyH.nil
              go_simp
              go_wp2_with (go_at_call 46; refine (cC _).mono ?_; rintro e yq90 ⟨rfl, bq91⟩)
              refine hK.out _ _ ⟨hSq89.1.below bq91 hSq89.1.lt, hSq89.2.trans (bq91.mono (hSq89.2.size))⟩ (fun hSq92 => ?_)
              clear hK K hSq89 bq91
              refine wpAnyH_take (i := 12) (v := .bool false) rfl (by kernel_rfl) (by kernel_rfl) (by kernel_rfl) (fun _ _ _ h => h) (Or.inl ⟨by rfl, fun x hx => by go_simp⟩) hSq92 ?_
              simp only [Act.put, List.getElem_toArray, List.getElem_cons_zero, List.getElem_cons_succ, List.setIfInBounds_toArray, List.set_cons_zero, List.set_cons_succ]
              refine wpAnyH_done (by kernel_rfl) ?_ _
              have hA9 := Lib.hid hSq92.1
              have hB9 := Lib.hid hSq92.2
              clear hSq92 hij cC
              go_wp2_with fail
              go_roundw
              case rel => exact ⟨i + 1, by omega, by omega, by go_num, HK5, hA9, hB9⟩
              case measure => simp [intOf]; omega
            · obtain rfl : D = false := dFalse HR.out (fun h => hcc (rises_next (h.2.2.2) HHA.out (by rw [HJ.out]; exact HHB.out)))
              have cC : ∀ y, Calls Try.prog 46 #[.agg (ha.map bv).toArray, .agg (hb.map bv).toArray] y fun e w' => e = .returned (.bool false) ∧ Below y.heap.size y w' := fun y => by
                have := Less_calls ha hb HA.out HB.out y
                rwa [show ltT ha hb = false from decide_eq_false hcc] at this
              clear hcc hK
              refine wp_region_held_drew (S := fun x => Blk x (w.heap.size) #[.int .i64 5, .string (str s), .slice (some ⟨g, o, none⟩) n ic, .slice tao 0 tc] 107 ∧ Below w.heap.size w x) (by kernel_rfl) ⟨hA3.drew, below_drewN hb3 1⟩ (fun hSq93 => ?_)
              refine wpAnyH_take (i := 0) (v := .pointer (some ⟨w.heap.size, 2, none⟩)) rfl (by kernel_rfl) (by kernel_rfl) (by kernel_rfl) (fun _ _ _ h => h) (Or.inl ⟨by rfl, fun x hx => by go_simp⟩) hSq93 ?_
              simp only [Act.put, List.getElem_toArray, List.getElem_cons_zero, List.getElem_cons_succ, List.setIfInBounds_toArray, List.set_cons_zero, List.set_cons_succ]
              refine wpAnyH_take (i := 1) (v := .slice (some ⟨g, o, none⟩) n ic) rfl (by kernel_rfl) (by kernel_rfl) (by kernel_rfl) (fun _ _ _ h => h) (Or.inl ⟨by rfl, fun x hx => by have hc := hx.1.cell 2 _ rfl; go_simp⟩) hSq93 ?_
              simp only [Act.put, List.getElem_toArray, List.getElem_cons_zero, List.getElem_cons_succ, List.setIfInBounds_toArray, List.set_cons_zero, List.set_cons_succ]
              refine wpAnyH_take (i := 2) (v := .int .i64 i) rfl (by kernel_rfl) (by kernel_rfl) (by kernel_rfl) (fun _ _ _ h => h) (Or.inl ⟨by rfl, fun x hx => by go_simp⟩) hSq93 ?_
              simp only [Act.put, List.getElem_toArray, List.getElem_cons_zero, List.getElem_cons_succ, List.setIfInBounds_toArray, List.set_cons_zero, List.set_cons_succ]
              refine wpAnyH_take (i := 3) (v := .int .i64 j) rfl (by kernel_rfl) (by kernel_rfl) (by kernel_rfl) (fun _ _ _ h => h) (Or.inl ⟨by rfl, fun x hx => by go_simp⟩) hSq93 ?_
              simp only [Act.put, List.getElem_toArray, List.getElem_cons_zero, List.getElem_cons_succ, List.setIfInBounds_toArray, List.set_cons_zero, List.set_cons_succ]
              refine wpAnyH_take (i := 4) (v := .pointer (some ⟨g, o + j * 32, none⟩)) rfl (by kernel_rfl) (by kernel_rfl) (by kernel_rfl) (fun _ _ _ h => h) (Or.inl ⟨by rfl, fun x hx => by go_simp⟩) hSq93 ?_
              simp only [Act.put, List.getElem_toArray, List.getElem_cons_zero, List.getElem_cons_succ, List.setIfInBounds_toArray, List.set_cons_zero, List.set_cons_succ]
              refine wpAnyH_take (i := 5) rfl (by kernel_rfl) (by kernel_rfl) (by kernel_rfl) (fun _ _ _ h => h) (yieldsIf_load_mid (by rfl) 23 (.tmp 77) rfl (g) (o + j * 32) (by rfl) (ha.map bv) _ (fun x hx => HRA.out _ hx.2) Try.underlying23 rfl (by rw [List.length_map, HA.out]; exact Try.sizeHash)) hSq93 ?_
              simp only [Act.put, List.getElem_toArray, List.getElem_cons_zero, List.getElem_cons_succ, List.setIfInBounds_toArray, List.set_cons_zero, List.set_cons_succ]
              refine wpAnyH_take (i := 6) (v := .pointer (some ⟨w.heap.size, 2, none⟩)) rfl (by kernel_rfl) (by kernel_rfl) (by kernel_rfl) (fun _ _ _ h => h) (Or.inl ⟨by rfl, fun x hx => by go_simp⟩) hSq93 ?_
              simp only [Act.put, List.getElem_toArray, List.getElem_cons_zero, List.getElem_cons_succ, List.setIfInBounds_toArray, List.set_cons_zero, List.set_cons_succ]
              refine wpAnyH_take (i := 7) (v := .slice (some ⟨g, o, none⟩) n ic) rfl (by kernel_rfl) (by kernel_rfl) (by kernel_rfl) (fun _ _ _ h => h) (Or.inl ⟨by rfl, fun x hx => by have hc := hx.1.cell 2 _ rfl; go_simp⟩) hSq93 ?_
              simp only [Act.put, List.getElem_toArray, List.getElem_cons_zero, List.getElem_cons_succ, List.setIfInBounds_toArray, List.set_cons_zero, List.set_cons_succ]
              refine wpAnyH_take (i := 8) (v := .int .i64 i) rfl (by kernel_rfl) (by kernel_rfl) (by kernel_rfl) (fun _ _ _ h => h) (Or.inl ⟨by rfl, fun x hx => by go_simp⟩) hSq93 ?_
              simp only [Act.put, List.getElem_toArray, List.getElem_cons_zero, List.getElem_cons_succ, List.setIfInBounds_toArray, List.set_cons_zero, List.set_cons_succ]
              refine wpAnyH_take (i := 9) (v := .pointer (some ⟨g, o + i * 32, none⟩)) rfl (by kernel_rfl) (by kernel_rfl) (by kernel_rfl) (fun _ _ _ h => h) (Or.inl ⟨by rfl, fun x hx => by go_simp⟩) hSq93 ?_
              simp only [Act.put, List.getElem_toArray, List.getElem_cons_zero, List.getElem_cons_succ, List.setIfInBounds_toArray, List.set_cons_zero, List.set_cons_succ]
              refine wpAnyH_take (i := 10) rfl (by kernel_rfl) (by kernel_rfl) (by kernel_rfl) (fun _ _ _ h => h) (yieldsIf_load_mid (by rfl) 23 (.tmp 82) rfl (g) (o + i * 32) (by rfl) (hb.map bv) _ (fun x hx => HRB.out _ hx.2) Try.underlying23 rfl (by rw [List.length_map, HB.out]; exact Try.sizeHash)) hSq93 ?_
              simp only [Act.put, List.getElem_toArray, List.getElem_cons_zero, List.getElem_cons_succ, List.setIfInBounds_toArray, List.set_cons_zero, List.set_cons_succ]
              refine wpAnyH_ready (rs := [11]) (by kernel_rfl) (by simp) ?_
              refine AllReadyH.cons rfl (fun K hK => ?_) AllReadyH.nil
              go_simp
              go_wp2_with (go_at_call 46; refine (cC _).mono ?_; rintro e yq94 ⟨rfl, bq95⟩)
              refine hK.out _ _ ⟨hSq93.1.below bq95 hSq93.1.lt, hSq93.2.trans (bq95.mono (hSq93.2.size))⟩ (fun hSq96 => ?_)
              clear hK K hSq93 bq95
              refine wpAnyH_take (i := 12) (v := .bool true) rfl (by kernel_rfl) (by kernel_rfl) (by kernel_rfl) (fun _ _ _ h => h) (Or.inl ⟨by rfl, fun x hx => by go_simp⟩) hSq96 ?_
              simp only [Act.put, List.getElem_toArray, List.getElem_cons_zero, List.getElem_cons_succ, List.setIfInBounds_toArray, List.set_cons_zero, List.set_cons_succ]
              refine wpAnyH_done (by kernel_rfl) ?_ _
              have hB9 := hSq96.2
              clear hSq96 hij cC
              go_wp2_with fail
              go_returns
              exact ⟨rfl, hB9⟩
          · have hri : Rises ids := rises_chain HI.out.1 fun q a b h4 h5 => hK.out q a b (by have := (List.getElem?_eq_some_iff.1 h5).1; have := HN.out; omega) h4 h5
            have hri' := Lib.hid hri
            clear hri
            have hA0 := hAr
            have hb0 := hBr
            clear hAr hBr
            go_wp2_with fail
            obtain ⟨z2, rfl⟩ : ∃ z, z = wr := ⟨_, rfl⟩
            have hAr := hA0
            have hBr := hb0
            clear hA0 hb0
            go_loopw [4] (fun iv wr => iv = .int .i64 0 ∧ Hid (Blk wr w.heap.size #[.int .i64 5, .string (str s), .slice iao n ic, .slice tao 0 tc] 107) ∧ Hid (Below w.heap.size w wr)) (fun _ _ => 0)
            case atStart => exact ⟨rfl, hAr, hBr⟩
            case round =>
              obtain ⟨rfl, hAz, hBz⟩ := hrel
              clear hAr hBr h0 h1 h2 h3
              have h0 := hAz.out.cell 0 _ rfl
              have h3 := hAz.out.cell 3 _ rfl
              obtain rfl : D = true := dTrue HD.out ((right_45 (by omega)).2 ⟨HS0.out, List.eq_nil_of_length_eq_zero HM.out.symm, by have := HN.out; omega, hri'.out⟩)
              go_wp2_with fail
              go_returns
              exact ⟨rfl, hBz.out⟩
    · have hse : s.isEmpty = false := by cases h : s with | nil => exact absurd h hs0 | cons _ _ => rfl
      have HS0 := Lib.hid hs0
      clear hs0
      obtain rfl : D = false := dFalse HD.out (fun h => HS0.out ((right_45 (by omega)).1 h).1)
      go_enter Try.func57, Try.ntmps57
      go_wp2_with fail
      go_returns
      exact ⟨rfl, hb0⟩
  by_cases hk6 : k = 6
  · subst hk6
    have hb0 : Below w.heap.size w (w.alloc (.cells #[.int .i64 6, .string (str s), .slice iao n ic, .slice tao m tc] 107)) := below_alloc1 _ _
    have hA0 : Blk (w.alloc (.cells #[.int .i64 6, .string (str s), .slice iao n ic, .slice tao m tc] 107)) w.heap.size #[.int .i64 6, .string (str s), .slice iao n ic, .slice tao m tc] 107 := Blk.new _ _ _
    have h0 := hA0.cell 0 _ rfl
    have h1 := hA0.cell 1 _ rfl
    have h2 := hA0.cell 2 _ rfl
    have h3 := hA0.cell 3 _ rfl
    clear hd1 hd2 hk1 hk6
    by_cases hs0 : s = []
    · have hse : s.isEmpty = true := by rw [hs0]; rfl
      have HS0 := Lib.hid hs0
      clear hs0
      by_cases hn0 : 0 < n
      · obtain rfl : D = false := dFalse HD.out (fun h => by have := (right_6 rfl).1 h; have h5 := HN.out; rw [this.2.1] at h5; simp at h5; omega)
        go_enter Try.func57, Try.ntmps57
        go_wp2_with fail
        go_returns
        exact ⟨rfl, hb0⟩
      · obtain rfl : n = 0 := by omega
        go_enter Try.func57, Try.ntmps57
        go_wp2_with fail
        
        have hA0h := Lib.hid hA0
        have hb0h := Lib.hid hb0
        go_loopw [3] (fun iv wr => iv = .int .i64 1 ∧ Hid (Blk wr w.heap.size #[.int .i64 6, .string (str s), .slice iao 0 ic, .slice tao m tc] 107) ∧ Hid (Below w.heap.size w wr)) (fun _ _ => 0)
        case atStart => exact ⟨rfl, hA0h, hb0h⟩
        case round =>
          obtain ⟨rfl, hAr, hBr⟩ := hrel
          obtain ⟨z2, rfl⟩ : ∃ z, z = wr := ⟨_, rfl⟩
          clear hA0h hb0h h0 h1 h2 h3 hA0 hb0
          have h0 := hAr.out.cell 0 _ rfl
          have h1 := hAr.out.cell 1 _ rfl
          have h2 := hAr.out.cell 2 _ rfl
          have h3 := hAr.out.cell 3 _ rfl
          go_wp2_with fail
          go_loopw [4] (fun iv wr => ∃ i : Nat, i ≤ m ∧ iv = .int .i64 i ∧ Hid (∀ x ∈ ts.take i, x.length ≤ 65536) ∧ Hid (Blk wr w.heap.size #[.int .i64 6, .string (str s), .slice iao 0 ic, .slice tao m tc] 107) ∧ Hid (Below w.heap.size w wr)) (fun iv _ => m - (intOf iv).toNat)
          case atStart => exact ⟨0, by omega, rfl, Lib.hid (fun x hx => by simp at hx), hAr, hBr⟩
          case round =>
            obtain ⟨i, hi, rfl, hK, hAz, hBz⟩ := hrel
            clear hAr hBr h0 h1 h2 h3
            have h0 := hAz.out.cell 0 _ rfl
            have h3 := hAz.out.cell 3 _ rfl
            by_cases hlt : i < m
            · obtain ⟨x, hx⟩ : ∃ x, ts[i]? = some x := ⟨_, List.getElem?_eq_getElem (by rw [← HM.out]; exact hlt)⟩
              obtain ⟨g, o, rfl, hrg⟩ := (HT.out.below hBz.out).range sCells_len i x hx
              have hc : wr.cell? ⟨g, o + i, none⟩ = some (.string (str x)) := by have := hrg 0 _ rfl; rwa [Nat.mul_one] at this
              have hxm : x.length ≤ 9223372036854775807 := HTM.out x (List.mem_of_getElem? hx)
              have HX : Hid (x ∈ ts) := List.mem_of_getElem? hx
              have HTK : Hid (ts.take (i + 1) = ts.take i ++ [x]) := by show _ = _; rw [List.take_add_one, hx]; rfl
              clear hx hrg
              by_cases hxl : 65536 < x.length
              · obtain rfl : D = false := dFalse HD.out (fun h => by have := ((right_6 rfl).1 h).2.2.2 x HX.out; omega)
                go_wp2_with fail
                go_returns
                exact ⟨rfl, hBz.out⟩
              · have hK5 : Hid (∀ y ∈ ts.take (i + 1), y.length ≤ 65536) := fun y hy => by
                  rw [HTK.out] at hy
                  rcases List.mem_append.1 hy with hy | hy
                  · exact hK.out y hy
                  · rw [List.mem_singleton.1 hy]; omega
                clear hK
                go_wp2_with fail
                go_roundw
                case rel => exact ⟨i + 1, by omega, by go_num, hK5, hAz, hBz⟩
                case measure => simp [intOf]; omega
            · obtain rfl : m = i := by omega
              obtain rfl : D = true := dTrue HD.out ((right_6 rfl).2 ⟨HS0.out, List.eq_nil_of_length_eq_zero HN.out.symm, by have := HM.out; omega, fun y hy => hK.out y (by rw [List.take_of_length_le (by have := HM.out; omega)]; exact hy)⟩)
              clear hK
              go_wp2_with fail
              go_returns
              exact ⟨rfl, hBz.out⟩
    · have hse : s.isEmpty = false := by cases h : s with | nil => exact absurd h hs0 | cons _ _ => rfl
      have HS0 := Lib.hid hs0
      clear hs0
      obtain rfl : D = false := dFalse HD.out (fun h => HS0.out ((right_6 rfl).1 h).1)
      go_enter Try.func57, Try.ntmps57
      go_wp2_with fail
      go_returns
      exact ⟨rfl, hb0⟩
  omega
end Go.Proofs.Ytlomofcnknpciaa
