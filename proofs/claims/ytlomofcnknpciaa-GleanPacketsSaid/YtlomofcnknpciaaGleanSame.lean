/-
  bevyref19.Same, bevylaw19.few.
-/
import Derived.Test.YtlomofcnknpciaaGleanRight
import Derived.Test.YtlomofcnknpciaaGleanTx
import Derived.Test.YtlomofcnknpciaaGleanRef
import Derived.WalkLawsBesides
import Derived.Outline
import Derived.Handy
import Derived.Deep.RegionHeld
set_option linter.unusedSimpArgs false
set_option linter.unusedVariables false
namespace Go.Proofs.Ytlomofcnknpciaa
open Go.RowKit

set_option maxHeartbeats 8000000 in
set_option maxRecDepth 100000 in
theorem Same_calls (p : Pk) (i1 t1 i2 t2 : Value) (w : World) (h1 : HashesAt w i1 p.ids) (h2 : TxAt w t1 p.ts) (h3 : HashesAt w i2 p.ids) (h4 : TxAt w t2 p.ts) (hn1 : p.ids.length ≤ 1000) (hn2 : p.ts.length ≤ 1000) :
    Calls Try.prog 62 #[.agg #[.int .i64 p.k, .string (str p.s), i1, t1], .agg #[.int .i64 p.k, .string (str p.s), i2, t2]] w fun e w' => e = .returned (.bool true) ∧ Below w.heap.size w w' := by
  obtain ⟨k, s, ids, ts⟩ := p
  simp only at h1 h2 h3 h4 hn1 hn2 ⊢
  have H1 := Lib.hid h1
  have H2 := Lib.hid h2
  have H3 := Lib.hid h3
  have H4 := Lib.hid h4
  obtain ⟨W, hW⟩ : ∃ W, W = (w.alloc (.cells #[.int .i64 k, .string (str s), i1, t1] 107)).alloc (.cells #[.int .i64 k, .string (str s), i2, t2] 107) := ⟨_, rfl⟩
  have hA : Blk W w.heap.size #[.int .i64 k, .string (str s), i1, t1] 107 := by rw [hW]; exact (Blk.new _ _ _).alloc _
  have hB : Blk W (w.heap.size + 1) #[.int .i64 k, .string (str s), i2, t2] 107 := by rw [hW]; exact blk_newAt (by simp)
  have hb0 : Below w.heap.size w W := by rw [hW]; exact (below_alloc1 _ _).alloc (by simp) _
  have HW := Lib.hid hW
  have a0 := hA.cell 0 _ rfl
  have a1 := hA.cell 1 _ rfl
  have a2 := hA.cell 2 _ rfl
  have a3 := hA.cell 3 _ rfl
  have b0 := hB.cell 0 _ rfl
  have b1 := hB.cell 1 _ rfl
  have b2 := hB.cell 2 _ rfl
  have b3 := hB.cell 3 _ rfl
  rw [hW] at a0 a1 a2 a3 b0 b1 b2 b3
  clear h1 h2 h3 h4 hW
  go_enter Try.func62, Try.ntmps62
  go_wp2_with fail
  rw [← HW.out]
  clear a0 a1 a2 a3 b0 b1 b2 b3 HW
  refine (SameIds_calls _ _ ids _ (H1.out.below hb0) (H3.out.below hb0) (by omega)).mono ?_
  rintro e w5 ⟨rfl, b5⟩
  have hA5 := hA.below b5 hA.lt
  have hB5 := hB.below b5 hB.lt
  have hb5 := hb0.trans (b5.mono hb0.size)
  have a3 := hA5.cell 3 _ rfl
  have b3 := hB5.cell 3 _ rfl
  clear b5 hA hB hb0
  go_wp2_with fail
  refine (SameTexts_calls _ _ ts _ (H2.out.below hb5) (H4.out.below hb5) (by omega)).mono ?_
  rintro e w6 ⟨rfl, b6⟩
  have hb6 := hb5.trans (b6.mono hb5.size)
  clear b6 hb5 a3 b3 hA5 hB5
  go_wp2_with fail
  go_returns
  exact ⟨rfl, hb6⟩
/-- What few answers: whether a packet is small is free, but what is small is small. -/
def FewRes (p : Pk) (w : World) (e : Ending) (w' : World) : Prop := Below w.heap.size w w' ∧ ((e = .returned (.bool true) ∧ p.s.length ≤ 100000 ∧ p.ids.length ≤ 400 ∧ p.ts.length ≤ 400 ∧ (p.ts.map (·.length)).sum ≤ 100000) ∨ e = .returned (.bool false))
set_option maxHeartbeats 16000000 in
set_option maxRecDepth 100000 in
theorem few_calls (p : Pk) (iv tv : Value) (w : World) (hi : HashesAt w iv p.ids) (ht : TxAt w tv p.ts) (hn1 : p.ids.length ≤ maxLen) (hn2 : p.ts.length ≤ maxLen) (hsm : p.s.length ≤ maxLen) (htm : ∀ t ∈ p.ts, t.length ≤ maxLen) :
    Calls Try.prog 56 #[.agg #[.int .i64 p.k, .string (str p.s), iv, tv]] w (FewRes p w) := by
  obtain ⟨k, s, ids, ts⟩ := p
  obtain ⟨iao, ic, rfl, _⟩ := hi.slice
  obtain ⟨tao, tc, rfl⟩ := ht.slice
  have HT := Lib.hid ht
  have HTM := Lib.hid htm
  simp only at hn1 hn2 hsm HT HTM ⊢
  obtain ⟨n, hnn⟩ : ∃ n, n = ids.length := ⟨_, rfl⟩
  obtain ⟨m, hmm⟩ : ∃ m, m = ts.length := ⟨_, rfl⟩
  have HN := Lib.hid hnn
  have HM := Lib.hid hmm
  rw [← hnn] at hn1 ⊢
  rw [← hmm] at hn2 HT ⊢
  unfold maxLen at hsm hn1 hn2
  clear hi ht hnn hmm htm
  have hb0 : Below w.heap.size w (w.alloc (.cells #[.int .i64 k, .string (str s), .slice iao n ic, .slice tao m tc] 107)) := below_alloc1 _ _
  have hA0 : Blk (w.alloc (.cells #[.int .i64 k, .string (str s), .slice iao n ic, .slice tao m tc] 107)) w.heap.size #[.int .i64 k, .string (str s), .slice iao n ic, .slice tao m tc] 107 := Blk.new _ _ _
  have h0 := hA0.cell 0 _ rfl
  have h1 := hA0.cell 1 _ rfl
  have h2 := hA0.cell 2 _ rfl
  have h3 := hA0.cell 3 _ rfl
  go_enter Try.func56, Try.ntmps56
  by_cases c1 : 100000 < s.length
  · go_wp2_with fail
    go_returns
    exact ⟨hb0, .inr rfl⟩
  by_cases c2 : 400 < n
  · go_wp2_with fail
    go_returns
    exact ⟨hb0, .inr rfl⟩
  by_cases c3 : 400 < m
  · go_wp2_with fail
    go_returns
    exact ⟨hb0, .inr rfl⟩
  go_wp2_with fail
  have hA0h := Lib.hid hA0
  have hb0h := Lib.hid hb0
  go_loopw [3, 4] (fun sv iv wr => ∃ (i c : Nat), i ≤ m ∧ iv = .int .i64 i ∧ sv = .int .i64 c ∧ c ≤ 200000 ∧ Hid (c = ((ts.take i).map (·.length)).sum) ∧ Hid (Blk wr w.heap.size #[.int .i64 k, .string (str s), .slice iao n ic, .slice tao m tc] 107) ∧ Hid (Below w.heap.size w wr)) (fun _ iv _ => m - (intOf iv).toNat)
  case atStart => exact ⟨0, 0, by omega, rfl, rfl, by omega, Lib.hid (by simp), hA0h, hb0h⟩
  case round =>
    obtain ⟨i, c, hi, rfl, rfl, hc9, hK, hAz, hBz⟩ := hrel
    clear hA0h hb0h h0 h1 h2 h3 hA0 hb0
    have hb0 := hBz.out
    have h3 := hAz.out.cell 3 _ rfl
    by_cases hlt : i < m
    · obtain ⟨x, hx⟩ : ∃ x, ts[i]? = some x := ⟨_, List.getElem?_eq_getElem (by rw [← HM.out]; exact hlt)⟩
      obtain ⟨g, o, rfl, hrg⟩ := (HT.out.below hBz.out).range sCells_len i x hx
      have hc : wr.cell? ⟨g, o + i, none⟩ = some (.string (str x)) := by have := hrg 0 _ rfl; rwa [Nat.mul_one] at this
      have hxm : x.length ≤ 9223372036854775807 := HTM.out x (List.mem_of_getElem? hx)
      have HTK : Hid (ts.take (i + 1) = ts.take i ++ [x]) := by show _ = _; rw [List.take_add_one, hx]; rfl
      clear hx hrg
      by_cases d1 : 100000 < c
      · have dd1 : decide (100000 < (c : Int)) = true := decide_eq_true (by omega)
        go_wp2_with fail
        go_returns
        exact ⟨hb0, .inr rfl⟩
      have dd1 : decide (100000 < (c : Int)) = false := decide_eq_false (by omega)
      by_cases d2 : 100000 < x.length
      · have dd2 : decide (100000 < (x.length : Int)) = true := decide_eq_true (by omega)
        go_wp2_with fail
        go_returns
        exact ⟨hb0, .inr rfl⟩
      have dd2 : decide (100000 < (x.length : Int)) = false := decide_eq_false (by omega)
      obtain ⟨c2, hc2⟩ : ∃ c2, c2 = c + x.length := ⟨_, rfl⟩
      have hs3 : IntKind.i64.wrap ((c : Int) + (x.length : Int)) = (c2 : Int) := by rw [hc2, IntWalk.i64_in _ (by omega)]; omega
      have hs4 : c2 ≤ 200000 := by omega
      have hK5 : Hid (c2 = ((ts.take (i + 1)).map (·.length)).sum) := by
        show _ = _
        rw [HTK.out, hc2, hK.out]; simp
      clear hc2 hK
      go_wp2_with fail
      clear hs3
      go_roundw
      case rel => exact ⟨i + 1, c2, by omega, by go_num, rfl, hs4, hK5, hAz, hBz⟩
      case measure => simp [intOf]; omega
    · obtain rfl : m = i := by omega
      have hKl : Hid (c = (ts.map (·.length)).sum) := by
        have := hK.out
        rwa [List.take_of_length_le (by have := HM.out; omega)] at this
      clear hK
      by_cases d1 : 100000 < c
      · have dd1 : decide ((c : Int) ≤ 100000) = false := decide_eq_false (by omega)
        go_wp2_with fail
        go_returns
        exact ⟨hb0, .inr rfl⟩
      · have dd1 : decide ((c : Int) ≤ 100000) = true := decide_eq_true (by omega)
        go_wp2_with fail
        go_returns
        exact ⟨hb0, .inl ⟨rfl, by show s.length ≤ _; omega, by show ids.length ≤ _; have := HN.out; omega, by show ts.length ≤ _; have := HM.out; omega, by show (ts.map _).sum ≤ _; rw [← hKl.out]; omega⟩⟩
end Go.Proofs.Ytlomofcnknpciaa
