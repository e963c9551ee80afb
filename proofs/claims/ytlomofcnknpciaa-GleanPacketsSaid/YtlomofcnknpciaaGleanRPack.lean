/-
  bevyref19.Pack.
-/
import Derived.Test.YtlomofcnknpciaaGleanPack
import Derived.Test.YtlomofcnknpciaaWireRef
import Derived.WalkLawsBesides
import Derived.Outline
import Derived.Handy
import Derived.Deep.RegionHeld
set_option linter.unusedSimpArgs false
set_option linter.unusedVariables false
namespace Go.Proofs.Ytlomofcnknpciaa
open Go.RowKit

set_option maxHeartbeats 16000000 in
set_option maxRecDepth 100000 in
theorem RPack_calls (p : Pk) (iv tv : Value) (w : World) (hi : HashesAt w iv p.ids) (ht : TxAt w tv p.ts) (hn1 : p.ids.length ≤ 1000) (hn2 : p.ts.length ≤ 1000) (hsm : p.s.length ≤ maxLen) (htm : ∀ t ∈ p.ts, t.length ≤ maxLen) (hr : RightP p) :
    Calls Try.prog 61 #[.agg #[.int .i64 p.k, .string (str p.s), iv, tv]] w fun e w' => e = .returned (.string (str (packP p))) ∧ Below w.heap.size w w' := by
  obtain ⟨k, s, ids, ts⟩ := p
  obtain ⟨iao, ic, rfl, _⟩ := hi.slice
  obtain ⟨tao, tc, rfl⟩ := ht.slice
  have HI := Lib.hid hi
  have HT := Lib.hid ht
  have HRP := Lib.hid hr
  have HTM := Lib.hid htm
  simp only at hn1 hn2 hsm HI HT HTM ⊢
  obtain ⟨n, hnn⟩ : ∃ n, n = ids.length := ⟨_, rfl⟩
  obtain ⟨m, hmm⟩ : ∃ m, m = ts.length := ⟨_, rfl⟩
  have HN := Lib.hid hnn
  have HM := Lib.hid hmm
  obtain ⟨PP, hPP⟩ : ∃ P, P = packP ⟨k, s, ids, ts⟩ := ⟨_, rfl⟩
  have HPK0 := Lib.hid hPP
  rw [← hPP]
  rw [← hnn] at hn1 HI ⊢
  rw [← hmm] at hn2 HT ⊢
  unfold maxLen at hsm
  clear hi ht hnn hmm htm hr hPP
  have hk : 1 ≤ k ∧ k ≤ 6 := by rcases HRP.out with h | h | h <;> (simp only at h; omega)
  by_cases hk1 : k = 1
  · subst hk1
    clear hk
    have hb0 : Below w.heap.size w (w.alloc (.cells #[.int .i64 1, .string (str s), .slice iao n ic, .slice tao m tc] 107)) := below_alloc1 _ _
    have hA0 : Blk (w.alloc (.cells #[.int .i64 1, .string (str s), .slice iao n ic, .slice tao m tc] 107)) w.heap.size #[.int .i64 1, .string (str s), .slice iao n ic, .slice tao m tc] 107 := Blk.new _ _ _
    have h0 := hA0.cell 0 _ rfl
    have h1 := hA0.cell 1 _ rfl
    have h2 := hA0.cell 2 _ rfl
    have h3 := hA0.cell 3 _ rfl
    have HSL : Hid (s.length ≤ 65536) := ((right_123 (by omega)).1 HRP.out).2.2
    have HPK : Hid (PP = numB 1 ++ numB s.length ++ s) := by
      show _ = _
      rw [HPK0.out]; simp [packP, encT]
    clear HRP HPK0
    go_enter Try.func61, Try.ntmps61
    go_wp2_with fail
    clear h0 h1 h2 h3
    refine (RefNum_calls 1 _ (by omega) (by omega)).mono ?_
    rintro e w1 ⟨rfl, bq⟩
    have hB1 := hb0.trans (bq.mono hb0.size)
    have hA1 := hA0.below bq hA0.lt
    clear bq hb0 hA0
    have h0 := hA1.cell 0 _ rfl
    have h1 := hA1.cell 1 _ rfl
    have h2 := hA1.cell 2 _ rfl
    have h3 := hA1.cell 3 _ rfl
    obtain ⟨N0, hN0⟩ : ∃ l, l = numB ((1 : Int).toNat) := ⟨_, rfl⟩
    have HN0 : Hid (N0 = numB 1) := hN0
    have hl0 : N0.length ≤ 8 := by rw [hN0]; exact numB_len _
    rw [← hN0]
    clear hN0
    go_wp2_with fail
    clear h0 h1 h2 h3
    refine (RefText_calls s _ (by have := HSL.out; omega)).mono ?_
    rintro e w2 ⟨rfl, bq⟩
    have hB2 := hB1.trans (bq.mono hB1.size)
    have hA2 := hA1.below bq hA1.lt
    clear bq hB1 hA1
    have h0 := hA2.cell 0 _ rfl
    have h1 := hA2.cell 1 _ rfl
    have h2 := hA2.cell 2 _ rfl
    have h3 := hA2.cell 3 _ rfl
    obtain ⟨N1, hN1⟩ : ∃ l, l = numB s.length ++ s := ⟨_, rfl⟩
    have HP1 : Hid (PP = N0 ++ N1) := by show _ = _; rw [HPK.out, HN0.out, hN1]; simp
    have hl1 : N1.length ≤ 65544 := by rw [hN1, List.length_append]; have := numB_len s.length; have := HSL.out; omega
    rw [← hN1]
    clear hN1
    go_wp2_with fail
    go_returns
    exact ⟨by rw [HP1.out]; rfl, hB2⟩
  by_cases hk2 : k = 2
  · subst hk2
    clear hk
    have hb0 : Below w.heap.size w (w.alloc (.cells #[.int .i64 2, .string (str s), .slice iao n ic, .slice tao m tc] 107)) := below_alloc1 _ _
    have hA0 : Blk (w.alloc (.cells #[.int .i64 2, .string (str s), .slice iao n ic, .slice tao m tc] 107)) w.heap.size #[.int .i64 2, .string (str s), .slice iao n ic, .slice tao m tc] 107 := Blk.new _ _ _
    have h0 := hA0.cell 0 _ rfl
    have h1 := hA0.cell 1 _ rfl
    have h2 := hA0.cell 2 _ rfl
    have h3 := hA0.cell 3 _ rfl
    have HSL : Hid (s.length ≤ 65536) := ((right_123 (by omega)).1 HRP.out).2.2
    have HPK : Hid (PP = numB 2 ++ numB s.length ++ s) := by
      show _ = _
      rw [HPK0.out]; simp [packP, encT]
    clear HRP HPK0
    go_enter Try.func61, Try.ntmps61
    go_wp2_with fail
    clear h0 h1 h2 h3
    refine (RefNum_calls 2 _ (by omega) (by omega)).mono ?_
    rintro e w1 ⟨rfl, bq⟩
    have hB1 := hb0.trans (bq.mono hb0.size)
    have hA1 := hA0.below bq hA0.lt
    clear bq hb0 hA0
    have h0 := hA1.cell 0 _ rfl
    have h1 := hA1.cell 1 _ rfl
    have h2 := hA1.cell 2 _ rfl
    have h3 := hA1.cell 3 _ rfl
    obtain ⟨N0, hN0⟩ : ∃ l, l = numB ((2 : Int).toNat) := ⟨_, rfl⟩
    have HN0 : Hid (N0 = numB 2) := hN0
    have hl0 : N0.length ≤ 8 := by rw [hN0]; exact numB_len _
    rw [← hN0]
    clear hN0
    go_wp2_with fail
    clear h0 h1 h2 h3
    refine (RefText_calls s _ (by have := HSL.out; omega)).mono ?_
    rintro e w2 ⟨rfl, bq⟩
    have hB2 := hB1.trans (bq.mono hB1.size)
    have hA2 := hA1.below bq hA1.lt
    clear bq hB1 hA1
    have h0 := hA2.cell 0 _ rfl
    have h1 := hA2.cell 1 _ rfl
    have h2 := hA2.cell 2 _ rfl
    have h3 := hA2.cell 3 _ rfl
    obtain ⟨N1, hN1⟩ : ∃ l, l = numB s.length ++ s := ⟨_, rfl⟩
    have HP1 : Hid (PP = N0 ++ N1) := by show _ = _; rw [HPK.out, HN0.out, hN1]; simp
    have hl1 : N1.length ≤ 65544 := by rw [hN1, List.length_append]; have := numB_len s.length; have := HSL.out; omega
    rw [← hN1]
    clear hN1
    go_wp2_with fail
    go_returns
    exact ⟨by rw [HP1.out]; rfl, hB2⟩
  by_cases hk3 : k = 3
  · subst hk3
    clear hk
    have hb0 : Below w.heap.size w (w.alloc (.cells #[.int .i64 3, .string (str s), .slice iao n ic, .slice tao m tc] 107)) := below_alloc1 _ _
    have hA0 : Blk (w.alloc (.cells #[.int .i64 3, .string (str s), .slice iao n ic, .slice tao m tc] 107)) w.heap.size #[.int .i64 3, .string (str s), .slice iao n ic, .slice tao m tc] 107 := Blk.new _ _ _
    have h0 := hA0.cell 0 _ rfl
    have h1 := hA0.cell 1 _ rfl
    have h2 := hA0.cell 2 _ rfl
    have h3 := hA0.cell 3 _ rfl
    have HSL : Hid (s.length ≤ 65536) := ((right_123 (by omega)).1 HRP.out).2.2
    have HPK : Hid (PP = numB 3 ++ numB s.length ++ s) := by
      show _ = _
      rw [HPK0.out]; simp [packP, encT]
    clear HRP HPK0
    go_enter Try.func61, Try.ntmps61
    go_wp2_with fail
    clear h0 h1 h2 h3
    refine (RefNum_calls 3 _ (by omega) (by omega)).mono ?_
    rintro e w1 ⟨rfl, bq⟩
    have hB1 := hb0.trans (bq.mono hb0.size)
    have hA1 := hA0.below bq hA0.lt
    clear bq hb0 hA0
    have h0 := hA1.cell 0 _ rfl
    have h1 := hA1.cell 1 _ rfl
    have h2 := hA1.cell 2 _ rfl
    have h3 := hA1.cell 3 _ rfl
    obtain ⟨N0, hN0⟩ : ∃ l, l = numB ((3 : Int).toNat) := ⟨_, rfl⟩
    have HN0 : Hid (N0 = numB 3) := hN0
    have hl0 : N0.length ≤ 8 := by rw [hN0]; exact numB_len _
    rw [← hN0]
    clear hN0
    go_wp2_with fail
    clear h0 h1 h2 h3
    refine (RefText_calls s _ (by have := HSL.out; omega)).mono ?_
    rintro e w2 ⟨rfl, bq⟩
    have hB2 := hB1.trans (bq.mono hB1.size)
    have hA2 := hA1.below bq hA1.lt
    clear bq hB1 hA1
    have h0 := hA2.cell 0 _ rfl
    have h1 := hA2.cell 1 _ rfl
    have h2 := hA2.cell 2 _ rfl
    have h3 := hA2.cell 3 _ rfl
    obtain ⟨N1, hN1⟩ : ∃ l, l = numB s.length ++ s := ⟨_, rfl⟩
    have HP1 : Hid (PP = N0 ++ N1) := by show _ = _; rw [HPK.out, HN0.out, hN1]; simp
    have hl1 : N1.length ≤ 65544 := by rw [hN1, List.length_append]; have := numB_len s.length; have := HSL.out; omega
    rw [← hN1]
    clear hN1
    go_wp2_with fail
    go_returns
    exact ⟨by rw [HP1.out]; rfl, hB2⟩
  by_cases hk4 : k = 4
  · subst hk4
    clear hk
    have hb0 : Below w.heap.size w (w.alloc (.cells #[.int .i64 4, .string (str s), .slice iao n ic, .slice tao m tc] 107)) := below_alloc1 _ _
    have hA0 : Blk (w.alloc (.cells #[.int .i64 4, .string (str s), .slice iao n ic, .slice tao m tc] 107)) w.heap.size #[.int .i64 4, .string (str s), .slice iao n ic, .slice tao m tc] 107 := Blk.new _ _ _
    have h0 := hA0.cell 0 _ rfl
    have h1 := hA0.cell 1 _ rfl
    have h2 := hA0.cell 2 _ rfl
    have h3 := hA0.cell 3 _ rfl
    have hnle : n ≤ 256 := by have := ((right_45 (by omega)).1 HRP.out).2.2.1; have := HN.out; omega
    have HPK : Hid (PP = numB 4 ++ numB n ++ ids.flatMap id) := by
      show _ = _
      rw [HPK0.out, HN.out]; simp [packP]
    clear HRP HPK0
    go_enter Try.func61, Try.ntmps61
    go_wp2_with fail
    clear h0 h1 h2 h3
    refine (RefNum_calls 4 _ (by omega) (by omega)).mono ?_
    rintro e w1 ⟨rfl, bq⟩
    have hB1 := hb0.trans (bq.mono hb0.size)
    have hA1 := hA0.below bq hA0.lt
    clear bq hb0 hA0
    have h0 := hA1.cell 0 _ rfl
    have h1 := hA1.cell 1 _ rfl
    have h2 := hA1.cell 2 _ rfl
    have h3 := hA1.cell 3 _ rfl
    obtain ⟨N0, hN0⟩ : ∃ l, l = numB ((4 : Int).toNat) := ⟨_, rfl⟩
    have HN0 : Hid (N0 = numB 4) := hN0
    have hl0 : N0.length ≤ 8 := by rw [hN0]; exact numB_len _
    rw [← hN0]
    clear hN0
    go_wp2_with fail
    clear h0 h1 h2 h3
    refine (RefNum_calls n _ (by omega) (by omega)).mono ?_
    rintro e w2 ⟨rfl, bq⟩
    have hB2 := hB1.trans (bq.mono hB1.size)
    have hA2 := hA1.below bq hA1.lt
    clear bq hB1 hA1
    have h0 := hA2.cell 0 _ rfl
    have h1 := hA2.cell 1 _ rfl
    have h2 := hA2.cell 2 _ rfl
    have h3 := hA2.cell 3 _ rfl
    obtain ⟨N1, hN1⟩ : ∃ l, l = numB (((n : Nat) : Int).toNat) := ⟨_, rfl⟩
    have HN1 : Hid (N1 = numB n) := by show _ = _; rw [hN1, Int.toNat_natCast]
    have hl1 : N1.length ≤ 8 := by rw [hN1]; exact numB_len _
    rw [← hN1]
    clear hN1
    go_wp2_with fail
    have hAh := Lib.hid hA2
    have hBh := Lib.hid hB2
    obtain ⟨B0, hB0⟩ : ∃ l, l = N0 ++ N1 := ⟨_, rfl⟩
    have HB0 := Lib.hid hB0
    have HB0l : Hid (B0.length ≤ 16) := by show _ ≤ _; rw [hB0, List.length_append, HN0.out, HN1.out]; have := numB_len n; have := numB_len 4; omega
    have hst : str (N0 ++ N1) = str B0 := by rw [hB0]
    rw [hst]
    clear hB0 hst
    clear h0 h1 h2 h3 hA2 hB2
    go_loopw [3, 4] (fun sv iv wr => ∃ (i : Nat) (bs : List UInt8), i ≤ n ∧ iv = .int .i64 i ∧ sv = .string (str bs) ∧ Hid (bs = B0 ++ (ids.take i).flatMap id) ∧ Hid (Blk wr w.heap.size #[.int .i64 4, .string (str s), .slice iao n ic, .slice tao m tc] 107) ∧ Hid (Below w.heap.size w wr)) (fun _ iv _ => n - (intOf iv).toNat)
    case atStart => exact ⟨0, B0, by omega, rfl, rfl, Lib.hid (by simp), hAh, hBh⟩
    case round =>
      obtain ⟨i, bs, hi, rfl, rfl, hS, hAr, hBr⟩ := hrel
      clear hAh hBh
      have h0 := hAr.out.cell 0 _ rfl
      have h2 := hAr.out.cell 2 _ rfl
      have h3 := hAr.out.cell 3 _ rfl
      have hbl : bs.length ≤ 10000000 := by
        rw [hS.out, List.length_append]
        have := HB0l.out
        have := flat32 (ids.take i) (fun x hx => HI.out.1 x (List.mem_of_mem_take hx)); rw [this, List.length_take]
        omega
      by_cases hlt2 : i < n
      · obtain ⟨x, hx⟩ : ∃ x, ids[i]? = some x := ⟨_, List.getElem?_eq_getElem (by rw [← HN.out]; exact hlt2)⟩
        have H32 : Hid (x.length = 32) := HI.out.1 x (List.mem_of_getElem? hx)
        obtain ⟨g, o, rfl, hrx⟩ := (HI.out.below hBr.out).range i x hx
        have hS5 : Hid (bs ++ x = B0 ++ (ids.take (i + 1)).flatMap id) := by
          show _ = _
          rw [flat_snoc id ids i x hx, hS.out]; simp [encT]
        clear hx hS
        go_wp2_with ((with_reducible show wpList _ _ _ (⟨some 38, _, _, _, _, _⟩ :: _) _ _); refine wpList_load_mid rfl 23 (.tmp 37) rfl g (o + i * 32) (by rfl) (x.map bv) _ hrx Try.underlying23 rfl (by rw [List.length_map, H32.out]; exact Try.sizeHash) ?_)
        clear h0 h2 h3
        refine (RefHash_calls x _ H32.out).mono ?_
        rintro e w6 ⟨rfl, bq⟩
        have hB6 := Lib.hid (hBr.out.trans (bq.mono hBr.out.size))
        have hA6 := Lib.hid (hAr.out.below bq hAr.out.lt)
        clear bq hBr hAr hrx
        obtain ⟨N2, hN2⟩ : ∃ l, l = x := ⟨_, rfl⟩
        have hl2 : N2.length ≤ 65544 := by rw [hN2]; have := H32.out; omega
        rw [← hN2] at hS5 ⊢
        clear hN2
        go_wp2_with fail
        go_roundw
        case rel => exact ⟨i + 1, bs ++ N2, by omega, by go_num, rfl, hS5, hA6, hB6⟩
        case measure => simp [intOf]; omega
      · obtain rfl : n = i := by omega
        have hP9 : Hid (PP = bs) := by
          show _ = _
          rw [hS.out, HPK.out, HB0.out, HN0.out, HN1.out, List.take_of_length_le (by have := HN.out; omega)]
        clear hS
        go_wp2_with fail
        go_returns
        exact ⟨by rw [hP9.out]; rfl, hBr.out⟩
  by_cases hk5 : k = 5
  · subst hk5
    clear hk
    have hb0 : Below w.heap.size w (w.alloc (.cells #[.int .i64 5, .string (str s), .slice iao n ic, .slice tao m tc] 107)) := below_alloc1 _ _
    have hA0 : Blk (w.alloc (.cells #[.int .i64 5, .string (str s), .slice iao n ic, .slice tao m tc] 107)) w.heap.size #[.int .i64 5, .string (str s), .slice iao n ic, .slice tao m tc] 107 := Blk.new _ _ _
    have h0 := hA0.cell 0 _ rfl
    have h1 := hA0.cell 1 _ rfl
    have h2 := hA0.cell 2 _ rfl
    have h3 := hA0.cell 3 _ rfl
    have hnle : n ≤ 256 := by have := ((right_45 (by omega)).1 HRP.out).2.2.1; have := HN.out; omega
    have HPK : Hid (PP = numB 5 ++ numB n ++ ids.flatMap id) := by
      show _ = _
      rw [HPK0.out, HN.out]; simp [packP]
    clear HRP HPK0
    go_enter Try.func61, Try.ntmps61
    go_wp2_with fail
    clear h0 h1 h2 h3
    refine (RefNum_calls 5 _ (by omega) (by omega)).mono ?_
    rintro e w1 ⟨rfl, bq⟩
    have hB1 := hb0.trans (bq.mono hb0.size)
    have hA1 := hA0.below bq hA0.lt
    clear bq hb0 hA0
    have h0 := hA1.cell 0 _ rfl
    have h1 := hA1.cell 1 _ rfl
    have h2 := hA1.cell 2 _ rfl
    have h3 := hA1.cell 3 _ rfl
    obtain ⟨N0, hN0⟩ : ∃ l, l = numB ((5 : Int).toNat) := ⟨_, rfl⟩
    have HN0 : Hid (N0 = numB 5) := hN0
    have hl0 : N0.length ≤ 8 := by rw [hN0]; exact numB_len _
    rw [← hN0]
    clear hN0
    go_wp2_with fail
    clear h0 h1 h2 h3
    refine (RefNum_calls n _ (by omega) (by omega)).mono ?_
    rintro e w2 ⟨rfl, bq⟩
    have hB2 := hB1.trans (bq.mono hB1.size)
    have hA2 := hA1.below bq hA1.lt
    clear bq hB1 hA1
    have h0 := hA2.cell 0 _ rfl
    have h1 := hA2.cell 1 _ rfl
    have h2 := hA2.cell 2 _ rfl
    have h3 := hA2.cell 3 _ rfl
    obtain ⟨N1, hN1⟩ : ∃ l, l = numB (((n : Nat) : Int).toNat) := ⟨_, rfl⟩
    have HN1 : Hid (N1 = numB n) := by show _ = _; rw [hN1, Int.toNat_natCast]
    have hl1 : N1.length ≤ 8 := by rw [hN1]; exact numB_len _
    rw [← hN1]
    clear hN1
    go_wp2_with fail
    have hAh := Lib.hid hA2
    have hBh := Lib.hid hB2
    obtain ⟨B0, hB0⟩ : ∃ l, l = N0 ++ N1 := ⟨_, rfl⟩
    have HB0 := Lib.hid hB0
    have HB0l : Hid (B0.length ≤ 16) := by show _ ≤ _; rw [hB0, List.length_append, HN0.out, HN1.out]; have := numB_len n; have := numB_len 5; omega
    have hst : str (N0 ++ N1) = str B0 := by rw [hB0]
    rw [hst]
    clear hB0 hst
    clear h0 h1 h2 h3 hA2 hB2
    go_loopw [3, 4] (fun sv iv wr => ∃ (i : Nat) (bs : List UInt8), i ≤ n ∧ iv = .int .i64 i ∧ sv = .string (str bs) ∧ Hid (bs = B0 ++ (ids.take i).flatMap id) ∧ Hid (Blk wr w.heap.size #[.int .i64 5, .string (str s), .slice iao n ic, .slice tao m tc] 107) ∧ Hid (Below w.heap.size w wr)) (fun _ iv _ => n - (intOf iv).toNat)
    case atStart => exact ⟨0, B0, by omega, rfl, rfl, Lib.hid (by simp), hAh, hBh⟩
    case round =>
      obtain ⟨i, bs, hi, rfl, rfl, hS, hAr, hBr⟩ := hrel
      clear hAh hBh
      have h0 := hAr.out.cell 0 _ rfl
      have h2 := hAr.out.cell 2 _ rfl
      have h3 := hAr.out.cell 3 _ rfl
      have hbl : bs.length ≤ 10000000 := by
        rw [hS.out, List.length_append]
        have := HB0l.out
        have := flat32 (ids.take i) (fun x hx => HI.out.1 x (List.mem_of_mem_take hx)); rw [this, List.length_take]
        omega
      by_cases hlt2 : i < n
      · obtain ⟨x, hx⟩ : ∃ x, ids[i]? = some x := ⟨_, List.getElem?_eq_getElem (by rw [← HN.out]; exact hlt2)⟩
        have H32 : Hid (x.length = 32) := HI.out.1 x (List.mem_of_getElem? hx)
        obtain ⟨g, o, rfl, hrx⟩ := (HI.out.below hBr.out).range i x hx
        have hS5 : Hid (bs ++ x = B0 ++ (ids.take (i + 1)).flatMap id) := by
          show _ = _
          rw [flat_snoc id ids i x hx, hS.out]; simp [encT]
        clear hx hS
        go_wp2_with ((with_reducible show wpList _ _ _ (⟨some 38, _, _, _, _, _⟩ :: _) _ _); refine wpList_load_mid rfl 23 (.tmp 37) rfl g (o + i * 32) (by rfl) (x.map bv) _ hrx Try.underlying23 rfl (by rw [List.length_map, H32.out]; exact Try.sizeHash) ?_)
        clear h0 h2 h3
        refine (RefHash_calls x _ H32.out).mono ?_
        rintro e w6 ⟨rfl, bq⟩
        have hB6 := Lib.hid (hBr.out.trans (bq.mono hBr.out.size))
        have hA6 := Lib.hid (hAr.out.below bq hAr.out.lt)
        clear bq hBr hAr hrx
        obtain ⟨N2, hN2⟩ : ∃ l, l = x := ⟨_, rfl⟩
        have hl2 : N2.length ≤ 65544 := by rw [hN2]; have := H32.out; omega
        rw [← hN2] at hS5 ⊢
        clear hN2
        go_wp2_with fail
        go_roundw
        case rel => exact ⟨i + 1, bs ++ N2, by omega, by go_num, rfl, hS5, hA6, hB6⟩
        case measure => simp [intOf]; omega
      · obtain rfl : n = i := by omega
        have hP9 : Hid (PP = bs) := by
          show _ = _
          rw [hS.out, HPK.out, HB0.out, HN0.out, HN1.out, List.take_of_length_le (by have := HN.out; omega)]
        clear hS
        go_wp2_with fail
        go_returns
        exact ⟨by rw [hP9.out]; rfl, hBr.out⟩
  by_cases hk6 : k = 6
  · subst hk6
    clear hk
    have hb0 : Below w.heap.size w (w.alloc (.cells #[.int .i64 6, .string (str s), .slice iao n ic, .slice tao m tc] 107)) := below_alloc1 _ _
    have hA0 : Blk (w.alloc (.cells #[.int .i64 6, .string (str s), .slice iao n ic, .slice tao m tc] 107)) w.heap.size #[.int .i64 6, .string (str s), .slice iao n ic, .slice tao m tc] 107 := Blk.new _ _ _
    have h0 := hA0.cell 0 _ rfl
    have h1 := hA0.cell 1 _ rfl
    have h2 := hA0.cell 2 _ rfl
    have h3 := hA0.cell 3 _ rfl
    have hmle : m ≤ 64 := by have := ((right_6 rfl).1 HRP.out).2.2.1; have := HM.out; omega
    have HTS : Hid (∀ t ∈ ts, t.length ≤ 65536) := ((right_6 rfl).1 HRP.out).2.2.2
    have HPK : Hid (PP = numB 6 ++ numB m ++ ts.flatMap encT) := by
      show _ = _
      rw [HPK0.out, HM.out]; simp [packP]
    clear HRP HPK0
    go_enter Try.func61, Try.ntmps61
    go_wp2_with fail
    clear h0 h1 h2 h3
    refine (RefNum_calls 6 _ (by omega) (by omega)).mono ?_
    rintro e w1 ⟨rfl, bq⟩
    have hB1 := hb0.trans (bq.mono hb0.size)
    have hA1 := hA0.below bq hA0.lt
    clear bq hb0 hA0
    have h0 := hA1.cell 0 _ rfl
    have h1 := hA1.cell 1 _ rfl
    have h2 := hA1.cell 2 _ rfl
    have h3 := hA1.cell 3 _ rfl
    obtain ⟨N0, hN0⟩ : ∃ l, l = numB ((6 : Int).toNat) := ⟨_, rfl⟩
    have HN0 : Hid (N0 = numB 6) := hN0
    have hl0 : N0.length ≤ 8 := by rw [hN0]; exact numB_len _
    rw [← hN0]
    clear hN0
    go_wp2_with fail
    clear h0 h1 h2 h3
    refine (RefNum_calls m _ (by omega) (by omega)).mono ?_
    rintro e w2 ⟨rfl, bq⟩
    have hB2 := hB1.trans (bq.mono hB1.size)
    have hA2 := hA1.below bq hA1.lt
    clear bq hB1 hA1
    have h0 := hA2.cell 0 _ rfl
    have h1 := hA2.cell 1 _ rfl
    have h2 := hA2.cell 2 _ rfl
    have h3 := hA2.cell 3 _ rfl
    obtain ⟨N1, hN1⟩ : ∃ l, l = numB (((m : Nat) : Int).toNat) := ⟨_, rfl⟩
    have HN1 : Hid (N1 = numB m) := by show _ = _; rw [hN1, Int.toNat_natCast]
    have hl1 : N1.length ≤ 8 := by rw [hN1]; exact numB_len _
    rw [← hN1]
    clear hN1
    go_wp2_with fail
    have hAh := Lib.hid hA2
    have hBh := Lib.hid hB2
    obtain ⟨B0, hB0⟩ : ∃ l, l = N0 ++ N1 := ⟨_, rfl⟩
    have HB0 := Lib.hid hB0
    have HB0l : Hid (B0.length ≤ 16) := by show _ ≤ _; rw [hB0, List.length_append, HN0.out, HN1.out]; have := numB_len m; have := numB_len 6; omega
    have hst : str (N0 ++ N1) = str B0 := by rw [hB0]
    rw [hst]
    clear hB0 hst
    clear h0 h1 h2 h3 hA2 hB2
    go_loopw [3, 5] (fun sv iv wr => ∃ (i : Nat) (bs : List UInt8), i ≤ m ∧ iv = .int .i64 i ∧ sv = .string (str bs) ∧ Hid (bs = B0 ++ (ts.take i).flatMap encT) ∧ Hid (Blk wr w.heap.size #[.int .i64 6, .string (str s), .slice iao n ic, .slice tao m tc] 107) ∧ Hid (Below w.heap.size w wr)) (fun _ iv _ => m - (intOf iv).toNat)
    case atStart => exact ⟨0, B0, by omega, rfl, rfl, Lib.hid (by simp), hAh, hBh⟩
    case round =>
      obtain ⟨i, bs, hi, rfl, rfl, hS, hAr, hBr⟩ := hrel
      clear hAh hBh
      have h0 := hAr.out.cell 0 _ rfl
      have h2 := hAr.out.cell 2 _ rfl
      have h3 := hAr.out.cell 3 _ rfl
      have hbl : bs.length ≤ 10000000 := by
        rw [hS.out, List.length_append]
        have := HB0l.out
        have := flatT (ts.take i) (fun x hx => HTS.out x (List.mem_of_mem_take hx)); rw [List.length_take] at this
        omega
      by_cases hlt2 : i < m
      · obtain ⟨x, hx⟩ : ∃ x, ts[i]? = some x := ⟨_, List.getElem?_eq_getElem (by rw [← HM.out]; exact hlt2)⟩
        have HX : Hid (x.length ≤ 65536) := HTS.out x (List.mem_of_getElem? hx)
        obtain ⟨g, o, rfl, hrg⟩ := (HT.out.below hBr.out).range sCells_len i x hx
        have hrx : wr.cell? ⟨g, o + i, none⟩ = some (.string (str x)) := by have := hrg 0 _ rfl; rwa [Nat.mul_one] at this
        clear hrg
        have hS5 : Hid (bs ++ (numB x.length ++ x) = B0 ++ (ts.take (i + 1)).flatMap encT) := by
          show _ = _
          rw [flat_snoc encT ts i x hx, hS.out]; simp [encT]
        clear hx hS
        go_wp2_with fail
        clear h0 h2 h3
        refine (RefText_calls x _ (by have := HX.out; omega)).mono ?_
        rintro e w6 ⟨rfl, bq⟩
        have hB6 := Lib.hid (hBr.out.trans (bq.mono hBr.out.size))
        have hA6 := Lib.hid (hAr.out.below bq hAr.out.lt)
        clear bq hBr hAr hrx
        obtain ⟨N2, hN2⟩ : ∃ l, l = (numB x.length ++ x) := ⟨_, rfl⟩
        have hl2 : N2.length ≤ 65544 := by rw [hN2]; rw [List.length_append]; have := numB_len x.length; have := HX.out; omega
        rw [← hN2] at hS5 ⊢
        clear hN2
        go_wp2_with fail
        go_roundw
        case rel => exact ⟨i + 1, bs ++ N2, by omega, by go_num, rfl, hS5, hA6, hB6⟩
        case measure => simp [intOf]; omega
      · obtain rfl : m = i := by omega
        have hP9 : Hid (PP = bs) := by
          show _ = _
          rw [hS.out, HPK.out, HB0.out, HN0.out, HN1.out, List.take_of_length_le (by have := HM.out; omega)]
        clear hS
        go_wp2_with fail
        go_returns
        exact ⟨by rw [hP9.out]; rfl, hBr.out⟩
  omega
end Go.Proofs.Ytlomofcnknpciaa
