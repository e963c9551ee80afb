/-
  glean.Pack.
-/
import Derived.Test.YtlomofcnknpciaaGleanRight
import Derived.Test.YtlomofcnknpciaaWireW2
import Derived.WalkLawsBesides
import Derived.Outline
import Derived.Handy
import Derived.Deep.RegionHeld
set_option linter.unusedSimpArgs false
set_option linter.unusedVariables false
namespace Go.Proofs.Ytlomofcnknpciaa
open Go.RowKit

theorem writer_grownG {base b g : Nat} {w w' : World} {bs : List UInt8} {bad : Bool} {cs : Array Value} {ty : TypeId} (h : WriterIs base w b bs bad) (gr : w.grownBy w' (some g)) (hg : Blk w g cs ty) (h1 : ty ≠ 5 := by decide) (h2 : ty ≠ 222 := by decide) : WriterIs base w' b bs bad := by
  obtain ⟨h0, v, h3, h4⟩ := h
  have hne : b ≠ g := fun e => by
    subst e
    unfold Blk at h3 hg
    rw [h3] at hg
    simp at hg
    exact h2 hg.2.symm
  exact ⟨h0, v, h3.grown gr (by simpa using hne), h4.kept gr (.inr (own_ne h4 hg (Ne.symm h1)))⟩
theorem WriterIs.belowW {base : Nat} {w w' : World} {b : Nat} {bs : List UInt8} {bad : Bool} (h : WriterIs base w b bs bad) (b2 : Below w.heap.size w w') : WriterIs base w' b bs bad := h.below (B := 0) fun k _ hl => b2.block k hl
theorem flat32 : ∀ (l : List HsT), (∀ x ∈ l, x.length = 32) → (l.flatMap id).length = 32 * l.length
  | [], _ => rfl
  | x :: l, h => by
    rw [List.flatMap_cons, List.length_append, flat32 l (fun y hy => h y (List.mem_cons_of_mem _ hy)), show (id x).length = 32 from h x List.mem_cons_self, List.length_cons]; omega
theorem flatT : ∀ (l : List (List UInt8)), (∀ x ∈ l, x.length ≤ 65536) → (l.flatMap encT).length ≤ 65544 * l.length
  | [], _ => by simp
  | x :: l, h => by
    have h1 := flatT l (fun y hy => h y (List.mem_cons_of_mem _ hy))
    have h2 := h x List.mem_cons_self
    have h3 := numB_len x.length
    rw [List.flatMap_cons, List.length_append, List.length_cons, encT, List.length_append]; omega
theorem flat_snoc {α : Type} (enc : α → List UInt8) (l : List α) (i : Nat) (x : α) (h : l[i]? = some x) : (l.take (i + 1)).flatMap enc = (l.take i).flatMap enc ++ enc x := by
  rw [List.take_add_one, h, List.flatMap_append]; simp
set_option maxHeartbeats 16000000 in
set_option maxRecDepth 100000 in
theorem GPack_no (p : Pk) (iv tv : Value) (w : World) (hi : HashesAt w iv p.ids) (ht : TxAt w tv p.ts) (hn1 : p.ids.length ≤ 1000) (hn2 : p.ts.length ≤ 1000) (hsm : p.s.length ≤ maxLen) (htm : ∀ t ∈ p.ts, t.length ≤ maxLen) (hno : ¬ RightP p) :
    Calls Try.prog 59 #[.agg #[.int .i64 p.k, .string (str p.s), iv, tv]] w fun e w' => e = .returned (.string (str [])) ∧ Below w.heap.size w w' := by
  have hb0 : Below w.heap.size w (w.alloc (.cells #[.int .i64 p.k, .string (str p.s), iv, tv] 109)) := below_alloc1 _ _
  have cR := GRight_calls p iv tv _ (hi.below hb0) (ht.below hb0) hn1 hn2 hsm htm false (by simpa using hno)
  have hA0 : Blk (w.alloc (.cells #[.int .i64 p.k, .string (str p.s), iv, tv] 109)) w.heap.size #[.int .i64 p.k, .string (str p.s), iv, tv] 109 := Blk.new _ _ _
  have h0 := hA0.cell 0 _ rfl
  have h1 := hA0.cell 1 _ rfl
  have h2 := hA0.cell 2 _ rfl
  have h3 := hA0.cell 3 _ rfl
  clear hi ht htm hno
  go_enter Try.func59, Try.ntmps59
  go_wp2_with fail
  refine cR.mono ?_
  rintro e w5 ⟨rfl, b5⟩
  have hb5 := hb0.trans (b5.mono hb0.size)
  clear cR b5 hb0 hA0 h0 h1 h2 h3
  go_wp2_with fail
  go_returns
  exact ⟨rfl, hb5⟩
set_option maxHeartbeats 16000000 in
set_option maxRecDepth 100000 in
theorem GPack_calls (p : Pk) (iv tv : Value) (w : World) (hi : HashesAt w iv p.ids) (ht : TxAt w tv p.ts) (hn1 : p.ids.length ≤ 1000) (hn2 : p.ts.length ≤ 1000) (hsm : p.s.length ≤ maxLen) (htm : ∀ t ∈ p.ts, t.length ≤ maxLen) (hr : RightP p) :
    Calls Try.prog 59 #[.agg #[.int .i64 p.k, .string (str p.s), iv, tv]] w fun e w' => e = .returned (.string (str (packP p))) ∧ Below w.heap.size w w' := by
  obtain ⟨k, s, ids, ts⟩ := p
  obtain ⟨iao, ic, rfl, _⟩ := hi.slice
  obtain ⟨tao, tc, rfl⟩ := ht.slice
  have HI := Lib.hid hi
  have HT := Lib.hid ht
  have HRP := Lib.hid hr
  have HTM := Lib.hid htm
  simp only at hn1 hn2 hsm HI HT HTM ⊢
  obtain ⟨n, hnn⟩ : ∃ n, n = ids.length := ⟨_, rfl⟩
  obtain ⟨m, hmm⟩ : ∃ m, m = ts.length := ⟨_, rfl⟩
  have HN := Lib.hid hnn
  have HM := Lib.hid hmm
  have cR : ∀ y, Below w.heap.size w y → Calls Try.prog 58 #[.agg #[.int .i64 k, .string (str s), .slice iao n ic, .slice tao m tc]] y fun e w' => e = .returned (.bool true) ∧ Below y.heap.size y w' := fun y hy => by
    rw [hnn, hmm]
    exact GRight_calls ⟨k, s, ids, ts⟩ _ _ y (HI.out.below hy) (HT.out.below hy) hn1 hn2 hsm HTM.out true (by simpa using HRP.out)
  obtain ⟨PP, hPP⟩ : ∃ P, P = packP ⟨k, s, ids, ts⟩ := ⟨_, rfl⟩
  have HPK0 := Lib.hid hPP
  rw [← hPP]
  rw [← hnn] at hn1 HI ⊢
  rw [← hmm] at hn2 HT ⊢
  unfold maxLen at hsm
  clear hi ht hnn hmm htm hr hPP
  have hk : 1 ≤ k ∧ k ≤ 6 := by rcases HRP.out with h | h | h <;> (simp only at h; omega)
  by_cases hk1 : k = 1
  · subst hk1
    clear hk
    have hb0 : Below w.heap.size w (w.alloc (.cells #[.int .i64 1, .string (str s), .slice iao n ic, .slice tao m tc] 109)) := below_alloc1 _ _
    have hA0 : Blk (w.alloc (.cells #[.int .i64 1, .string (str s), .slice iao n ic, .slice tao m tc] 109)) w.heap.size #[.int .i64 1, .string (str s), .slice iao n ic, .slice tao m tc] 109 := Blk.new _ _ _
    have h0 := hA0.cell 0 _ rfl
    have h1 := hA0.cell 1 _ rfl
    have h2 := hA0.cell 2 _ rfl
    have h3 := hA0.cell 3 _ rfl
    have cR := cR _ hb0
    have HSL : Hid (s.length ≤ 65536) := ((right_123 (by omega)).1 HRP.out).2.2
    have HPK : Hid (PP = numB 1 ++ numB s.length ++ s) := by
      show _ = _
      rw [HPK0.out]; simp [packP, encT]
    clear HRP HPK0
    go_enter Try.func59, Try.ntmps59
    go_wp2_with fail
    refine cR.mono ?_
    rintro e w1 ⟨rfl, b1⟩
    have hA1 := hA0.below b1 hA0.lt
    have hB1 := hb0.trans (b1.mono hb0.size)
    clear b1 hA0 hb0 cR h0 h1 h2 h3
    go_wp2_with fail
    refine (New_calls _).mono ?_
    rintro e w2 ⟨rfl, hw2, b2⟩
    have hA2 := hA1.below b2 hA1.lt
    have hlt := hA1.lt
    obtain ⟨B, hBB⟩ : ∃ n, n = w1.heap.size := ⟨_, rfl⟩
    rw [← hBB] at hw2 b2 hlt ⊢
    have HW2 := Lib.hid hw2
    have hB2 := hB1.trans (b2.mono (by have := hB1.size; omega))
    have hs2 : B ≤ w2.heap.size := by have := b2.size; omega
    have h0 := hA2.cell 0 _ rfl
    have hwB : w.heap.size ≤ B := by have := hB1.size; omega
    clear hA1 hB1 hw2 b2 hBB
    go_wp2_with fail
    refine (num_calls B B [] false 1 _ HW2.out hs2 (by simp) (by omega) (by omega)).mono ?_
    rintro e w3 ⟨rfl, hw3, k3⟩
    have hB3 := hB2.trans (k3.below.mono hwB)
    have hA3 := hA2.below (k3.below.mono (Nat.le_refl _)) hlt
    have HW3 : Hid (WriterIs B w3 B (numB 1) false) := hw3
    have hs3 : B ≤ w3.heap.size := Nat.le_trans hs2 k3.below.size
    have h0 := hA3.cell 0 _ rfl
    have h1 := hA3.cell 1 _ rfl
    have h2 := hA3.cell 2 _ rfl
    have h3 := hA3.cell 3 _ rfl
    clear hA2 hB2 hw3 k3 HW2 hs2
    go_wp2_with fail
    refine (textOk_calls B B (numB 1) false s _ HW3.out hs3 (by have := numB_len 1; omega) HSL.out).mono ?_
    rintro e w4 ⟨rfl, hw4, k4⟩
    have hB4 := hB3.trans (k4.below.mono hwB)
    have HW4 := Lib.hid hw4
    clear hw4 k4 HW3 hB3 hA3 h0 h1 h2 h3
    go_wp2_with fail
    refine (endOk_calls B B PP _ (by rw [HPK.out]; exact HW4.out)).mono ?_
    rintro e w9 ⟨rfl, hw9⟩
    subst hw9
    go_wp2_with fail
    go_returns
    exact ⟨rfl, hB4⟩
  by_cases hk2 : k = 2
  · subst hk2
    clear hk
    have hb0 : Below w.heap.size w (w.alloc (.cells #[.int .i64 2, .string (str s), .slice iao n ic, .slice tao m tc] 109)) := below_alloc1 _ _
    have hA0 : Blk (w.alloc (.cells #[.int .i64 2, .string (str s), .slice iao n ic, .slice tao m tc] 109)) w.heap.size #[.int .i64 2, .string (str s), .slice iao n ic, .slice tao m tc] 109 := Blk.new _ _ _
    have h0 := hA0.cell 0 _ rfl
    have h1 := hA0.cell 1 _ rfl
    have h2 := hA0.cell 2 _ rfl
    have h3 := hA0.cell 3 _ rfl
    have cR := cR _ hb0
    have HSL : Hid (s.length ≤ 65536) := ((right_123 (by omega)).1 HRP.out).2.2
    have HPK : Hid (PP = numB 2 ++ numB s.length ++ s) := by
      show _ = _
      rw [HPK0.out]; simp [packP, encT]
    clear HRP HPK0
    go_enter Try.func59, Try.ntmps59
    go_wp2_with fail
    refine cR.mono ?_
    rintro e w1 ⟨rfl, b1⟩
    have hA1 := hA0.below b1 hA0.lt
    have hB1 := hb0.trans (b1.mono hb0.size)
    clear b1 hA0 hb0 cR h0 h1 h2 h3
    go_wp2_with fail
    refine (New_calls _).mono ?_
    rintro e w2 ⟨rfl, hw2, b2⟩
    have hA2 := hA1.below b2 hA1.lt
    have hlt := hA1.lt
    obtain ⟨B, hBB⟩ : ∃ n, n = w1.heap.size := ⟨_, rfl⟩
    rw [← hBB] at hw2 b2 hlt ⊢
    have HW2 := Lib.hid hw2
    have hB2 := hB1.trans (b2.mono (by have := hB1.size; omega))
    have hs2 : B ≤ w2.heap.size := by have := b2.size; omega
    have h0 := hA2.cell 0 _ rfl
    have hwB : w.heap.size ≤ B := by have := hB1.size; omega
    clear hA1 hB1 hw2 b2 hBB
    go_wp2_with fail
    refine (num_calls B B [] false 2 _ HW2.out hs2 (by simp) (by omega) (by omega)).mono ?_
    rintro e w3 ⟨rfl, hw3, k3⟩
    have hB3 := hB2.trans (k3.below.mono hwB)
    have hA3 := hA2.below (k3.below.mono (Nat.le_refl _)) hlt
    have HW3 : Hid (WriterIs B w3 B (numB 2) false) := hw3
    have hs3 : B ≤ w3.heap.size := Nat.le_trans hs2 k3.below.size
    have h0 := hA3.cell 0 _ rfl
    have h1 := hA3.cell 1 _ rfl
    have h2 := hA3.cell 2 _ rfl
    have h3 := hA3.cell 3 _ rfl
    clear hA2 hB2 hw3 k3 HW2 hs2
    go_wp2_with fail
    refine (textOk_calls B B (numB 2) false s _ HW3.out hs3 (by have := numB_len 2; omega) HSL.out).mono ?_
    rintro e w4 ⟨rfl, hw4, k4⟩
    have hB4 := hB3.trans (k4.below.mono hwB)
    have HW4 := Lib.hid hw4
    clear hw4 k4 HW3 hB3 hA3 h0 h1 h2 h3
    go_wp2_with fail
    refine (endOk_calls B B PP _ (by rw [HPK.out]; exact HW4.out)).mono ?_
    rintro e w9 ⟨rfl, hw9⟩
    subst hw9
    go_wp2_with fail
    go_returns
    exact ⟨rfl, hB4⟩
  by_cases hk3 : k = 3
  · subst hk3
    clear hk
    have hb0 : Below w.heap.size w (w.alloc (.cells #[.int .i64 3, .string (str s), .slice iao n ic, .slice tao m tc] 109)) := below_alloc1 _ _
    have hA0 : Blk (w.alloc (.cells #[.int .i64 3, .string (str s), .slice iao n ic, .slice tao m tc] 109)) w.heap.size #[.int .i64 3, .string (str s), .slice iao n ic, .slice tao m tc] 109 := Blk.new _ _ _
    have h0 := hA0.cell 0 _ rfl
    have h1 := hA0.cell 1 _ rfl
    have h2 := hA0.cell 2 _ rfl
    have h3 := hA0.cell 3 _ rfl
    have cR := cR _ hb0
    have HSL : Hid (s.length ≤ 65536) := ((right_123 (by omega)).1 HRP.out).2.2
    have HPK : Hid (PP = numB 3 ++ numB s.length ++ s) := by
      show _ = _
      rw [HPK0.out]; simp [packP, encT]
    clear HRP HPK0
    go_enter Try.func59, Try.ntmps59
    go_wp2_with fail
    refine cR.mono ?_
    rintro e w1 ⟨rfl, b1⟩
    have hA1 := hA0.below b1 hA0.lt
    have hB1 := hb0.trans (b1.mono hb0.size)
    clear b1 hA0 hb0 cR h0 h1 h2 h3
    go_wp2_with fail
    refine (New_calls _).mono ?_
    rintro e w2 ⟨rfl, hw2, b2⟩
    have hA2 := hA1.below b2 hA1.lt
    have hlt := hA1.lt
    obtain ⟨B, hBB⟩ : ∃ n, n = w1.heap.size := ⟨_, rfl⟩
    rw [← hBB] at hw2 b2 hlt ⊢
    have HW2 := Lib.hid hw2
    have hB2 := hB1.trans (b2.mono (by have := hB1.size; omega))
    have hs2 : B ≤ w2.heap.size := by have := b2.size; omega
    have h0 := hA2.cell 0 _ rfl
    have hwB : w.heap.size ≤ B := by have := hB1.size; omega
    clear hA1 hB1 hw2 b2 hBB
    go_wp2_with fail
    refine (num_calls B B [] false 3 _ HW2.out hs2 (by simp) (by omega) (by omega)).mono ?_
    rintro e w3 ⟨rfl, hw3, k3⟩
    have hB3 := hB2.trans (k3.below.mono hwB)
    have hA3 := hA2.below (k3.below.mono (Nat.le_refl _)) hlt
    have HW3 : Hid (WriterIs B w3 B (numB 3) false) := hw3
    have hs3 : B ≤ w3.heap.size := Nat.le_trans hs2 k3.below.size
    have h0 := hA3.cell 0 _ rfl
    have h1 := hA3.cell 1 _ rfl
    have h2 := hA3.cell 2 _ rfl
    have h3 := hA3.cell 3 _ rfl
    clear hA2 hB2 hw3 k3 HW2 hs2
    go_wp2_with fail
    refine (textOk_calls B B (numB 3) false s _ HW3.out hs3 (by have := numB_len 3; omega) HSL.out).mono ?_
    rintro e w4 ⟨rfl, hw4, k4⟩
    have hB4 := hB3.trans (k4.below.mono hwB)
    have HW4 := Lib.hid hw4
    clear hw4 k4 HW3 hB3 hA3 h0 h1 h2 h3
    go_wp2_with fail
    refine (endOk_calls B B PP _ (by rw [HPK.out]; exact HW4.out)).mono ?_
    rintro e w9 ⟨rfl, hw9⟩
    subst hw9
    go_wp2_with fail
    go_returns
    exact ⟨rfl, hB4⟩
  by_cases hk4 : k = 4
  · subst hk4
    clear hk
    have hb0 : Below w.heap.size w (w.alloc (.cells #[.int .i64 4, .string (str s), .slice iao n ic, .slice tao m tc] 109)) := below_alloc1 _ _
    have hA0 : Blk (w.alloc (.cells #[.int .i64 4, .string (str s), .slice iao n ic, .slice tao m tc] 109)) w.heap.size #[.int .i64 4, .string (str s), .slice iao n ic, .slice tao m tc] 109 := Blk.new _ _ _
    have h0 := hA0.cell 0 _ rfl
    have h1 := hA0.cell 1 _ rfl
    have h2 := hA0.cell 2 _ rfl
    have h3 := hA0.cell 3 _ rfl
    have cR := cR _ hb0
    have hnle : n ≤ 256 := by have := ((right_45 (by omega)).1 HRP.out).2.2.1; have := HN.out; omega
    have HPK : Hid (PP = numB 4 ++ numB n ++ ids.flatMap id) := by
      show _ = _
      rw [HPK0.out, HN.out]; simp [packP]
    clear HRP HPK0
    go_enter Try.func59, Try.ntmps59
    go_wp2_with fail
    refine cR.mono ?_
    rintro e w1 ⟨rfl, b1⟩
    have hA1 := hA0.below b1 hA0.lt
    have hB1 := hb0.trans (b1.mono hb0.size)
    clear b1 hA0 hb0 cR h0 h1 h2 h3
    go_wp2_with fail
    refine (New_calls _).mono ?_
    rintro e w2 ⟨rfl, hw2, b2⟩
    have hA2 := hA1.below b2 hA1.lt
    have hlt := hA1.lt
    obtain ⟨B, hBB⟩ : ∃ n, n = w1.heap.size := ⟨_, rfl⟩
    rw [← hBB] at hw2 b2 hlt ⊢
    have HW2 := Lib.hid hw2
    have hB2 := hB1.trans (b2.mono (by have := hB1.size; omega))
    have hs2 : B ≤ w2.heap.size := by have := b2.size; omega
    have h0 := hA2.cell 0 _ rfl
    have hwB : w.heap.size ≤ B := by have := hB1.size; omega
    clear hA1 hB1 hw2 b2 hBB
    go_wp2_with fail
    refine (num_calls B B [] false 4 _ HW2.out hs2 (by simp) (by omega) (by omega)).mono ?_
    rintro e w3 ⟨rfl, hw3, k3⟩
    have hB3 := hB2.trans (k3.below.mono hwB)
    have hA3 := hA2.below (k3.below.mono (Nat.le_refl _)) hlt
    have HW3 : Hid (WriterIs B w3 B (numB 4) false) := hw3
    have hs3 : B ≤ w3.heap.size := Nat.le_trans hs2 k3.below.size
    have h0 := hA3.cell 0 _ rfl
    have h1 := hA3.cell 1 _ rfl
    have h2 := hA3.cell 2 _ rfl
    have h3 := hA3.cell 3 _ rfl
    clear hA2 hB2 hw3 k3 HW2 hs2
    go_wp2_with fail
    refine (num_calls B B (numB 4) false n _ HW3.out hs3 (by have := numB_len 4; omega) (by omega) (by omega)).mono ?_
    rintro e w4 ⟨rfl, hw4, k4⟩
    have hB4 := hB3.trans (k4.below.mono hwB)
    have hA4 := hA3.below k4.below hlt
    rw [Int.toNat_natCast] at hw4
    have HW4 := Lib.hid hw4
    have hs4 : B ≤ w4.heap.size := Nat.le_trans hs3 k4.below.size
    have h2 := hA4.cell 2 _ rfl
    clear hw4 k4 HW3 hB3 hA3 hs3
    go_wp2_with fail
    clear h0 h1 h2 h3 hA4
    have hB0 := Lib.hid hB4
    have HS4 := Lib.hid hs4
    clear hB4 hs4
    go_loopw [35] (fun iv wr => ∃ i : Nat, i ≤ n ∧ iv = .int .i64 i ∧ Hid (WriterIs B wr B (numB 4 ++ numB n ++ (ids.take i).flatMap id) false) ∧ Hid (Below w.heap.size w wr) ∧ Hid (B ≤ wr.heap.size)) (fun iv _ => n - (intOf iv).toNat)
    case atStart => exact ⟨0, by omega, rfl, Lib.hid (by simpa using HW4.out), hB0, HS4⟩
    case round =>
      obtain ⟨i, hi, rfl, hW, hBr, hSr⟩ := hrel
      clear HW4 hB0 HS4
      by_cases hlt2 : i < n
      · obtain ⟨c, hc⟩ : ∃ c, ids[i]? = some c := ⟨_, List.getElem?_eq_getElem (by rw [← HN.out]; exact hlt2)⟩
        have H32 : Hid (c.length = 32) := HI.out.1 c (List.mem_of_getElem? hc)
        obtain ⟨g, o, rfl, hrg⟩ := (HI.out.below hBr.out).range i c hc
        have HNX : Hid (numB 4 ++ numB n ++ (ids.take (i + 1)).flatMap id = (numB 4 ++ numB n ++ (ids.take i).flatMap id) ++ c) := by
          show _ = _
          rw [flat_snoc id ids i c hc]; simp
        have hwl : w.heap.size ≤ wr.heap.size := hBr.out.size
        clear hc
        go_wp2_with (first | ((with_reducible show wpList _ _ _ (⟨some 38, _, _, _, _, _⟩ :: _) _ _); refine wpList_load_mid rfl 23 (.tmp 37) rfl g (o + i * 32) (by rfl) (c.map bv) _ hrg Try.underlying23 rfl (by rw [List.length_map, H32.out]; exact Try.sizeHash) ?_) | ((with_reducible show wpList _ _ _ (⟨some 5, _, _, _, _, _⟩ :: _) _ _); refine wpList_allocZ rfl 23 rfl _ Try.zeroHash ?_; intro wa sa ba na) | ((with_reducible show wpList _ _ _ (⟨none, Op.store _ (.tmp 5) _, _, _, _, _⟩ :: _) _ _); refine wpList_storeBlk rfl 23 (.tmp 5) (.tmp 38) rfl (wr.heap.size) ((c.map bv).toArray) (by rfl) (by rfl) _ _ na (by rw [bv_size, H32.out]; exact Try.sizeHash) (by rw [bv_size, H32.out, Z32_size]) (bv_all _) ?_; intro w5 hB5 g5; have hW5 := Lib.hid (writer_grownG (hW.out.belowW ba) g5 na); have bb5 := below_new ba g5 (Nat.le_refl _) ba.size; have hBB5 := Lib.hid (hBr.out.trans (bb5.mono hwl)); have hSS5 := Lib.hid (Nat.le_trans hSr.out bb5.size); clear bb5 ba na g5 sa hW hBr hSr hrg) | ((with_reducible show wpList _ _ _ (⟨some 40, _, _, _, _, _⟩ :: _) _ _); refine wpList_load_mid rfl 23 (.tmp 5) rfl (wr.heap.size) 0 (by rfl) (c.map bv) _ (blk_rangeP hB5) Try.underlying23 rfl (by rw [List.length_map, H32.out]; exact Try.sizeHash) ?_))
        refine (hash_calls B B _ c false _ hW5.out hSS5.out (by have := numB_len 4; have := numB_len n; have := flat32 (ids.take i) (fun x hx => HI.out.1 x (List.mem_of_mem_take hx)); rw [List.length_append, List.length_append, this, List.length_take]; omega) H32.out).mono ?_
        rintro e w6 ⟨rfl, hw6, k6⟩
        have hW6 : Hid (WriterIs B w6 B (numB 4 ++ numB n ++ (ids.take (i + 1)).flatMap id) false) := by
          show WriterIs _ _ _ _ _
          rw [HNX.out]; exact hw6
        have hB6 := Lib.hid (hBB5.out.trans (k6.below.mono hwB))
        have hS6 := Lib.hid (Nat.le_trans hSS5.out k6.below.size)
        clear hw6 k6 hW5 hBB5 hSS5 hB5
        go_wp2_with fail
        go_roundw
        case rel => exact ⟨i + 1, by omega, by go_num, hW6, hB6, hS6⟩
        case measure => simp [intOf]; omega
      · obtain rfl : n = i := by omega
        have hWl : Hid (WriterIs B wr B (numB 4 ++ numB n ++ ids.flatMap id) false) := by
          have := hW.out
          rwa [List.take_of_length_le (by have := HN.out; omega)] at this
        clear hW
        go_wp2_with fail
        refine (endOk_calls B B PP _ (by rw [HPK.out]; exact hWl.out)).mono ?_
        rintro e w9 ⟨rfl, hw9⟩
        subst hw9
        go_wp2_with fail
        go_returns
        exact ⟨rfl, hBr.out⟩
  by_cases hk5 : k = 5
  · subst hk5
    clear hk
    have hb0 : Below w.heap.size w (w.alloc (.cells #[.int .i64 5, .string (str s), .slice iao n ic, .slice tao m tc] 109)) := below_alloc1 _ _
    have hA0 : Blk (w.alloc (.cells #[.int .i64 5, .string (str s), .slice iao n ic, .slice tao m tc] 109)) w.heap.size #[.int .i64 5, .string (str s), .slice iao n ic, .slice tao m tc] 109 := Blk.new _ _ _
    have h0 := hA0.cell 0 _ rfl
    have h1 := hA0.cell 1 _ rfl
    have h2 := hA0.cell 2 _ rfl
    have h3 := hA0.cell 3 _ rfl
    have cR := cR _ hb0
    have hnle : n ≤ 256 := by have := ((right_45 (by omega)).1 HRP.out).2.2.1; have := HN.out; omega
    have HPK : Hid (PP = numB 5 ++ numB n ++ ids.flatMap id) := by
      show _ = _
      rw [HPK0.out, HN.out]; simp [packP]
    clear HRP HPK0
    go_enter Try.func59, Try.ntmps59
    go_wp2_with fail
    refine cR.mono ?_
    rintro e w1 ⟨rfl, b1⟩
    have hA1 := hA0.below b1 hA0.lt
    have hB1 := hb0.trans (b1.mono hb0.size)
    clear b1 hA0 hb0 cR h0 h1 h2 h3
    go_wp2_with fail
    refine (New_calls _).mono ?_
    rintro e w2 ⟨rfl, hw2, b2⟩
    have hA2 := hA1.below b2 hA1.lt
    have hlt := hA1.lt
    obtain ⟨B, hBB⟩ : ∃ n, n = w1.heap.size := ⟨_, rfl⟩
    rw [← hBB] at hw2 b2 hlt ⊢
    have HW2 := Lib.hid hw2
    have hB2 := hB1.trans (b2.mono (by have := hB1.size; omega))
    have hs2 : B ≤ w2.heap.size := by have := b2.size; omega
    have h0 := hA2.cell 0 _ rfl
    have hwB : w.heap.size ≤ B := by have := hB1.size; omega
    clear hA1 hB1 hw2 b2 hBB
    go_wp2_with fail
    refine (num_calls B B [] false 5 _ HW2.out hs2 (by simp) (by omega) (by omega)).mono ?_
    rintro e w3 ⟨rfl, hw3, k3⟩
    have hB3 := hB2.trans (k3.below.mono hwB)
    have hA3 := hA2.below (k3.below.mono (Nat.le_refl _)) hlt
    have HW3 : Hid (WriterIs B w3 B (numB 5) false) := hw3
    have hs3 : B ≤ w3.heap.size := Nat.le_trans hs2 k3.below.size
    have h0 := hA3.cell 0 _ rfl
    have h1 := hA3.cell 1 _ rfl
    have h2 := hA3.cell 2 _ rfl
    have h3 := hA3.cell 3 _ rfl
    clear hA2 hB2 hw3 k3 HW2 hs2
    go_wp2_with fail
    refine (num_calls B B (numB 5) false n _ HW3.out hs3 (by have := numB_len 5; omega) (by omega) (by omega)).mono ?_
    rintro e w4 ⟨rfl, hw4, k4⟩
    have hB4 := hB3.trans (k4.below.mono hwB)
    have hA4 := hA3.below k4.below hlt
    rw [Int.toNat_natCast] at hw4
    have HW4 := Lib.hid hw4
    have hs4 : B ≤ w4.heap.size := Nat.le_trans hs3 k4.below.size
    have h2 := hA4.cell 2 _ rfl
    clear hw4 k4 HW3 hB3 hA3 hs3
    go_wp2_with fail
    clear h0 h1 h2 h3 hA4
    have hB0 := Lib.hid hB4
    have HS4 := Lib.hid hs4
    clear hB4 hs4
    go_loopw [35] (fun iv wr => ∃ i : Nat, i ≤ n ∧ iv = .int .i64 i ∧ Hid (WriterIs B wr B (numB 5 ++ numB n ++ (ids.take i).flatMap id) false) ∧ Hid (Below w.heap.size w wr) ∧ Hid (B ≤ wr.heap.size)) (fun iv _ => n - (intOf iv).toNat)
    case atStart => exact ⟨0, by omega, rfl, Lib.hid (by simpa using HW4.out), hB0, HS4⟩
    case round =>
      obtain ⟨i, hi, rfl, hW, hBr, hSr⟩ := hrel
      clear HW4 hB0 HS4
      by_cases hlt2 : i < n
      · obtain ⟨c, hc⟩ : ∃ c, ids[i]? = some c := ⟨_, List.getElem?_eq_getElem (by rw [← HN.out]; exact hlt2)⟩
        have H32 : Hid (c.length = 32) := HI.out.1 c (List.mem_of_getElem? hc)
        obtain ⟨g, o, rfl, hrg⟩ := (HI.out.below hBr.out).range i c hc
        have HNX : Hid (numB 5 ++ numB n ++ (ids.take (i + 1)).flatMap id = (numB 5 ++ numB n ++ (ids.take i).flatMap id) ++ c) := by
          show _ = _
          rw [flat_snoc id ids i c hc]; simp
        have hwl : w.heap.size ≤ wr.heap.size := hBr.out.size
        clear hc
        go_wp2_with (first | ((with_reducible show wpList _ _ _ (⟨some 38, _, _, _, _, _⟩ :: _) _ _); refine wpList_load_mid rfl 23 (.tmp 37) rfl g (o + i * 32) (by rfl) (c.map bv) _ hrg Try.underlying23 rfl (by rw [List.length_map, H32.out]; exact Try.sizeHash) ?_) | ((with_reducible show wpList _ _ _ (⟨some 5, _, _, _, _, _⟩ :: _) _ _); refine wpList_allocZ rfl 23 rfl _ Try.zeroHash ?_; intro wa sa ba na) | ((with_reducible show wpList _ _ _ (⟨none, Op.store _ (.tmp 5) _, _, _, _, _⟩ :: _) _ _); refine wpList_storeBlk rfl 23 (.tmp 5) (.tmp 38) rfl (wr.heap.size) ((c.map bv).toArray) (by rfl) (by rfl) _ _ na (by rw [bv_size, H32.out]; exact Try.sizeHash) (by rw [bv_size, H32.out, Z32_size]) (bv_all _) ?_; intro w5 hB5 g5; have hW5 := Lib.hid (writer_grownG (hW.out.belowW ba) g5 na); have bb5 := below_new ba g5 (Nat.le_refl _) ba.size; have hBB5 := Lib.hid (hBr.out.trans (bb5.mono hwl)); have hSS5 := Lib.hid (Nat.le_trans hSr.out bb5.size); clear bb5 ba na g5 sa hW hBr hSr hrg) | ((with_reducible show wpList _ _ _ (⟨some 40, _, _, _, _, _⟩ :: _) _ _); refine wpList_load_mid rfl 23 (.tmp 5) rfl (wr.heap.size) 0 (by rfl) (c.map bv) _ (blk_rangeP hB5) Try.underlying23 rfl (by rw [List.length_map, H32.out]; exact Try.sizeHash) ?_))
        refine (hash_calls B B _ c false _ hW5.out hSS5.out (by have := numB_len 5; have := numB_len n; have := flat32 (ids.take i) (fun x hx => HI.out.1 x (List.mem_of_mem_take hx)); rw [List.length_append, List.length_append, this, List.length_take]; omega) H32.out).mono ?_
        rintro e w6 ⟨rfl, hw6, k6⟩
        have hW6 : Hid (WriterIs B w6 B (numB 5 ++ numB n ++ (ids.take (i + 1)).flatMap id) false) := by
          show WriterIs _ _ _ _ _
          rw [HNX.out]; exact hw6
        have hB6 := Lib.hid (hBB5.out.trans (k6.below.mono hwB))
        have hS6 := Lib.hid (Nat.le_trans hSS5.out k6.below.size)
        clear hw6 k6 hW5 hBB5 hSS5 hB5
        go_wp2_with fail
        go_roundw
        case rel => exact ⟨i + 1, by omega, by go_num, hW6, hB6, hS6⟩
        case measure => simp [intOf]; omega
      · obtain rfl : n = i := by omega
        have hWl : Hid (WriterIs B wr B (numB 5 ++ numB n ++ ids.flatMap id) false) := by
          have := hW.out
          rwa [List.take_of_length_le (by have := HN.out; omega)] at this
        clear hW
        go_wp2_with fail
        refine (endOk_calls B B PP _ (by rw [HPK.out]; exact hWl.out)).mono ?_
        rintro e w9 ⟨rfl, hw9⟩
        subst hw9
        go_wp2_with fail
        go_returns
        exact ⟨rfl, hBr.out⟩
  by_cases hk6 : k = 6
  · subst hk6
    clear hk
    have hb0 : Below w.heap.size w (w.alloc (.cells #[.int .i64 6, .string (str s), .slice iao n ic, .slice tao m tc] 109)) := below_alloc1 _ _
    have hA0 : Blk (w.alloc (.cells #[.int .i64 6, .string (str s), .slice iao n ic, .slice tao m tc] 109)) w.heap.size #[.int .i64 6, .string (str s), .slice iao n ic, .slice tao m tc] 109 := Blk.new _ _ _
    have h0 := hA0.cell 0 _ rfl
    have h1 := hA0.cell 1 _ rfl
    have h2 := hA0.cell 2 _ rfl
    have h3 := hA0.cell 3 _ rfl
    have cR := cR _ hb0
    have hmle : m ≤ 64 := by have := ((right_6 rfl).1 HRP.out).2.2.1; have := HM.out; omega
    have HTS : Hid (∀ t ∈ ts, t.length ≤ 65536) := ((right_6 rfl).1 HRP.out).2.2.2
    have HPK : Hid (PP = numB 6 ++ numB m ++ ts.flatMap encT) := by
      show _ = _
      rw [HPK0.out, HM.out]; simp [packP]
    clear HRP HPK0
    go_enter Try.func59, Try.ntmps59
    go_wp2_with fail
    refine cR.mono ?_
    rintro e w1 ⟨rfl, b1⟩
    have hA1 := hA0.below b1 hA0.lt
    have hB1 := hb0.trans (b1.mono hb0.size)
    clear b1 hA0 hb0 cR h0 h1 h2 h3
    go_wp2_with fail
    refine (New_calls _).mono ?_
    rintro e w2 ⟨rfl, hw2, b2⟩
    have hA2 := hA1.below b2 hA1.lt
    have hlt := hA1.lt
    obtain ⟨B, hBB⟩ : ∃ n, n = w1.heap.size := ⟨_, rfl⟩
    rw [← hBB] at hw2 b2 hlt ⊢
    have HW2 := Lib.hid hw2
    have hB2 := hB1.trans (b2.mono (by have := hB1.size; omega))
    have hs2 : B ≤ w2.heap.size := by have := b2.size; omega
    have h0 := hA2.cell 0 _ rfl
    have hwB : w.heap.size ≤ B := by have := hB1.size; omega
    clear hA1 hB1 hw2 b2 hBB
    go_wp2_with fail
    refine (num_calls B B [] false 6 _ HW2.out hs2 (by simp) (by omega) (by omega)).mono ?_
    rintro e w3 ⟨rfl, hw3, k3⟩
    have hB3 := hB2.trans (k3.below.mono hwB)
    have hA3 := hA2.below (k3.below.mono (Nat.le_refl _)) hlt
    have HW3 : Hid (WriterIs B w3 B (numB 6) false) := hw3
    have hs3 : B ≤ w3.heap.size := Nat.le_trans hs2 k3.below.size
    have h0 := hA3.cell 0 _ rfl
    have h1 := hA3.cell 1 _ rfl
    have h2 := hA3.cell 2 _ rfl
    have h3 := hA3.cell 3 _ rfl
    clear hA2 hB2 hw3 k3 HW2 hs2
    go_wp2_with fail
    refine (num_calls B B (numB 6) false m _ HW3.out hs3 (by have := numB_len 6; omega) (by omega) (by omega)).mono ?_
    rintro e w4 ⟨rfl, hw4, k4⟩
    have hB4 := hB3.trans (k4.below.mono hwB)
    have hA4 := hA3.below k4.below hlt
    rw [Int.toNat_natCast] at hw4
    have HW4 := Lib.hid hw4
    have hs4 : B ≤ w4.heap.size := Nat.le_trans hs3 k4.below.size
    have h3 := hA4.cell 3 _ rfl
    clear hw4 k4 HW3 hB3 hA3 hs3
    go_wp2_with fail
    clear h0 h1 h2 h3 hA4
    have hB0 := Lib.hid hB4
    have HS4 := Lib.hid hs4
    clear hB4 hs4
    go_loopw [53] (fun iv wr => ∃ i : Nat, i ≤ m ∧ iv = .int .i64 i ∧ Hid (WriterIs B wr B (numB 6 ++ numB m ++ (ts.take i).flatMap encT) false) ∧ Hid (Below w.heap.size w wr) ∧ Hid (B ≤ wr.heap.size)) (fun iv _ => m - (intOf iv).toNat)
    case atStart => exact ⟨0, by omega, rfl, Lib.hid (by simpa using HW4.out), hB0, HS4⟩
    case round =>
      obtain ⟨i, hi, rfl, hW, hBr, hSr⟩ := hrel
      clear HW4 hB0 HS4
      by_cases hlt2 : i < m
      · obtain ⟨x, hx⟩ : ∃ x, ts[i]? = some x := ⟨_, List.getElem?_eq_getElem (by rw [← HM.out]; exact hlt2)⟩
        obtain ⟨g, o, rfl, hrg⟩ := (HT.out.below hBr.out).range sCells_len i x hx
        have hc : wr.cell? ⟨g, o + i, none⟩ = some (.string (str x)) := by have := hrg 0 _ rfl; rwa [Nat.mul_one] at this
        have HX : Hid (x.length ≤ 65536) := HTS.out x (List.mem_of_getElem? hx)
        have HNX : Hid (numB 6 ++ numB m ++ (ts.take (i + 1)).flatMap encT = (numB 6 ++ numB m ++ (ts.take i).flatMap encT) ++ numB x.length ++ x) := by
          show _ = _
          rw [flat_snoc encT ts i x hx]; simp [encT]
        clear hx hrg
        go_wp2_with fail
        refine (textOk_calls B B _ false x _ hW.out hSr.out (by have := numB_len 6; have := numB_len m; have := flatT (ts.take i) (fun x hx => HTS.out x (List.mem_of_mem_take hx)); rw [List.length_take] at this; rw [List.length_append, List.length_append]; omega) HX.out).mono ?_
        rintro e w6 ⟨rfl, hw6, k6⟩
        have hW6 : Hid (WriterIs B w6 B (numB 6 ++ numB m ++ (ts.take (i + 1)).flatMap encT) false) := by
          show WriterIs _ _ _ _ _
          rw [HNX.out]; exact hw6
        have hB6 := Lib.hid (hBr.out.trans (k6.below.mono hwB))
        have hS6 := Lib.hid (Nat.le_trans hSr.out k6.below.size)
        clear hw6 k6 hW hBr hSr hc
        go_wp2_with fail
        go_roundw
        case rel => exact ⟨i + 1, by omega, by go_num, hW6, hB6, hS6⟩
        case measure => simp [intOf]; omega
      · obtain rfl : m = i := by omega
        have hWl : Hid (WriterIs B wr B (numB 6 ++ numB m ++ ts.flatMap encT) false) := by
          have := hW.out
          rwa [List.take_of_length_le (by have := HM.out; omega)] at this
        clear hW
        go_wp2_with fail
        refine (endOk_calls B B PP _ (by rw [HPK.out]; exact hWl.out)).mono ?_
        rintro e w9 ⟨rfl, hw9⟩
        subst hw9
        go_wp2_with fail
        go_returns
        exact ⟨rfl, hBr.out⟩
  omega
end Go.Proofs.Ytlomofcnknpciaa
