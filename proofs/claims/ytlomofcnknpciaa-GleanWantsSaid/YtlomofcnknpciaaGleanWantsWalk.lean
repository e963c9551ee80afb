/-
  GleanWants: what one lacks is the document's.
-/
import Derived.Test.YtlomofcnknpciaaGleanAw
import Derived.Test.YtlomofcnknpciaaBookOpen
set_option linter.unusedSimpArgs false
set_option linter.unusedVariables false
namespace Go.Proofs.Ytlomofcnknpciaa
open Go.RowKit

set_option maxHeartbeats 8000000 in
set_option maxRecDepth 100000 in
theorem walkGleanWants {w0 : World} (v0 : Value) (told : List HsT) (h0 : HashesAt w0 v0 told) (m0 : told.length ≤ maxLen) (v1 : Value) (hv : List HsT) (h1 : HashesAt w0 v1 hv) (m1 : hv.length ≤ maxLen) (w : World) (hw : w0 = w := by rfl) :
    Calls Try.prog 6 #[v0, v1] w fun e w' => e = .returned (.bool true) ∧ Below w.heap.size w w' := by
  subst hw
  obtain ⟨w, rfl⟩ : ∃ w : World, w = w0 := ⟨_, rfl⟩
  obtain ⟨tao, tc, rfl, _⟩ := h0.slice
  obtain ⟨hao, hc, rfl, _⟩ := h1.slice
  have H0 := Lib.hid h0
  have H1 := Lib.hid h1
  obtain ⟨n, hn⟩ : ∃ n, n = told.length := ⟨_, rfl⟩
  obtain ⟨m, hm⟩ : ∃ n, n = hv.length := ⟨_, rfl⟩
  have HN := Lib.hid hn
  have HM := Lib.hid hm
  rw [← hn] at H0 m0 ⊢
  rw [← hm] at H1 m1 ⊢
  unfold maxLen at m0 m1
  clear h0 h1 hn hm
  have hb0 := Below.refl w.heap.size w
  by_cases hn4 : 400 < n
  · skip
    go_enter Try.func6, Try.ntmps6
    go_wp2_with fail
    refine (awake19_calls _).mono ?_
    rintro e wq446 ⟨rfl, bq447⟩
    have hBq448 := hb0.trans (bq447.mono (hb0.size))
    clear hb0
    clear bq447
    go_wp2_with fail
    go_returns
    exact ⟨rfl, hBq448⟩
  by_cases hm4 : 400 < m
  · skip
    go_enter Try.func6, Try.ntmps6
    go_wp2_with fail
    refine (awake19_calls _).mono ?_
    rintro e wq449 ⟨rfl, bq450⟩
    have hBq451 := hb0.trans (bq450.mono (hb0.size))
    clear hb0
    clear bq450
    go_wp2_with fail
    go_returns
    exact ⟨rfl, hBq451⟩
  go_enter Try.func6, Try.ntmps6
  go_wp2_with fail
  refine (awake19_calls _).mono ?_
  rintro e wq452 ⟨rfl, bq453⟩
  have hBq454 := hb0.trans (bq453.mono (hb0.size))
  clear hb0
  clear bq453
  go_wp2_with fail
  have H0a := H0.out.below hBq454
  have H1a := H1.out.below hBq454
  refine (Want_calls _ _ told hv _ H0a H1a (by have := HN.out; omega) (by have := HM.out; omega)).mono ?_
  rintro e w5 ⟨v5, R, rfl, h5, hr5, hm5, b5⟩
  have hB5 := hBq454.trans (b5.mono hBq454.size)
  have HV5 := Lib.hid h5.at
  have HR5 := Lib.hid hr5
  have HM5 := Lib.hid hm5
  clear h5 hr5 hm5 b5 H0a H1a hBq454
  go_wp2_with fail
  refine (RWant_calls _ _ told hv _ (H0.out.below hB5) (H1.out.below hB5) (by have := HN.out; omega) (by have := HM.out; omega)).mono ?_
  rintro e w6 ⟨v6, R6, rfl, h6, hr6, hm6, b6⟩
  have h32 : ∀ x ∈ told, x.length = 32 := H0.out.1
  obtain rfl : R = R6 := rises_ext HR5.out hr6 (fun x hx => h32 x ((HM5.out x).1 hx).1) (fun x hx => h32 x ((hm6 x).1 hx).1) (fun x => (HM5.out x).trans (hm6 x).symm)
  have HV6 := Lib.hid h6
  have HV5b := Lib.hid (HV5.out.below b6)
  have hB6 := hB5.trans (b6.mono hB5.size)
  clear h6 hr6 hm6 b6 h32 hB5 HV5
  go_wp2_with fail
  refine (SameIds_calls _ _ (R.take 256) _ HV5b.out HV6.out (by rw [List.length_take]; omega)).mono ?_
  rintro e w7 ⟨rfl, b7⟩
  have hB7 := hB6.trans (b7.mono hB6.size)
  clear b7 hB6
  go_wp2_with fail
  go_returns
  exact ⟨rfl, hB7⟩
end Go.Proofs.Ytlomofcnknpciaa
