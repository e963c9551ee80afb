/-
  GleanTells: what is told of is the document's.
-/
import Derived.Test.YtlomofcnknpciaaGleanRTell
import Derived.Test.YtlomofcnknpciaaGleanKnown
import Derived.Test.YtlomofcnknpciaaGleanAw
import Derived.Test.YtlomofcnknpciaaBookOpen
import Derived.WalkLawsBesides
import Derived.Outline
import Derived.Handy
import Derived.Deep.RegionHeld
set_option linter.unusedSimpArgs false
set_option linter.unusedVariables false
namespace Go.Proofs.Ytlomofcnknpciaa
open Go.RowKit

set_option maxHeartbeats 8000000 in
set_option maxRecDepth 100000 in
theorem walkGleanTells {w0 : World} (v0 : Value) (all : List Kn) (h0 : KnAt w0 v0 all) (m0 : all.length ≤ maxLen) (w : World) (hw : w0 = w := by rfl) :
    Calls Try.prog 7 #[v0] w fun e w' => e = .returned (.bool true) ∧ Below w.heap.size w w' := by
  subst hw
  obtain ⟨w, rfl⟩ : ∃ w : World, w = w0 := ⟨_, rfl⟩
  have H0 := Lib.hid h0
  have M0 := Lib.hid m0
  clear h0 m0
  go_enter Try.func7, Try.ntmps7
  have hb0 := Below.refl w.heap.size w
  go_wp2_with fail
  refine (known_calls _ all _ H0.out M0.out).mono ?_
  rintro e w1 ⟨b1, ⟨v1, rfl, h1, hl⟩ | ⟨v1, rfl⟩⟩
  · clear hb0
    go_wp2_with fail
    refine (awake19_calls _).mono ?_
    rintro e w2 ⟨rfl, b2⟩
    have hB2 := b1.trans (b2.mono b1.size)
    have H1 := Lib.hid (h1.below b2)
    clear b1 b2 h1
    go_wp2_with fail
    refine (Tell_calls _ v1 all _ H1.out (by omega)).mono ?_
    rintro e w3 ⟨v3, rfl, L, hp, hs, R, h3, hr, hm, b3⟩
    have hB3 := hB2.trans (b3.mono hB2.size)
    have HP := Lib.hid hp
    have HS := Lib.hid hs
    have HR := Lib.hid hr
    have HM := Lib.hid hm
    have H3 := Lib.hid h3.at
    have H13 := Lib.hid (H1.out.below b3)
    clear hp hs hr hm h3 b3 hB2 H1
    go_wp2_with fail
    refine (RTell_calls _ all _ (H0.out.below hB3) (by omega)).mono ?_
    rintro e w4 ⟨v4, rfl, L4, hp4, hs4, R4, h4, hr4, hm4, b4⟩
    have hB4 := hB3.trans (b4.mono hB3.size)
    obtain rfl : R = R4 := tell_same HP.out HS.out HM.out HR.out H3.out.1 hp4 hs4 hm4 hr4 h4.1
    have HR4 : Hid (R.length ≤ 1000000) := by
      show _ ≤ _
      have := nodup_len HR.out.nodup (fun x hx => (tell_mem ((HM.out x).1 hx)))
      rw [List.length_map, HP.out.length_eq] at this
      exact Nat.le_trans this (Nat.le_trans (List.length_filter_le _ _) (by omega))
    have H4 := Lib.hid h4.at
    have H34 := Lib.hid (H3.out.below b4)
    have H14 := Lib.hid (H13.out.below b4)
    clear hp4 hs4 hm4 hr4 h4 b4 hB3 H3 H13
    go_wp2_with fail
    refine (SameIds_calls _ _ R _ H34.out H4.out HR4.out).mono ?_
    rintro e w5 ⟨rfl, b5⟩
    have hB5 := hB4.trans (b5.mono hB4.size)
    have H15 := Lib.hid (H14.out.below b5)
    clear b5 hB4 H34 H4 H14 HR4 HP HS HR HM
    go_wp2_with fail
    go_returns
    exact ⟨rfl, hB5⟩
  · clear hb0
    go_wp2_with fail
    refine (awake19_calls _).mono ?_
    rintro e w2 ⟨rfl, b2⟩
    have hB2 := b1.trans (b2.mono b1.size)
    clear b1 b2
    go_wp2_with fail
    go_returns
    exact ⟨rfl, hB2⟩
end Go.Proofs.Ytlomofcnknpciaa
