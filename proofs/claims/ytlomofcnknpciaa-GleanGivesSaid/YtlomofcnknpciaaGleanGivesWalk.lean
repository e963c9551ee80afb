/-
  GleanGives: what is given is the document's.
-/
import Derived.Test.YtlomofcnknpciaaGleanRTell
import Derived.Test.YtlomofcnknpciaaGleanGive
import Derived.Test.YtlomofcnknpciaaGleanKnown
import Derived.Test.YtlomofcnknpciaaGleanAw
import Derived.Test.YtlomofcnknpciaaBookOpen
import Derived.WalkLawsBesides
import Derived.Outline
import Derived.Handy
import Derived.Deep.RegionHeld
set_option linter.unusedSimpArgs false
set_option linter.unusedVariables false
namespace Go.Proofs.Ytlomofcnknpciaa
open Go.RowKit

set_option maxHeartbeats 8000000 in
set_option maxRecDepth 100000 in
theorem walkGleanGives {w0 : World} (v9 : Value) (asked : List HsT) (h9 : HashesAt w0 v9 asked) (m9 : asked.length ≤ maxLen) (v0 : Value) (all : List Kn) (h0 : KnAt w0 v0 all) (m0 : all.length ≤ maxLen) (w : World) (hw : w0 = w := by rfl) :
    Calls Try.prog 8 #[v9, v0] w fun e w' => e = .returned (.bool true) ∧ Below w.heap.size w w' := by
  subst hw
  obtain ⟨w, rfl⟩ : ∃ w : World, w = w0 := ⟨_, rfl⟩
  have H0 := Lib.hid h0
  have M0 := Lib.hid m0
  clear h0 m0
  obtain ⟨ao9, c9, rfl, _⟩ := h9.slice
  have H9 := Lib.hid h9
  obtain ⟨n, hn9⟩ : ∃ n, n = asked.length := ⟨_, rfl⟩
  have HN9 := Lib.hid hn9
  rw [← hn9] at H9 m9 ⊢
  unfold maxLen at m9
  clear h9 hn9
  have H9b : Hid (∀ x, Below w.heap.size w x → HashesAt x (.slice ao9 n c9) asked) := fun x hx => H9.out.below hx
  go_enter Try.func8, Try.ntmps8
  have hb0 := Below.refl w.heap.size w
  go_wp2_with fail
  refine (known_calls _ all _ H0.out M0.out).mono ?_
  rintro e w1 ⟨b1, ⟨v1, rfl, h1, hl⟩ | ⟨v1, rfl⟩⟩
  · clear hb0
    by_cases hn4 : 400 < n
    · go_wp2_with fail
      refine (awake19_calls _).mono ?_
      rintro e w2 ⟨rfl, b2⟩
      have hB2 := b1.trans (b2.mono b1.size)
      clear b1 b2
      go_wp2_with fail
      go_returns
      exact ⟨rfl, hB2⟩
    · go_wp2_with fail
      refine (awake19_calls _).mono ?_
      rintro e w2 ⟨rfl, b2⟩
      have hB2 := b1.trans (b2.mono b1.size)
      have H1 := Lib.hid (h1.below b2)
      clear b1 b2 h1
      go_wp2_with fail
      refine (Give_calls _ v1 asked all _ (H9.out.below hB2) H1.out.at (by have := HN9.out; omega) (by omega)).mono ?_
      rintro e w6 ⟨v6, rfl, L6, hp6, hs6, h6, b6⟩
      have hB6 := hB2.trans (b6.mono hB2.size)
      have HP6 := Lib.hid hp6
      have HS6 := Lib.hid hs6
      have H6 := Lib.hid h6.at
      clear hp6 hs6 h6 b6 hB2 H1
      go_wp2_with fail
      refine (RGive_calls _ _ asked all _ (H9.out.below hB6) (H0.out.below hB6) (by have := HN9.out; omega) (by omega)).mono ?_
      rintro e w7 ⟨v7, rfl, L7, hp7, hs7, h7, b7⟩
      have hB7 := hB6.trans (b7.mono hB6.size)
      obtain rfl : L6 = L7 := give_two HP6.out HS6.out hp7 hs7
      have HL : Hid ((L6.foldl stepG []).length ≤ 1000000) := by
        show _ ≤ _
        refine Nat.le_trans (stepG_len _ _) ?_
        rw [HP6.out.length_eq]
        have := stepF_len asked all []
        simp at this ⊢
        omega
      have H7 := Lib.hid h7.at
      have H67 := Lib.hid (H6.out.below b7)
      clear hp7 hs7 h7 b7 hB6 H6 HP6 HS6
      obtain ⟨G, hG⟩ : ∃ G, G = L6.foldl stepG [] := ⟨_, rfl⟩
      rw [← hG] at HL H7 H67
      clear hG
      go_wp2_with fail
      refine (SameTexts_calls _ _ G _ H67.out H7.out HL.out).mono ?_
      rintro e w8 ⟨rfl, b8⟩
      have hB8 := hB7.trans (b8.mono hB7.size)
      clear b8 hB7
      go_wp2_with fail
      go_returns
      exact ⟨rfl, hB8⟩
  · clear hb0
    go_wp2_with fail
    refine (awake19_calls _).mono ?_
    rintro e w2 ⟨rfl, b2⟩
    have hB2 := b1.trans (b2.mono b1.size)
    clear b1 b2
    go_wp2_with fail
    go_returns
    exact ⟨rfl, hB2⟩
end Go.Proofs.Ytlomofcnknpciaa
