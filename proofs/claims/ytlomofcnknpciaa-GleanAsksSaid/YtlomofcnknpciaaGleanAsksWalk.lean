/-
  GleanAsks: what is told of, wanted and given is the document's.
-/
import Derived.Test.YtlomofcnknpciaaGleanRTell
import Derived.Test.YtlomofcnknpciaaGleanGive
import Derived.Test.YtlomofcnknpciaaGleanKnown
import Derived.Test.YtlomofcnknpciaaGleanAw
import Derived.Test.YtlomofcnknpciaaBookOpen
import Derived.WalkLawsBesides
import Derived.Outline
import Derived.Handy
import Derived.Deep.RegionHeld
set_option linter.unusedSimpArgs false
set_option linter.unusedVariables false
namespace Go.Proofs.Ytlomofcnknpciaa
open Go.RowKit

set_option maxHeartbeats 8000000 in
set_option maxRecDepth 100000 in
theorem walkGleanAsks {w0 : World} (v0 : Value) (all : List Kn) (h0 : KnAt w0 v0 all) (m0 : all.length ≤ maxLen) (v7 : Value) (told : List HsT) (h7 : HashesAt w0 v7 told) (m7 : told.length ≤ maxLen) (v8 : Value) (hv : List HsT) (h8 : HashesAt w0 v8 hv) (m8 : hv.length ≤ maxLen) (w : World) (hw : w0 = w := by rfl) :
    Calls Try.prog 10 #[v0, v7, v8] w fun e w' => e = .returned (.bool true) ∧ Below w.heap.size w w' := by
  subst hw
  obtain ⟨w, rfl⟩ : ∃ w : World, w = w0 := ⟨_, rfl⟩
  have H0 := Lib.hid h0
  have M0 := Lib.hid m0
  clear h0 m0
  obtain ⟨ao7, c7, rfl, _⟩ := h7.slice
  have H7 := Lib.hid h7
  obtain ⟨n, hn7⟩ : ∃ n, n = told.length := ⟨_, rfl⟩
  have HN7 := Lib.hid hn7
  rw [← hn7] at H7 m7 ⊢
  unfold maxLen at m7
  clear h7 hn7
  obtain ⟨ao8, c8, rfl, _⟩ := h8.slice
  have H8 := Lib.hid h8
  obtain ⟨p, hn8⟩ : ∃ n, n = hv.length := ⟨_, rfl⟩
  have HN8 := Lib.hid hn8
  rw [← hn8] at H8 m8 ⊢
  unfold maxLen at m8
  clear h8 hn8
  go_enter Try.func10, Try.ntmps10
  have hb0 := Below.refl w.heap.size w
  go_wp2_with fail
  refine (known_calls _ all _ H0.out M0.out).mono ?_
  rintro e w1 ⟨b1, ⟨v1, rfl, h1, hl⟩ | ⟨v1, rfl⟩⟩
  · clear hb0
    go_wp2_with fail
    refine (awake19_calls _).mono ?_
    rintro e w2 ⟨rfl, b2⟩
    have hB2 := b1.trans (b2.mono b1.size)
    have H1 := Lib.hid (h1.below b2)
    clear b1 b2 h1
    by_cases hn4 : 400 < n
    · go_wp2_with fail
      refine (awake19_calls _).mono ?_
      rintro e w3 ⟨rfl, b3⟩
      have hB3 := hB2.trans (b3.mono hB2.size)
      clear b3 hB2
      go_wp2_with fail
      go_returns
      exact ⟨rfl, hB3⟩
    by_cases hp4 : 400 < p
    · go_wp2_with fail
      refine (awake19_calls _).mono ?_
      rintro e w3 ⟨rfl, b3⟩
      have hB3 := hB2.trans (b3.mono hB2.size)
      clear b3 hB2
      go_wp2_with fail
      go_returns
      exact ⟨rfl, hB3⟩
    go_wp2_with fail
    refine (Tell_calls _ v1 all _ H1.out (by omega)).mono ?_
    rintro e w3 ⟨v3, rfl, L, hp, hs, R, h3, hr, hm, b3⟩
    have hB3 := hB2.trans (b3.mono hB2.size)
    have HP := Lib.hid hp
    have HS := Lib.hid hs
    have HR := Lib.hid hr
    have HM := Lib.hid hm
    have H3 := Lib.hid h3.at
    have H13 := Lib.hid (H1.out.below b3)
    clear hp hs hr hm h3 b3 hB2 H1
    go_wp2_with fail
    refine (RTell_calls _ all _ (H0.out.below hB3) (by omega)).mono ?_
    rintro e w4 ⟨v4, rfl, L4, hp4, hs4, R4, h4, hr4, hm4, b4⟩
    have hB4 := hB3.trans (b4.mono hB3.size)
    obtain rfl : R = R4 := tell_same HP.out HS.out HM.out HR.out H3.out.1 hp4 hs4 hm4 hr4 h4.1
    have HR4 : Hid (R.length ≤ 1000000) := by
      show _ ≤ _
      have := nodup_len HR.out.nodup (fun x hx => (tell_mem ((HM.out x).1 hx)))
      rw [List.length_map, HP.out.length_eq] at this
      exact Nat.le_trans this (Nat.le_trans (List.length_filter_le _ _) (by omega))
    have H4 := Lib.hid h4.at
    have H34 := Lib.hid (H3.out.below b4)
    have H14 := Lib.hid (H13.out.below b4)
    clear hp4 hs4 hm4 hr4 h4 b4 hB3 H3 H13
    go_wp2_with fail
    refine (SameIds_calls _ _ R _ H34.out H4.out HR4.out).mono ?_
    rintro e w5 ⟨rfl, b5⟩
    have hB5 := hB4.trans (b5.mono hB4.size)
    have H15 := Lib.hid (H14.out.below b5)
    clear b5 hB4 H34 H4 H14 HR4 HP HS HR HM
    go_wp2_with fail
    have H7a := H7.out.below hB5
    have H8a := H8.out.below hB5
    refine (Want_calls _ _ told hv _ H7a H8a (by have := HN7.out; omega) (by have := HN8.out; omega)).mono ?_
    rintro e wa ⟨va, Ra, rfl, ha, hra, hma, ba⟩
    have hBa := hB5.trans (ba.mono hB5.size)
    have HVa := Lib.hid ha.at
    have HRa := Lib.hid hra
    have HMa := Lib.hid hma
    have H1a := Lib.hid (H15.out.below ba)
    clear ha hra hma ba H7a H8a hB5 H15
    go_wp2_with fail
    refine (RWant_calls _ _ told hv _ (H7.out.below hBa) (H8.out.below hBa) (by have := HN7.out; omega) (by have := HN8.out; omega)).mono ?_
    rintro e wb ⟨vb, Rb, rfl, hb, hrb, hmb, bb⟩
    have h32 : ∀ x ∈ told, x.length = 32 := H7.out.1
    obtain rfl : Ra = Rb := rises_ext HRa.out hrb (fun x hx => h32 x ((HMa.out x).1 hx).1) (fun x hx => h32 x ((hmb x).1 hx).1) (fun x => (HMa.out x).trans (hmb x).symm)
    have HVb := Lib.hid hb
    have HVab := Lib.hid (HVa.out.below bb)
    have H1b := Lib.hid (H1a.out.below bb)
    have hBb := hBa.trans (bb.mono hBa.size)
    obtain ⟨T, hT⟩ : ∃ T, T = Ra.take 256 := ⟨_, rfl⟩
    have HTl : Hid (T.length ≤ 1000000) := by show _ ≤ _; rw [hT, List.length_take]; omega
    rw [← hT] at HVb HVab
    clear hb hrb hmb bb h32 hBa HVa H1a hT HRa HMa
    go_wp2_with fail
    refine (SameIds_calls _ _ T _ HVab.out HVb.out HTl.out).mono ?_
    rintro e wc ⟨rfl, bc⟩
    have hBc := hBb.trans (bc.mono hBb.size)
    have H1c := Lib.hid (H1b.out.below bc)
    clear bc hBb H1b HVab HVb HTl
    go_wp2_with fail
    refine (Give_calls _ v1 told all _ (H7.out.below hBc) H1c.out.at (by have := HN7.out; omega) (by omega)).mono ?_
    rintro e w6 ⟨v6, rfl, L6, hp6, hs6, h6, b6⟩
    have hB6 := hBc.trans (b6.mono hBc.size)
    have HP6 := Lib.hid hp6
    have HS6 := Lib.hid hs6
    have H6 := Lib.hid h6.at
    clear hp6 hs6 h6 b6 hBc H1c
    go_wp2_with fail
    refine (RGive_calls _ _ told all _ (H7.out.below hB6) (H0.out.below hB6) (by have := HN7.out; omega) (by omega)).mono ?_
    rintro e w7 ⟨v7, rfl, L7, hp7, hs7, h7, b7⟩
    have hB7 := hB6.trans (b7.mono hB6.size)
    obtain rfl : L6 = L7 := give_two HP6.out HS6.out hp7 hs7
    have HL : Hid ((L6.foldl stepG []).length ≤ 1000000) := by
      show _ ≤ _
      refine Nat.le_trans (stepG_len _ _) ?_
      rw [HP6.out.length_eq]
      have := stepF_len told all []
      simp at this ⊢
      omega
    have H7 := Lib.hid h7.at
    have H67 := Lib.hid (H6.out.below b7)
    clear hp7 hs7 h7 b7 hB6 H6 HP6 HS6
    obtain ⟨G, hG⟩ : ∃ G, G = L6.foldl stepG [] := ⟨_, rfl⟩
    rw [← hG] at HL H7 H67
    clear hG
    go_wp2_with fail
    refine (SameTexts_calls _ _ G _ H67.out H7.out HL.out).mono ?_
    rintro e w8 ⟨rfl, b8⟩
    have hB8 := hB7.trans (b8.mono hB7.size)
    clear b8 hB7
    go_wp2_with fail
    go_returns
    exact ⟨rfl, hB8⟩
  · clear hb0
    go_wp2_with fail
    refine (awake19_calls _).mono ?_
    rintro e w2 ⟨rfl, b2⟩
    have hB2 := b1.trans (b2.mono b1.size)
    clear b1 b2
    go_wp2_with fail
    refine (awake19_calls _).mono ?_
    rintro e w3 ⟨rfl, b3⟩
    have hB3 := hB2.trans (b3.mono hB2.size)
    clear b3 hB2
    go_wp2_with fail
    go_returns
    exact ⟨rfl, hB3⟩
end Go.Proofs.Ytlomofcnknpciaa
