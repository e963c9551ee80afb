/-
  WireText: a text alone is the document's bytes, or refused, and is read back: for every text.
-/
import Derived.Test.YtfmendgbmkclkaaWireAwake
import Derived.Test.YtfmendgbmkclkaaWireBack
set_option linter.unusedSimpArgs false
set_option linter.unusedVariables false
namespace Go.Proofs.Ytfmendgbmkclkaa
open Go.RowKit

theorem walkWireText (s : List UInt8) (w0 : s.length ≤ maxLen) (w : World) :
    Calls Try.prog 5 #[.string (str s)] w fun e w' => e = .returned (.bool true) ∧ Below w.heap.size w w' := by
  have hmx : s.length ≤ 9223372036854775807 := by unfold maxLen at w0; omega
  by_cases hlong : 200000 < s.length
  · go_enter Try.func5, Try.ntmps5
    go_wp2_with fail
    refine (awake_calls _).mono ?_
    rintro e w4 ⟨rfl, b4⟩
    go_wp2
    go_returns
    exact ⟨rfl, b4⟩
  by_cases hbad : 65536 < s.length
  · go_enter Try.func5, Try.ntmps5
    go_wp2_with fail
    refine (New_calls _).mono ?_
    rintro e w1 ⟨rfl, h1, b1⟩
    go_wp2_with fail
    refine (textBad_calls w.heap.size _ _ _ s _ h1 hbad w0).mono ?_
    rintro e w2 ⟨rfl, h2, b2⟩
    go_wp2_with fail
    refine (endBad_calls w.heap.size _ _ _ h2).mono ?_
    rintro e w3 ⟨rfl, rfl⟩
    go_wp2_with fail
    refine (awake_calls _).mono ?_
    rintro e w4 ⟨rfl, b4⟩
    go_wp2
    go_returns
    exact ⟨rfl, (b1.trans b2.below).trans (b4.mono (b1.trans b2.below).size)⟩
  · have hok : s.length ≤ 65536 := by omega
    clear hbad hlong hmx
    go_enter Try.func5, Try.ntmps5
    go_wp2_with fail
    refine (New_calls _).mono ?_
    rintro e w1 ⟨rfl, h1, b1⟩
    go_wp2_with fail
    refine (textOk_calls w.heap.size _ _ _ s _ h1 b1.size (by simp) hok).mono ?_
    rintro e w2 ⟨rfl, h2, b2⟩
    go_wp2_with fail
    refine (endOk_calls w.heap.size _ _ _ h2).mono ?_
    rintro e w3 ⟨rfl, rfl⟩
    have hnl := numB_len s.length
    have hr := rText_back s [] hok s.length (Int.le_refl _)
    rw [List.append_nil] at hr
    rw [List.nil_append]
    generalize hx : numB s.length ++ s = x at hr ⊢
    have hxl : x.length ≤ 1099511627776 := by rw [← hx, List.length_append]; omega
    have HX := Lib.hid hx
    have HR := Lib.hid hr
    clear hx hr
    go_wp2_with fail
    refine (From_calls x _).mono ?_
    rintro e w4 ⟨rfl, h4, b4⟩
    go_wp2_with fail
    refine (awake_calls _).mono ?_
    rintro e w5 ⟨rfl, b5⟩
    go_wp2_with fail
    refine (RefText_calls s _ (by omega)).mono ?_
    rintro e w6 ⟨rfl, b6⟩
    rw [HX.out]
    have h6 : ReaderIs w6 w2.heap.size (x, 0) := Blk.below (Blk.below h4 b5 h4.lt) b6 (Nat.lt_of_lt_of_le h4.lt b5.size)
    go_wp2_with fail
    refine (RText_calls _ _ s.length _ h6 hxl).mono ?_
    rintro e w7 ⟨rfl, h7, g7⟩
    rw [HR.out] at h7 ⊢
    go_wp2_with fail
    refine (REnd_calls _ _ _ h7).mono ?_
    rintro e w8 ⟨rfl, rfl⟩
    go_wp2
    go_returns
    refine ⟨by simp [rEnd], ?_⟩
    have bb := b1.trans b2.below
    have b45 := (b4.mono bb.size).trans ((b5.mono (Nat.le_trans bb.size b4.size)).trans (b6.mono (Nat.le_trans bb.size (Nat.le_trans b4.size b5.size))))
    exact bb.trans (b45.trans (grown_below g7 bb.size (Nat.le_trans bb.size b45.size)))
end Go.Proofs.Ytfmendgbmkclkaa
