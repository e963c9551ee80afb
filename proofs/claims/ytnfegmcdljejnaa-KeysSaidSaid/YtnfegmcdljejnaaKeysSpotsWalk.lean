/-
  KeysSpots: the spot of any core is the document's, and one of a row of 32 bits: for every text.
-/
import Derived.Test.YtnfegmcdljejnaaAwakeKeys
set_option linter.unusedSimpArgs false
set_option linter.unusedVariables false
namespace Go.Proofs.Ytnfegmcdljejnaa
open Go.RowKit

theorem spotT_lt (c : List UInt8) : spotT c < 4294967296 := by
  have h0 := (((sha ([115, 112, 111, 116] ++ c)).getD 0 0)).toNat_lt
  have h1 := (((sha ([115, 112, 111, 116] ++ c)).getD 1 0)).toNat_lt
  have h2 := (((sha ([115, 112, 111, 116] ++ c)).getD 2 0)).toNat_lt
  have h3 := (((sha ([115, 112, 111, 116] ++ c)).getD 3 0)).toNat_lt
  simp only [spotT]
  omega
set_option maxHeartbeats 4000000 in
set_option maxRecDepth 100000 in
theorem walkKeysSpots (c : List UInt8) (hm : c.length ≤ maxLen) (w : World) :
    Calls Try.prog 4 #[.string (str c)] w fun e w' => e = .returned (.bool true) ∧ Below w.heap.size w w' := by
  unfold maxLen at hm
  by_cases hc : c.length ≤ 5000
  · go_enter Try.func4, Try.ntmps4
    go_wp2_with fail
    refine (Spot_calls c _ hc).mono ?_
    rintro e w1 ⟨rfl, b1⟩
    go_wp2_with fail
    refine (awake_calls _).mono ?_
    rintro e w2 ⟨rfl, b2⟩
    go_wp2_with fail
    refine (RefSpot_calls c _ hc).mono ?_
    rintro e w3 ⟨rfl, b3⟩
    have hlt := spotT_lt c
    generalize spotT c = n at hlt ⊢
    go_wp2_with fail
    go_returns
    have s2 := Nat.le_trans b1.size b2.size
    exact ⟨by simp <;> omega, b1.trans ((b2.mono b1.size).trans (b3.mono s2))⟩
  · go_enter Try.func4, Try.ntmps4
    go_wp2_with fail
    refine (awake_calls _).mono ?_
    rintro e w2 ⟨rfl, b2⟩
    go_wp2_with fail
    go_returns
    exact ⟨rfl, b2⟩
end Go.Proofs.Ytnfegmcdljejnaa
