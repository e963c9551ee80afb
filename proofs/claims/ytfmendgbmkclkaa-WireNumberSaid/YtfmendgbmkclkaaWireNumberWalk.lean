/-
  WireNumber: a number alone is the document's bytes, or refused, and is read back: for every number.
-/
import Derived.Test.YtfmendgbmkclkaaWireAwake
import Derived.Test.YtfmendgbmkclkaaWireBack
set_option linter.unusedSimpArgs false
set_option linter.unusedVariables false
namespace Go.Proofs.Ytfmendgbmkclkaa
open Go.RowKit

theorem walkWireNumber (n : Int) (w0 : (Lit.int .i64 n).wf = true) (w : World) :
    Calls Try.prog 3 #[.int .i64 n] w fun e w' => e = .returned (.bool true) ∧ Below w.heap.size w w' := by
  by_cases hbad : n < 0 ∨ 4611686018427387903 < n
  · go_enter Try.func3, Try.ntmps3
    go_wp2_with fail
    refine (New_calls _).mono ?_
    rintro e w1 ⟨rfl, h1, b1⟩
    go_wp2_with fail
    refine (numBad_calls w.heap.size _ _ _ n _ h1 hbad).mono ?_
    rintro e w2 ⟨rfl, h2, b2⟩
    go_wp2_with fail
    refine (endBad_calls w.heap.size _ _ _ h2).mono ?_
    rintro e w3 ⟨rfl, rfl⟩
    rcases hbad with hbad | hbad
    all_goals
      go_wp2_with fail
      refine (awake_calls _).mono ?_
      rintro e w4 ⟨rfl, b4⟩
      go_wp2
      go_returns
      exact ⟨rfl, (b1.trans b2).trans (b4.mono (b1.trans b2).size)⟩
  · have h0 : 0 ≤ n := by omega
    have hm : n ≤ 4611686018427387903 := by omega
    clear hbad
    go_enter Try.func3, Try.ntmps3
    go_wp2_with fail
    refine (New_calls _).mono ?_
    rintro e w1 ⟨rfl, h1, b1⟩
    go_wp2_with fail
    refine (num_calls w.heap.size _ _ _ n _ h1 b1.size (by simp) h0 hm).mono ?_
    rintro e w2 ⟨rfl, h2, b2⟩
    go_wp2_with fail
    refine (endOk_calls w.heap.size _ _ _ h2).mono ?_
    rintro e w3 ⟨rfl, rfl⟩
    go_wp2_with fail
    refine (From_calls (numB n.toNat) _).mono ?_
    rintro e w4 ⟨rfl, h4, b4⟩
    go_wp2_with fail
    refine (awake_calls _).mono ?_
    rintro e w5 ⟨rfl, b5⟩
    go_wp2_with fail
    refine (RefNum_calls n _ h0 hm).mono ?_
    rintro e w6 ⟨rfl, b6⟩
    have h6 : ReaderIs w6 w2.heap.size (numB n.toNat, 0) := Blk.below (Blk.below h4 b5 h4.lt) b6 (Nat.lt_of_lt_of_le h4.lt b5.size)
    have hr := rNum_back n.toNat (by omega) [] n (by omega)
    go_wp2_with fail
    refine (RNum_calls _ _ n _ h6 (by have := numB_len n.toNat; simp; omega)).mono ?_
    rintro e w7 ⟨rfl, h7, g7⟩
    rw [List.append_nil] at hr
    rw [hr] at h7 ⊢
    rw [show ((n.toNat : Nat) : Int) = n from Int.toNat_of_nonneg h0]
    go_wp2_with fail
    refine (REnd_calls _ _ _ h7).mono ?_
    rintro e w8 ⟨rfl, rfl⟩
    go_wp2
    go_returns
    refine ⟨by simp [rEnd], ?_⟩
    have bb := b1.trans b2
    have b45 := (b4.mono bb.size).trans ((b5.mono (Nat.le_trans bb.size b4.size)).trans (b6.mono (Nat.le_trans bb.size (Nat.le_trans b4.size b5.size))))
    exact bb.trans (b45.trans (grown_below g7 bb.size (Nat.le_trans bb.size b45.size)))
end Go.Proofs.Ytfmendgbmkclkaa
