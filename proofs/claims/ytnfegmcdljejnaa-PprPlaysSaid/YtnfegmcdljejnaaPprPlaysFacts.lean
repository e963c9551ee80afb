/-
  PprPlays: what the calls of a round answer, by whether the place is there and was taken.
-/
import Derived.Test.YtnfegmcdljejnaaPprRowS
set_option linter.unusedSimpArgs false
set_option linter.unusedVariables false
namespace Go.Proofs.Ytnfegmcdljejnaa
open Go.RowKit

theorem plays_out (a : List UInt8) (B : Nat) (tk : List Nat) (x : Int) (row : List Nat → List Sd) (hrow : row = rowT a B) (ha : a.length = 32) (hB2 : B ≤ 32) (hx1 : -9223372036854775808 ≤ x) (hx2 : x ≤ 9223372036854775807) (hl : (row tk).length ≤ 1000000) (hw : withinT B x = false) :
    (∀ v y, Calls Try.prog 41 #[.agg (rcells a B v).toArray, .int .i64 x] y fun e w' => e = .returned (.bool false) ∧ Below y.heap.size y w')
    ∧ (∀ r y, RowAt y r B (row tk) → Calls Try.prog 36 #[.pointer (some ⟨r, 0, none⟩), .pointer none, .int .i64 x] y fun e w' => e = .returned (.tuple #[.agg (zh32.map bv).toArray, .int .i64 1]) ∧ Below y.heap.size y w')
    ∧ (∀ r y, RowAt y r B (row tk) → Calls Try.prog 38 #[.pointer (some ⟨r, 0, none⟩), .pointer none, .int .i64 x] y fun e w' => e = .returned (.tuple #[.agg (zh32.map bv).toArray, .int .i64 1]) ∧ RowAt w' r B (row tk) ∧ y.grownBy w' (some r) ∧ RowMove y w' r B)
    ∧ (∀ r y, RowAt y r B (row tk) → Calls Try.prog 40 #[.pointer (some ⟨r, 0, none⟩), .int .i64 x] y fun e w' => e = .returned (.bool true) ∧ Below y.heap.size y w') := by
  have hmem := row_mem (B := B) (tk := tk) ha
  have hok : RowOk B (row tk) := ⟨fun s hs => ⟨(hmem s (by rw [← hrow]; exact hs)).1, (hmem s (by rw [← hrow]; exact hs)).2.1⟩, hl⟩
  have e := row_out a B x tk hw
  refine ⟨fun v y => ?_, fun r y hy => ?_, fun r y hy => ?_, fun r y hy => ?_⟩
  · have := RWithin_calls a B v x y ha hB2
    rw [hw] at this
    exact this
  · skip
    have := Look_calls r B x _ y hy hB2 hok hx1 hx2
    rw [hrow, e.2.1] at this
    exact this
  · have := Take2_calls r B x _ y hy hB2 hok hx1 hx2
    rw [hrow, e.2.1, e.1] at this
    rw [hrow]
    exact this
  · have := Gone_calls r B x _ y hy hB2 (fun s hs => (hok.1 s hs).1) hl hx1 hx2
    rw [hrow, e.2.2] at this
    exact this
theorem plays_gone (a : List UInt8) (B : Nat) (tk : List Nat) (x : Int) (row : List Nat → List Sd) (hrow : row = rowT a B) (ha : a.length = 32) (hB2 : B ≤ 32) (hx1 : -9223372036854775808 ≤ x) (hx2 : x ≤ 9223372036854775807) (hl : (row tk).length ≤ 1000000) (hw : withinT B x = true) (ht : x.toNat ∈ tk) :
    (∀ v y, Calls Try.prog 41 #[.agg (rcells a B v).toArray, .int .i64 x] y fun e w' => e = .returned (.bool true) ∧ Below y.heap.size y w')
    ∧ (∀ v y, IntsAt y v tk → tk.length ≤ 1000000 → Calls Try.prog 78 #[.agg (rcells a B v).toArray, .int .i64 x] y fun e w' => e = .returned (.bool true) ∧ Below y.heap.size y w')
    ∧ (∀ r y, RowAt y r B (row tk) → Calls Try.prog 36 #[.pointer (some ⟨r, 0, none⟩), .pointer none, .int .i64 x] y fun e w' => e = .returned (.tuple #[.agg (zh32.map bv).toArray, .int .i64 10]) ∧ Below y.heap.size y w')
    ∧ (∀ r y, RowAt y r B (row tk) → Calls Try.prog 38 #[.pointer (some ⟨r, 0, none⟩), .pointer none, .int .i64 x] y fun e w' => e = .returned (.tuple #[.agg (zh32.map bv).toArray, .int .i64 10]) ∧ RowAt w' r B (row tk) ∧ y.grownBy w' (some r) ∧ RowMove y w' r B)
    ∧ (∀ r y, RowAt y r B (row tk) → Calls Try.prog 40 #[.pointer (some ⟨r, 0, none⟩), .int .i64 x] y fun e w' => e = .returned (.bool true) ∧ Below y.heap.size y w') := by
  have hmem := row_mem (B := B) (tk := tk) ha
  have hok : RowOk B (row tk) := ⟨fun s hs => ⟨(hmem s (by rw [← hrow]; exact hs)).1, (hmem s (by rw [← hrow]; exact hs)).2.1⟩, hl⟩
  have e := row_gone a B x tk hw ht
  have hw2 : 0 ≤ x ∧ x < ((2 ^ B : Nat) : Int) := by simpa [withinT] using hw
  refine ⟨fun v y => ?_, fun v y hi hn => ?_, fun r y hy => ?_, fun r y hy => ?_, fun r y hy => ?_⟩
  · have := RWithin_calls a B v x y ha hB2
    rw [hw] at this
    exact this
  · have := RGone_calls a B v tk x y ha hi hn
    have e2 : takenT tk x = true := by rw [takenT, List.any_eq_true]; exact ⟨_, ht, by simp; omega⟩
    rw [e2] at this
    exact this
  · skip
    have := Look_calls r B x _ y hy hB2 hok hx1 hx2
    rw [hrow, e.2.1] at this
    exact this
  · have := Take2_calls r B x _ y hy hB2 hok hx1 hx2
    rw [hrow, e.2.1, e.1] at this
    rw [hrow]
    exact this
  · have := Gone_calls r B x _ y hy hB2 (fun s hs => (hok.1 s hs).1) hl hx1 hx2
    rw [hrow, e.2.2] at this
    exact this
theorem plays_ok (a : List UInt8) (B : Nat) (tk : List Nat) (x : Int) (row : List Nat → List Sd) (hrow : row = rowT a B) (ha : a.length = 32) (hB2 : B ≤ 32) (hx1 : -9223372036854775808 ≤ x) (hx2 : x ≤ 9223372036854775807) (hl : (row tk).length ≤ 1000000) (hw : withinT B x = true) (ht : x.toNat ∉ tk) : ∃ k : List UInt8, k.length = 32
    ∧ (∀ v y, Calls Try.prog 42 #[.agg (rcells a B v).toArray, .int .i64 x] y fun e w' => e = .returned (.agg (k.map bv).toArray) ∧ Below y.heap.size y w')
    ∧ (∀ v y, Calls Try.prog 41 #[.agg (rcells a B v).toArray, .int .i64 x] y fun e w' => e = .returned (.bool true) ∧ Below y.heap.size y w')
    ∧ (∀ v y, IntsAt y v tk → tk.length ≤ 1000000 → Calls Try.prog 78 #[.agg (rcells a B v).toArray, .int .i64 x] y fun e w' => e = .returned (.bool false) ∧ Below y.heap.size y w')
    ∧ (∀ r y, RowAt y r B (row tk) → Calls Try.prog 36 #[.pointer (some ⟨r, 0, none⟩), .pointer none, .int .i64 x] y fun e w' => e = .returned (.tuple #[.agg (k.map bv).toArray, .int .i64 0]) ∧ Below y.heap.size y w')
    ∧ (∀ r y, RowAt y r B (row tk) → Calls Try.prog 38 #[.pointer (some ⟨r, 0, none⟩), .pointer none, .int .i64 x] y fun e w' => e = .returned (.tuple #[.agg (k.map bv).toArray, .int .i64 0]) ∧ RowAt w' r B (row (tk ++ [x.toNat])) ∧ y.grownBy w' (some r) ∧ RowMove y w' r B)
    ∧ (∀ r y, RowAt y r B (row tk) → Calls Try.prog 40 #[.pointer (some ⟨r, 0, none⟩), .int .i64 x] y fun e w' => e = .returned (.bool false) ∧ Below y.heap.size y w') := by
  have hmem := row_mem (B := B) (tk := tk) ha
  have hok : RowOk B (row tk) := ⟨fun s hs => ⟨(hmem s (by rw [← hrow]; exact hs)).1, (hmem s (by rw [← hrow]; exact hs)).2.1⟩, hl⟩
  have e := row_take a B x tk hw ht
  have hw2 : 0 ≤ x ∧ x < ((2 ^ B : Nat) : Int) := by simpa [withinT] using hw
  have hpow : (2 ^ B : Nat) ≤ 4294967296 := Nat.pow_le_pow_right (n := 2) (by omega) hB2
  refine ⟨keyT (atD x.toNat B a), keyT_len _, fun v y => ?_, fun v y => ?_, fun v y hi hn => ?_, fun r y hy => ?_, fun r y hy => ?_, fun r y hy => ?_⟩
  · have := RKey_calls a B v x.toNat y ha (by omega) (by omega)
    rw [show ((x.toNat : Nat) : Int) = x by omega] at this
    exact this
  · have := RWithin_calls a B v x y ha hB2
    rw [hw] at this
    exact this
  · have := RGone_calls a B v tk x y ha hi hn
    have e2 : takenT tk x = false := by
      rw [takenT, List.any_eq_false]
      intro z hz
      simp
      intro e
      exact ht (by rw [← e]; simpa using hz)
    rw [e2] at this
    exact this
  · skip
    have := Look_calls r B x _ y hy hB2 hok hx1 hx2
    rw [hrow, e.2.1] at this
    exact this
  · have := Take2_calls r B x _ y hy hB2 hok hx1 hx2
    rw [hrow, e.2.1, e.1] at this
    rw [hrow]
    exact this
  · have := Gone_calls r B x _ y hy hB2 (fun s hs => (hok.1 s hs).1) hl hx1 hx2
    rw [hrow, e.2.2] at this
    exact this
end Go.Proofs.Ytnfegmcdljejnaa
