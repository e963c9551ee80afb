/-
  The wire's writer, the other calls: Text, Flag, Hash, End.
-/
import Derived.Test.YtlomofcnknpciaaWireWH
import Derived.Test.YtlomofcnknpciaaWireW
import Derived.Test.YtlomofcnknpciaaKit0
import Derived.Lib.AppendStr
import Derived.Deep.AppendLies
import Derived.Deep.RegionLaw
set_option linter.unusedSimpArgs false
set_option linter.unusedVariables false
namespace Go.Proofs.Ytlomofcnknpciaa
open Go.RowKit

set_option maxHeartbeats 1000000 in
theorem textOk_calls (base b : Nat) (bs : List UInt8) (bad : Bool) (s : List UInt8) (w : World) (h : WriterIs base w b bs bad) (hs : base ≤ w.heap.size) (hl : bs.length ≤ 549755813888) (hn : s.length ≤ 65536) :
    Calls Try.prog 115 #[.pointer (some ⟨b, 0, none⟩), .string (str s)] w fun e w' => e = .returned (.tuple #[]) ∧ WriterIs base w' b (bs ++ numB s.length ++ s) bad ∧ WK base w w' := by
  have hb0 := h.1
  go_enter Try.func115, Try.ntmps115
  go_wp2_with fail
  refine (num_calls base b bs bad _ _ h hs (by omega) (by omega) (by omega)).mono ?_
  rintro e w1 ⟨rfl, hw1, hbel1⟩
  rw [Int.toNat_natCast] at hw1
  have hnl := numB_len s.length
  have hbl : (bs ++ numB s.length).length ≤ 1099511627776 := by simp; omega
  generalize hB : bs ++ numB s.length = bs1 at hw1 hbl
  have HB := Lib.hid hB
  clear hB hnl h
  obtain ⟨_, v1, h2, h3⟩ := hw1
  obtain ⟨ao, c, rfl⟩ := own_slice h3
  have hc := h2.cell 0 _ rfl
  have hf := h2.free 0
  have hs1 : base ≤ w1.heap.size := Nat.le_trans hs hbel1.size
  obtain ⟨i, hi, hz0, hz1, hz2⟩ := info_parts Try.infoU8
  go_wp2_with (at_builtin; refine Lib.wpList_append_own_string (w := w1) rfl _ _ 69 9 rfl base 5 i Try.underlying69 Try.underlying9 hi hz0 hz1 hz2 _ _ _ rfl h3 _ rfl ?_ ?_ hs1 ?_)
  · rw [str_size]; unfold maxLen; omega
  · rw [str_size]; omega
  intro v' w2 hown hgrow _
  obtain ⟨ao', c', rfl⟩ := own_slice hown
  obtain ⟨hb1, hown1, hb2, hbel⟩ := put_field (B := 0) hb0 h2 h3 hown hgrow hs1
  have hc1 := hb1.cell 0 _ rfl
  have hf1 := hb1.free 0
  clear hown hgrow h3 h2 hc hf hb1
  have HBel := Lib.hid (hbel1.trans hbel)
  clear hbel
  go_wp2
  go_returns
  refine ⟨rfl, ⟨hb0, _, hb2, ?_⟩, HBel.out⟩
  rw [HB.out, List.map_append, List.length_append]
  exact hown1

theorem textBad_calls (base b : Nat) (bs : List UInt8) (bad : Bool) (s : List UInt8) (w : World) (h : WriterIs base w b bs bad) (hn : 65536 < s.length) (hm : s.length ≤ maxLen) :
    Calls Try.prog 115 #[.pointer (some ⟨b, 0, none⟩), .string (str s)] w fun e w' => e = .returned (.tuple #[]) ∧ WriterIs base w' b bs true ∧ WK base w w' := by
  obtain ⟨h1, v, h2, h3⟩ := h
  have hc := h2.cell 1 _ rfl
  have hf := h2.free 1
  unfold maxLen at hm
  go_enter Try.func115, Try.ntmps115
  go_wp2
  go_returns
  exact ⟨rfl, ⟨h1, v, by simpa using h2.set 1 (.bool true), ownsRow_setCell_other h3 (own_ne h3 h2 (by decide)) _⟩, (Below.refl _ _).setCell h1 _, (Typed.refl _ _).set h2 (by decide) 1 _⟩

end Go.Proofs.Ytlomofcnknpciaa
