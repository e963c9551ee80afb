/-
  A note that was handed in.
-/
import Derived.Test.YtjlpdbaknhbgdaaGreatQChat
import Derived.Test.YtjlpdbaknhbgdaaGreatQBase
import Derived.WalkLawsBesides
import Derived.Outline
import Derived.Handy
set_option linter.unusedSimpArgs false
set_option linter.unusedVariables false
namespace Go.Proofs.YtjlpdbaknhbgdaaGreat
open Go.RowKit

theorem str_exN (s : ByteArray) : ∃ l, s = str l := ⟨_, str_eta s⟩
theorem Tryz.cellsNt : Tryz.prog.cellsOf 86 = 36 := by kernel_rfl
theorem Tryz.cellsNt_h : Tryz.prog.cellsOf 23 = 32 := by kernel_rfl
theorem Tryz.cellsNt_i : Tryz.prog.cellsOf 3 = 1 := by kernel_rfl
theorem Tryz.cellsNt_s : Tryz.prog.cellsOf 9 = 1 := by kernel_rfl
section
open Go.ChangeShapes Go.WideShapes
variable {H : Type} {enc : TypeId × Value → H} {w : World} {base : Nat} {spare : Nat → Bool} {held : Bool} {fuel : Nat} {x : DataW H × List MemPlace}
theorem trod_i64N {l : List Value} (h : DataW.trod enc Tryz.prog w base spare held fuel 3 l = some x) : ∃ n : Int, l = [.int .i64 n] ∧ -9223372036854775808 ≤ n ∧ n ≤ 9223372036854775807 := by
  obtain ⟨n, e1, e2, wf⟩ := DataW.trod_int Tryz.underlying3 h
  have hb := bounds_i64 wf
  exact ⟨n, e1, hb.1, hb.2⟩
theorem trod_strN {l : List Value} (h : DataW.trod enc Tryz.prog w base spare held fuel 9 l = some x) : ∃ s : List UInt8, l = [.string (str s)] ∧ s.length ≤ maxLen := by
  obtain ⟨s, e1, e2, hm⟩ := DataW.trod_string Tryz.underlying9 h
  obtain ⟨t, rfl⟩ := str_exN s
  exact ⟨t, e1, by rwa [str_size] at hm⟩
theorem nt_join (l : List Value) (h : l.length = 36) : l = (l.drop 0).take 32 ++ ((l.drop 32).take 1 ++ ((l.drop 33).take 1 ++ ((l.drop 34).take 1 ++ (l.drop 35).take 1))) := by
  have e : ∀ (a n m : Nat), (l.drop a).take n ++ (l.drop (a + n)).take m = (l.drop a).take (n + m) := fun a n m => by rw [← List.drop_drop, ← List.take_add]
  rw [e 34 1 1, e 33 1 2, e 32 1 3, e 0 32 4, List.drop_zero, List.take_of_length_le (by omega)]
set_option maxRecDepth 100000 in
theorem trod_note {l : List Value} (h : DataW.trod enc Tryz.prog w base spare held fuel 86 l = some x) : ∃ n : NoteA, n.s.length ≤ maxLen ∧ (-9223372036854775808 ≤ n.d ∧ n.d ≤ 9223372036854775807) ∧ (-9223372036854775808 ≤ n.a ∧ n.a ≤ 9223372036854775807) ∧ (-9223372036854775808 ≤ n.g ∧ n.g ≤ 9223372036854775807) ∧ l = n.cells := by
  obtain ⟨xs, m, _, _, hl, hx, hf⟩ := DataW.trod_struct Tryz.underlying86 h
  rw [Tryz.cellsNt] at hl
  match xs, hx with
  | [y0, y1, y2, y3, y4], _ =>
    have f0 : DataW.trod enc Tryz.prog w base spare held m 23 ((l.drop 0).take (Tryz.prog.cellsOf 23)) = some y0 := hf 0 _ rfl
    have f1 : DataW.trod enc Tryz.prog w base spare held m 3 ((l.drop 32).take (Tryz.prog.cellsOf 3)) = some y1 := hf 1 _ rfl
    have f2 : DataW.trod enc Tryz.prog w base spare held m 3 ((l.drop 33).take (Tryz.prog.cellsOf 3)) = some y2 := hf 2 _ rfl
    have f3 : DataW.trod enc Tryz.prog w base spare held m 3 ((l.drop 34).take (Tryz.prog.cellsOf 3)) = some y3 := hf 3 _ rfl
    have f4 : DataW.trod enc Tryz.prog w base spare held m 9 ((l.drop 35).take (Tryz.prog.cellsOf 9)) = some y4 := hf 4 _ rfl
    rw [Tryz.cellsNt_h] at f0
    rw [Tryz.cellsNt_i] at f1 f2 f3
    rw [Tryz.cellsNt_s] at f4
    obtain ⟨a, ha, e0⟩ := trod_hash f0
    obtain ⟨n1, e1, b1, c1⟩ := trod_i64N f1
    obtain ⟨n2, e2, b2, c2⟩ := trod_i64N f2
    obtain ⟨n3, e3, b3, c3⟩ := trod_i64N f3
    obtain ⟨s, e4, hs⟩ := trod_strN f4
    refine ⟨⟨a, n1, n2, n3, s, ha⟩, hs, ⟨b1, c1⟩, ⟨b2, c2⟩, ⟨b3, c3⟩, ?_⟩
    rw [nt_join l hl, e0, e1, e2, e3, e4]
    rfl
set_option maxRecDepth 100000 in
theorem open_note {v : Value} {d : DataW H} {p : List MemPlace} {r : Reach} {b0 : Nat} (hv : Value.okWide Tryz.prog w r b0 86 v) (h : DataW.Trod enc Tryz.prog w base spare held 86 v d p) : ∃ n : NoteA, n.s.length ≤ maxLen ∧ v = .agg n.cells.toArray := by
  simp only [Value.okWide, Tryz.underlying86] at hv
  obtain ⟨cs, rfl, _, _⟩ := hv
  obtain ⟨m, hm⟩ := h
  obtain ⟨n, h1, _, _, _, h2⟩ := trod_note hm
  simp only [Value.cells] at h2
  refine ⟨n, h1, ?_⟩
  congr 1
  apply Array.ext'
  exact h2
end
end Go.Proofs.YtjlpdbaknhbgdaaGreat
