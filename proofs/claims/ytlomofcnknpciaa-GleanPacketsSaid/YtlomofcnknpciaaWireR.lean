/-
  The wire's reader: what each call does, as a contract over any world.
-/
import Derived.Test.YtlomofcnknpciaaWireW
import Derived.Test.YtlomofcnknpciaaKit0
set_option linter.unusedSimpArgs false
set_option linter.unusedVariables false
namespace Go.Proofs.Ytlomofcnknpciaa
open Go.RowKit

/-- Block b is a reader with the bytes l left, and the error err. -/
def ReaderIs (w : World) (b : Nat) (s : List UInt8 × Int) : Prop := Blk w b #[.string (str s.1), .int .i64 s.2] 226

theorem From_calls (l : List UInt8) (w : World) : Calls Try.prog 117 #[.string (str l)] w fun e w' => e = .returned (.pointer (some ⟨w.heap.size, 0, none⟩)) ∧ ReaderIs w' w.heap.size (l, 0) ∧ Below w.heap.size w w' := by
  go_enter Try.func117, Try.ntmps117
  go_wp2
  go_returns
  exact ⟨rfl, Blk.new _ _ _, (Below.refl _ _).alloc (Nat.le_refl _) _⟩

theorem takeErr_calls (b : Nat) (l : List UInt8) (err : Int) (n : Int) (w : World) (h : ReaderIs w b (l, err)) (he : err ≠ 0) :
    Calls Try.prog 156 #[.pointer (some ⟨b, 0, none⟩), .int .i64 n] w fun e w' => e = .returned (.tuple #[.string (str []), .bool false]) ∧ w = w' := by
  have hc1 := h.cell 1 _ rfl
  have he' : (err != 0) = true := by simp [he]
  go_enter Try.func156, Try.ntmps156
  go_wp2
  go_returns
  exact ⟨rfl, rfl⟩
theorem takeShort_calls (b : Nat) (l : List UInt8) (n : Int) (w : World) (h : ReaderIs w b (l, 0)) (hm : l.length ≤ 1099511627776) (hs : (l.length : Int) < n) :
    Calls Try.prog 156 #[.pointer (some ⟨b, 0, none⟩), .int .i64 n] w fun e w' => e = .returned (.tuple #[.string (str []), .bool false]) ∧ ReaderIs w' b (l, 2) ∧ w.grownBy w' (some b) := by
  have hc0 := h.cell 0 _ rfl
  have hc1 := h.cell 1 _ rfl
  have hf1 := h.free 1
  go_enter Try.func156, Try.ntmps156
  go_wp2
  go_returns
  exact ⟨rfl, by simpa [ReaderIs] using h.set 1 (.int .i64 2), grown_set (World.grownBy.refl _ _) _ _⟩
theorem takeOk_calls (b : Nat) (l : List UInt8) (n : Int) (w : World) (h : ReaderIs w b (l, 0)) (hm : l.length ≤ 1099511627776) (h0 : 0 ≤ n) (hs : n ≤ (l.length : Int)) :
    Calls Try.prog 156 #[.pointer (some ⟨b, 0, none⟩), .int .i64 n] w fun e w' => e = .returned (.tuple #[.string (str (l.take n.toNat)), .bool true]) ∧ ReaderIs w' b (l.drop n.toNat, 0) ∧ w.grownBy w' (some b) := by
  have hc0 := h.cell 0 _ rfl
  have hc1 := h.cell 1 _ rfl
  have hf0 := h.free 0
  go_enter Try.func156, Try.ntmps156
  go_wp2
  go_returns
  refine ⟨rfl, ?_, grown_set (World.grownBy.refl _ _) _ _⟩
  rw [List.take_of_length_le (by simp)]
  have := h.set 0 (.string (str (l.drop n.toNat)))
  simpa [ReaderIs] using this

theorem Err_calls (b : Nat) (s : List UInt8 × Int) (w : World) (h : ReaderIs w b s) : Calls Try.prog 157 #[.pointer (some ⟨b, 0, none⟩)] w fun e w' => e = .returned (.int .i64 s.2) ∧ w = w' := by
  have hc1 := h.cell 1 _ rfl
  go_enter Try.func157, Try.ntmps157
  go_wp2
  go_returns
  exact ⟨rfl, rfl⟩

/-- Fail. -/
def rFail (e : Int) (s : List UInt8 × Int) : List UInt8 × Int := if s.2 = 0 then (s.1, e) else s
theorem Fail_calls (b : Nat) (s : List UInt8 × Int) (e : Int) (w : World) (h : ReaderIs w b s) : Calls Try.prog 119 #[.pointer (some ⟨b, 0, none⟩), .int .i64 e] w fun r w' => r = .returned (.tuple #[]) ∧ ReaderIs w' b (rFail e s) ∧ w.grownBy w' (some b) := by
  obtain ⟨l, err⟩ := s
  have hc1 := h.cell 1 _ rfl
  have hf1 := h.free 1
  by_cases he : err = 0
  · subst he
    have R : Hid (rFail e (l, 0) = (l, e)) := rfl
    go_enter Try.func119, Try.ntmps119
    go_wp2
    go_returns
    rw [R.out]
    exact ⟨rfl, by simpa [ReaderIs] using h.set 1 (.int .i64 e), grown_set (World.grownBy.refl _ _) _ _⟩
  · have R : Hid (rFail e (l, err) = (l, err)) := by show _ = _; simp [rFail, he]
    have he' : (err == 0) = false := by simp [he]
    go_enter Try.func119, Try.ntmps119
    go_wp2
    go_returns
    rw [R.out]
    exact ⟨rfl, h, World.grownBy.refl _ _⟩

/-- End. -/
def rEnd (s : List UInt8 × Int) : Int := if s.2 = 0 ∧ s.1 ≠ [] then 4 else s.2
theorem REnd_calls (b : Nat) (s : List UInt8 × Int) (w : World) (h : ReaderIs w b s) : Calls Try.prog 125 #[.pointer (some ⟨b, 0, none⟩)] w fun e w' => e = .returned (.int .i64 (rEnd s)) ∧ w = w' := by
  obtain ⟨l, err⟩ := s
  have hc0 := h.cell 0 _ rfl
  have hc1 := h.cell 1 _ rfl
  by_cases he : err = 0
  · subst he
    cases l with
    | nil =>
      go_enter Try.func125, Try.ntmps125
      go_wp2
      go_returns
      exact ⟨rfl, rfl⟩
    | cons c l =>
      have R : Hid (rEnd (c :: l, 0) = 4) := by show _ = _; simp [rEnd]
      go_enter Try.func125, Try.ntmps125
      go_wp2
      go_returns
      rw [R.out]
      exact ⟨rfl, rfl⟩
  · have R : Hid (rEnd (l, err) = err) := by show _ = _; simp [rEnd, he]
    have he' : (err == 0) = false := by simp [he]
    go_enter Try.func125, Try.ntmps125
    go_wp2
    go_returns
    rw [R.out]
    exact ⟨rfl, rfl⟩

end Go.Proofs.Ytlomofcnknpciaa
