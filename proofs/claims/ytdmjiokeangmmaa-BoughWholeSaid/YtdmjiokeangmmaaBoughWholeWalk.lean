/-
  BoughWhole: the walk.
-/
import Derived.Test.YtdmjiokeangmmaaBoughWholeFacts
set_option linter.unusedSimpArgs false
set_option linter.unusedVariables false
namespace Go.Proofs.Ytdmjiokeangmmaa
open Go.RowKit Bg

set_option maxRecDepth 100000 in
set_option maxHeartbeats 4000000 in
theorem walkBoughWhole (s : Int) (hs : (Lit.int .u8 s).wf = true) (w : World) : Calls Try.prog 12 #[.int .u8 s] w fun e w' => e = .returned (.bool true) ∧ Below w.heap.size w w' := by
  have h1 := bounds_u8 hs
  clear hs
  go_enter Try.func12, Try.ntmps12
  go_wp2_with fail
  refine (Bg.awake_calls _).mono ?_
  rintro e w1 ⟨rfl, s1⟩
  have hN : 1 ≤ 1 + s % 64 ∧ 1 + s % 64 ≤ 64 := by omega
  have S1 := Lib.hid s1
  clear s1
  go_wp2_with fail
  generalize 1 + s % 64 = N at *
  go_loopw [4] (fun i wr => ∃ x : Int, i = .int .i64 x ∧ 0 ≤ x ∧ x ≤ 2 * N - 1 ∧ Hid (Below w.heap.size w wr)) (fun i _ => (2 * N - 1 - intOf i).toNat)
  case atStart => exact ⟨0, rfl, by omega, by omega, S1⟩
  case round =>
    obtain ⟨x, rfl, hx0, hx1, hbel⟩ := hrel
    by_cases hlt : x ≤ 2 * N - 2
    · have hT : thereI N x = true := by unfold thereI; simp; omega
      have LC := fun w => Leaves_calls N x w
      have LF := fun w => Left_calls N x w
      have RF := fun w => Right_calls N x w
      by_cases hp : x % 2 = 0
      · obtain ⟨f1, f2, f3⟩ := even_facts N x hT hp
        rw [f3] at LC
        rw [f1] at LF
        rw [f2] at RF
        clear f1 f2 f3 hT
        go_wp2_with fail
        refine (LC _).mono ?_
        rintro e w2 ⟨rfl, rfl⟩
        go_wp2_with fail
        refine (LF _).mono ?_
        rintro e w2 ⟨rfl, rfl⟩
        go_wp2_with fail
        refine (RF _).mono ?_
        rintro e w2 ⟨rfl, rfl⟩
        go_wp2_with fail
        refine (Direct_calls N (x / 2) _).mono ?_
        rintro e w3 ⟨v, rfl, hv, b3⟩
        obtain ⟨ao, c, rfl⟩ := own_slice hv
        have h6 := dir_six N (x / 2)
        generalize (dirI N (x / 2)).length = k at *
        have HB : Hid (Below w.heap.size w w3) := bl hbel.out b3
        clear hv b3
        go_wp2_with fail
        go_roundw
        case rel => exact ⟨x + 1, rfl, by omega, by omega, HB⟩
        case measure => simp [intOf]; omega
      · obtain ⟨m, f1, f2, f3, f4, f5, f6⟩ := odd_facts N x hT hp
        have L2 := fun w => Leaves_calls N (leftI N x) w
        have L3 := fun w => Leaves_calls N (rightI N x) w
        have A1 := fun w => Above_calls N (leftI N x) w
        have A2 := fun w => Above_calls N (rightI N x) w
        have B1 := fun w => Beside_calls N (leftI N x) w
        have B2 := fun w => Beside_calls N (rightI N x) w
        rw [f1] at L2
        rw [f2] at L3
        rw [f3] at A1
        rw [f4] at A2
        rw [f5] at B1
        rw [f6] at B2
        clear f1 f2 f3 f4 f5 f6 hT
        generalize leftI N x = l at *
        generalize rightI N x = r at *
        generalize (leavesI N x).1 = lo at *
        generalize (leavesI N x).2 = hi at *
        go_wp2_with fail
        refine (LC _).mono ?_
        rintro e w2 ⟨rfl, rfl⟩
        go_wp2_with fail
        refine (LF _).mono ?_
        rintro e w2 ⟨rfl, rfl⟩
        go_wp2_with fail
        refine (RF _).mono ?_
        rintro e w2 ⟨rfl, rfl⟩
        go_wp2_with fail
        refine (L2 _).mono ?_
        rintro e w2 ⟨rfl, rfl⟩
        go_wp2_with fail
        refine (L3 _).mono ?_
        rintro e w2 ⟨rfl, rfl⟩
        go_wp2_with fail
        refine (A1 _).mono ?_
        rintro e w2 ⟨rfl, t2⟩
        go_wp2_with fail
        refine (A2 _).mono ?_
        rintro e w3 ⟨rfl, t3⟩
        go_wp2_with fail
        refine (B1 _).mono ?_
        rintro e w4 ⟨rfl, t4⟩
        go_wp2_with fail
        refine (B2 _).mono ?_
        rintro e w5 ⟨rfl, t5⟩
        have HB : Hid (Below w.heap.size w w5) := bs (bs (bs (bs hbel.out t2) t3) t4) t5
        clear t2 t3 t4 t5
        go_wp2_with fail
        go_roundw
        case rel => exact ⟨x + 1, rfl, by omega, by omega, HB⟩
        case measure => simp [intOf]; omega
    · obtain ⟨f1, f2⟩ := root_facts N hN.1 hN.2
      have RC := fun w => Root_calls N w
      have LC := fun w => Leaves_calls N (rootI N) w
      have AC := fun w => Above_calls N (rootI N) w
      rw [f1] at LC
      rw [f2] at AC
      clear f1 f2
      generalize rootI N = R at *
      go_wp2_with fail
      refine (RC _).mono ?_
      rintro e w2 ⟨rfl, rfl⟩
      go_wp2_with fail
      refine (LC _).mono ?_
      rintro e w2 ⟨rfl, rfl⟩
      go_wp2_with fail
      refine (RC _).mono ?_
      rintro e w2 ⟨rfl, rfl⟩
      go_wp2_with fail
      refine (AC _).mono ?_
      rintro e w2 ⟨rfl, t2⟩
      go_wp2
      go_returns
      exact ⟨rfl, bs hbel.out t2⟩
end Go.Proofs.Ytdmjiokeangmmaa
