/-
  The document's 'Common'.
-/
import Derived.Test.YtdmjiokeangmmaaBoughJ
set_option linter.unusedSimpArgs false
set_option linter.unusedVariables false
namespace Go.Proofs.Ytdmjiokeangmmaa.Bg
open Go.RowKit Go.Shelf

theorem leaf_leaves : ∀ n, n < 65 → ∀ a, a < 64 → there n (2 * a) = true → leaves n (2 * a) = (a, a + 1) := by decide +kernel
theorem root_leaves : ∀ n, n < 65 → there n 0 = true → leaves n (root n) = (0, n) ∧ there n (root n) = true := by decide +kernel
theorem leaf_there (n a : Nat) (h : a < n) (h2 : n ≤ 64) : there n (2 * a) = true := by unfold there; simp; omega

theorem above_pos (n x : Nat) (h : there n x = true) (hx : x ≠ root n) : 0 ≤ above n x := by
  have h2 : x < 127 ∧ n < 65 := by unfold there at h; simp at h; omega
  obtain ⟨r, hr⟩ := Option.isSome_iff_exists.1 (above_ok n h2.2 x h2.1 h hx)
  unfold above
  rw [if_neg hx, hr]
  exact Int.natCast_nonneg r

theorem root_mem (n : Nat) : ∀ (m x : Nat), (ups n x).length ≤ m → there n x = true → x = root n ∨ ((root n : Nat) : Int) ∈ ups n x
  | m, x, hm, h => by
    by_cases hx : x = root n
    · exact .inl hx
    · right
      have h2 : x < 127 ∧ n < 65 := by unfold there at h; simp at h; omega
      have hp := above_pos n x h hx
      have ha : aboveI n x = above n x := by unfold aboveI; rw [thereI_of, if_pos h, Int.toNat_natCast, Int.toNat_natCast]
      have ht := above_there n h2.2 x h2.1 h hp
      obtain ⟨r, hr⟩ : ∃ r : Nat, above n x = r := ⟨(above n x).toNat, by omega⟩
      rw [hr] at ha ht hp
      rw [Int.toNat_natCast] at ht
      have hu := ups_yes (n := n) (x := x) (by rw [ha]; omega)
      rw [ha] at hu
      rw [hu] at hm ⊢
      cases m with
      | zero => simp at hm
      | succ m =>
        rcases root_mem n m r (by simp at hm; omega) ht with h3 | h3
        · rw [h3]; exact List.mem_cons_self
        · exact List.mem_cons_of_mem _ h3

theorem holds_root (N A B : Int) (h : inI N A B = true) : holdsI N ((root N.toNat : Nat) : Int) B = true := by
  unfold inI at h; simp at h
  obtain ⟨n, rfl⟩ : ∃ n : Nat, N = n := ⟨N.toNat, by omega⟩
  have ht : there n 0 = true := by unfold there; simp; omega
  obtain ⟨h1, h2⟩ := root_leaves n (by omega) ht
  unfold holdsI leavesI
  rw [Int.toNat_natCast, thereI_of, if_pos h2, Int.toNat_natCast, h1]
  simp; omega
theorem some_holds (N A B : Int) (h : inI N A B = true) : ∃ q ∈ 2 * A :: ups N (2 * A), holdsI N q B = true := by
  have hr := holds_root N A B h
  unfold inI at h; simp at h
  obtain ⟨n, rfl⟩ : ∃ n : Nat, N = n := ⟨N.toNat, by omega⟩
  obtain ⟨a, rfl⟩ : ∃ a : Nat, A = a := ⟨A.toNat, by omega⟩
  rw [Int.toNat_natCast] at hr
  have hc : (2 * (a : Int)) = ((2 * a : Nat) : Int) := by omega
  refine ⟨_, ?_, hr⟩
  rw [hc]
  rcases root_mem n _ (2 * a) (Nat.le_refl _) (leaf_there n a (by omega) (by omega)) with h3 | h3
  · rw [← h3]; exact List.mem_cons_self
  · exact List.mem_cons_of_mem _ h3
theorem holds_leaf (N A B : Int) (h : inI N A B = true) : holdsI N (2 * A) B = decide (A = B) := by
  unfold inI at h; simp at h
  obtain ⟨n, rfl⟩ : ∃ n : Nat, N = n := ⟨N.toNat, by omega⟩
  obtain ⟨a, rfl⟩ : ∃ a : Nat, A = a := ⟨A.toNat, by omega⟩
  have hc : (2 * (a : Int)) = ((2 * a : Nat) : Int) := by omega
  have ht := leaf_there n a (by omega) (by omega)
  have hl := leaf_leaves n (by omega) a (by omega) ht
  unfold holdsI leavesI
  rw [hc, thereI_of, if_pos ht, Int.toNat_natCast, Int.toNat_natCast, hl]
  rw [Bool.eq_iff_iff]
  simp; omega

theorem rholds_eq (n x l : Int) : rholdsI n x l = holdsI n x l := by unfold rholdsI holdsI; rw [leavesI_eq]
theorem RHolds' (n x l : Int) (w : World) : Calls Try.prog 22 #[.int .i64 n, .int .i64 x, .int .i64 l] w fun e w' => e = .returned (.bool (holdsI n x l)) ∧ w = w' := by
  rw [← rholds_eq]; exact RHolds_calls n x l w

def firstI (N B y : Int) : Int := if holdsI N y B then y else ((ups N y).find? (fun p => holdsI N p B)).getD (-1)
theorem firstI_next {N B y : Int} (h : holdsI N y B = false) (h2 : ¬ aboveI N y < 0) : firstI N B y = firstI N B (aboveI N y) := by
  unfold firstI
  rw [if_neg (by simp [h]), ups_yes h2, List.find?_cons]
  cases holdsI N (aboveI N y) B <;> simp

set_option maxRecDepth 100000 in
set_option maxHeartbeats 1000000 in
theorem rcommon_yes (N A B : Int) (h : inI N A B = true) (w : World) :
    Calls Try.prog 18 #[.int .i64 N, .int .i64 A, .int .i64 B] w fun e W' => e = .returned (.int .i64 (commonI N A B)) ∧ w = W' := by
  have hs := Lib.hid (some_holds N A B h)
  have hf : Hid (firstI N B (2 * A) = commonI N A B) := by
    show _ = _
    unfold firstI commonI comI
    rw [holds_leaf N A B h, if_pos h]
    simp
  unfold inI at h; simp at h
  obtain ⟨⟨⟨⟨h1, h2⟩, h3⟩, h4⟩, h5⟩ := h
  have hT : thereI N 0 = true := by unfold thereI; simp; omega
  generalize commonI N A B = R at *
  go_enter Try.func18, Try.ntmps18
  go_wp2_with fail
  refine (rthere_calls N 0 _).mono ?_
  rintro e w1 ⟨rfl, rfl⟩
  rw [hT]
  go_wp2_with fail
  go_loopw [7] (fun p wr => ∃ y : Int, p = .int .i64 y ∧ Hid (firstI N B y = R) ∧ Hid (∃ q ∈ y :: ups N y, holdsI N q B = true) ∧ w = wr) (fun p _ => (ups N (intOf p)).length)
  case atStart => exact ⟨2 * A, rfl, hf, hs, rfl⟩
  case round =>
    obtain ⟨y, rfl, hy, hq, rfl⟩ := hrel
    cases hh : holdsI N y B with
    | true =>
      have hR : Hid (y = R) := by have := hy.out; unfold firstI at this; rw [if_pos hh] at this; exact this
      go_wp2_with fail
      refine (RHolds' N y B _).mono ?_
      rintro e w2 ⟨rfl, rfl⟩
      rw [hh]
      go_wp2
      go_returns
      rw [hR.out]
      exact ⟨rfl, rfl⟩
    | false =>
      have hp : ¬ aboveI N y < 0 := by
        intro hn
        obtain ⟨q, hm, hq2⟩ := hq.out
        rw [ups_no hn] at hm
        simp at hm
        subst hm
        rw [hh] at hq2; cases hq2
      have hu := ups_yes hp
      have hy2 : Hid (firstI N B (aboveI N y) = R) := by show _ = _; rw [← firstI_next hh hp]; exact hy.out
      have hq2 : Hid (∃ q ∈ aboveI N y :: ups N (aboveI N y), holdsI N q B = true) := by
        obtain ⟨q, hm, hq2⟩ := hq.out
        rcases List.mem_cons.1 hm with rfl | hm
        · rw [hh] at hq2; cases hq2
        · exact ⟨q, by rw [← hu]; exact hm, hq2⟩
      have HU := Lib.hid hu
      clear hu hq hy
      go_wp2_with fail
      refine (RHolds' N y B _).mono ?_
      rintro e w2 ⟨rfl, rfl⟩
      rw [hh]
      go_wp2_with fail
      refine (RAbove' N y _).mono ?_
      rintro e w2 ⟨rfl, rfl⟩
      go_wp2_with fail
      go_roundw
      case rel => exact ⟨aboveI N y, rfl, hy2, hq2, trivial⟩
      case measure => show (ups N (aboveI N y)).length < (ups N y).length; rw [HU.out, List.length_cons]; omega

set_option maxRecDepth 100000 in
set_option maxHeartbeats 1000000 in
theorem rcommon_no (N A B : Int) (h : inI N A B = false) (w : World) :
    Calls Try.prog 18 #[.int .i64 N, .int .i64 A, .int .i64 B] w fun e W' => e = .returned (.int .i64 (-1)) ∧ w = W' := by
  by_cases h0 : 0 ≤ A ∧ 0 ≤ B ∧ A < N ∧ B < N
  · have hT : thereI N 0 = false := by unfold inI at h; unfold thereI; simp at h ⊢; omega
    obtain ⟨h1, h2, h3, h4⟩ := h0
    clear h
    go_enter Try.func18, Try.ntmps18
    go_wp2_with fail
    refine (rthere_calls N 0 _).mono ?_
    rintro e w1 ⟨rfl, rfl⟩
    rw [hT]
    go_wp2
    go_returns
    exact ⟨rfl, rfl⟩
  · clear h
    by_cases h1 : A < 0
    · clear h0
      go_enter Try.func18, Try.ntmps18
      go_wp2
      go_returns
      exact ⟨rfl, rfl⟩
    · by_cases h2 : B < 0
      · clear h0
        go_enter Try.func18, Try.ntmps18
        go_wp2
        go_returns
        exact ⟨rfl, rfl⟩
      · by_cases h3 : N ≤ A
        · clear h0
          go_enter Try.func18, Try.ntmps18
          go_wp2
          go_returns
          exact ⟨rfl, rfl⟩
        · have h4 : N ≤ B := by omega
          clear h0
          go_enter Try.func18, Try.ntmps18
          go_wp2
          go_returns
          exact ⟨rfl, rfl⟩
theorem RCommon_calls (N A B : Int) (w : World) :
    Calls Try.prog 18 #[.int .i64 N, .int .i64 A, .int .i64 B] w fun e W' => e = .returned (.int .i64 (commonI N A B)) ∧ w = W' := by
  cases h : inI N A B with
  | true => exact rcommon_yes N A B h w
  | false => unfold commonI; rw [h]; exact rcommon_no N A B h w
end Go.Proofs.Ytdmjiokeangmmaa.Bg
