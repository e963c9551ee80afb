/-
  The document's list, the whole of it; whether two lists are the same.
-/
import Derived.Test.YtdmjiokeangmmaaBoughG
set_option linter.unusedSimpArgs false
set_option linter.unusedVariables false
namespace Go.Proofs.Ytdmjiokeangmmaa.Bg
open Go.RowKit Go.Shelf

set_option maxRecDepth 100000 in
theorem rdirect_no (N L : Int) (h : ¬ (0 ≤ L ∧ L < N ∧ N ≤ 64)) (w : World) :
    Calls Try.prog 16 #[.int .i64 N, .int .i64 L] w fun e W' => e = .returned (.slice none 0 0) ∧ Below w.heap.size w W' := by
  by_cases h0 : L < 0
  · go_enter Try.func16, Try.ntmps16
    go_wp2
    go_returns
    exact ⟨rfl, Below.refl _ _⟩
  · by_cases h1 : N ≤ L
    · have h2 : 0 ≤ L := by omega
      clear h h0
      go_enter Try.func16, Try.ntmps16
      go_wp2
      go_returns
      exact ⟨rfl, Below.refl _ _⟩
    · have h2 : 0 ≤ L := by omega
      have h3 : L < N := by omega
      have hT : thereI N 0 = false := by unfold thereI; simp; omega
      clear h h0 h1
      go_enter Try.func16, Try.ntmps16
      go_wp2_with fail
      refine (rthere_calls N 0 _).mono ?_
      rintro e w1 ⟨rfl, rfl⟩
      rw [hT]
      go_wp2
      go_returns
      exact ⟨rfl, Below.refl _ _⟩

theorem RDirect_calls (N L : Int) (w : World) :
    Calls Try.prog 16 #[.int .i64 N, .int .i64 L] w fun e W' => ∃ v, e = .returned v ∧ W'.ownsRow w.heap.size 3 1 v (dirI N L).length ((dirI N L).map (Value.int .i64)) ∧ Below w.heap.size w W' := by
  unfold dirI
  by_cases h : 0 ≤ L ∧ L < N
  · rw [if_pos h]
    by_cases h64 : N ≤ 64
    · exact rdirect_yes N L h.1 h.2 h64 w
    · rw [ups_big (by omega) (2 * L)]
      exact (rdirect_no N L (by omega) w).mono fun e W' ⟨a, b⟩ => ⟨_, a, World.ownsRow_nil _ _ _ _, b⟩
  · rw [if_neg h]
    exact (rdirect_no N L (by omega) w).mono fun e W' ⟨a, b⟩ => ⟨_, a, World.ownsRow_nil _ _ _ _, b⟩

theorem own_at {w : World} {base : Nat} {e : TypeId} {v : Value} {xs : List Int} (h : w.ownsRow base e 1 v xs.length (xs.map (Value.int .i64))) (ao : Option Addr) (len cap : Nat) (hv : v = .slice ao len cap) (k : Nat) (hk : k < xs.length) :
    ∃ g, ao = some ⟨g, 0, none⟩ ∧ w.cell? ⟨g, k, none⟩ = some (.int .i64 xs[k]) := by
  obtain ⟨g, c, hv2, _, _⟩ := h.form (by omega)
  rw [hv] at hv2
  cases hv2
  subst hv
  refine ⟨g, rfl, ?_⟩
  have := h.cellAt k (by omega)
  rw [this]; simp [hk]

set_option maxRecDepth 100000 in
set_option maxHeartbeats 1000000 in
theorem Same_calls (b1 b2 : Nat) (v1 v2 : Value) (xs ys : List Int) (hx : xs.length ≤ 1000) (hy : ys.length ≤ 1000) (w : World) (h1 : w.ownsRow b1 3 1 v1 xs.length (xs.map (Value.int .i64))) (h2 : w.ownsRow b2 3 1 v2 ys.length (ys.map (Value.int .i64))) :
    Calls Try.prog 14 #[v1, v2] w fun e W' => e = .returned (.bool (xs == ys)) ∧ Still w W' := by
  obtain ⟨ao, c1, hv1⟩ := own_slice h1
  obtain ⟨bo, c2, hv2⟩ := own_slice h2
  have A1 := own_at h1 _ _ _ hv1
  have A2 := own_at h2 _ _ _ hv2
  subst hv1
  subst hv2
  clear h1 h2
  by_cases hl : xs.length = ys.length
  · obtain ⟨n, hn⟩ : ∃ n, xs.length = n := ⟨_, rfl⟩
    have H1 := Lib.hid hn
    have H2 := Lib.hid hl
    rw [← hl, hn]
    rw [hn] at hx
    clear hn hl hy
    go_enter Try.func14, Try.ntmps14
    go_wp2_with fail
    go_loopw [5] (fun i wr => ∃ k : Nat, k ≤ n ∧ i = .int .i64 k ∧ Hid (xs.take k = ys.take k) ∧ Hid (Still w wr)) (fun i _ => n - (intOf i).toNat)
    case atStart => exact ⟨0, by omega, rfl, rfl, Still.refl _⟩
    case round =>
      obtain ⟨k, hk, rfl, he, hst⟩ := hrel
      by_cases hlt : k < n
      · have hkx : k < xs.length := by have := H1.out; omega
        have hky : k < ys.length := by have := H1.out; have := H2.out; omega
        obtain ⟨g1, rfl, hc1⟩ := A1 k hkx
        obtain ⟨g2, rfl, hc2⟩ := A2 k hky
        have hc1' := hst.out.cell hc1
        have hc2' := hst.out.cell hc2
        obtain ⟨a, ha⟩ : ∃ a, a = xs[k] := ⟨_, rfl⟩
        obtain ⟨b, hb⟩ : ∃ b, b = ys[k] := ⟨_, rfl⟩
        rw [← ha] at hc1 hc1'
        rw [← hb] at hc2 hc2'
        have HA := Lib.hid ha
        have HB := Lib.hid hb
        clear ha hb A1 A2 hc1 hc2
        by_cases hab : a = b
        · have hab' : Hid (xs.take (k + 1) = ys.take (k + 1)) := by
            show _ = _
            rw [List.take_succ_eq_append_getElem hkx, List.take_succ_eq_append_getElem hky, he.out, ← HA.out, ← HB.out, hab]
          subst hab
          go_wp2_with fail
          go_region
          all_goals
            go_wp2_with fail
            go_roundw
            case rel => exact ⟨k + 1, by omega, by go_num, hab', hst.out.drew⟩
            case measure => simp [intOf]; omega
        · have hne : Hid ((xs == ys) = false) := by
            show _ = _
            rw [beq_eq_false_iff_ne]
            intro h
            apply hab
            rw [HA.out, HB.out]
            simp only [h]
          go_wp2_with fail
          go_region
          all_goals
            go_wp2
            go_returns
            rw [hne.out]
            exact ⟨rfl, hst.out.drew⟩
      · have heq : Hid ((xs == ys) = true) := by
          show _ = _
          rw [beq_iff_eq]
          have := he.out
          rwa [List.take_of_length_le (by have := H1.out; omega), List.take_of_length_le (by have := H1.out; have := H2.out; omega)] at this
        clear A1 A2
        go_wp2
        go_returns
        rw [heq.out]
        exact ⟨rfl, hst.out⟩
  · have hne : (xs == ys) = false := by
      rw [beq_eq_false_iff_ne]
      intro h
      exact hl (by rw [h])
    rw [hne]
    clear hne A1 A2
    generalize xs.length = n at *
    generalize ys.length = m at *
    have hl' : ¬ (n : Int) = m := by omega
    go_enter Try.func14, Try.ntmps14
    go_wp2
    go_returns
    exact ⟨rfl, Still.refl _⟩
end Go.Proofs.Ytdmjiokeangmmaa.Bg
