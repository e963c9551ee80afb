/-
  The law's own bound: how many things, how many bytes.
-/
import Derived.Test.YtfmendgbmkclkaaThings
import Derived.WalkLawsBesides
import Derived.Outline
import Derived.Handy
set_option linter.unusedSimpArgs false
set_option linter.unusedVariables false
namespace Go.Proofs.Ytfmendgbmkclkaa
open Go.RowKit

def tot (xs : List Thing) : Nat := (xs.map (fun x => x.s.length)).sum
theorem tot_succ (xs : List Thing) (k : Nat) (h : k < xs.length) : tot (xs.take (k + 1)) = tot (xs.take k) + xs[k].s.length := by
  rw [tot, tot, List.take_succ_eq_append_getElem h]
  simp only [List.map_append, List.sum_append, List.map_cons, List.map_nil, List.sum_cons, List.sum_nil, Nat.add_zero]
theorem tot_take (xs : List Thing) (k : Nat) : tot (xs.take k) ≤ tot xs := by
  induction xs generalizing k with
  | nil => simp [tot]
  | cons x xs ih =>
    cases k with
    | zero => simp [tot]
    | succ k => have := ih k; simp [tot] at this ⊢; omega

set_option maxRecDepth 100000 in
theorem fewYes_calls (w : World) (ao : Option Addr) (len cap : Nat) (xs : List Thing) (h : Things w ao len xs) (hl : len ≤ 300) (ht : tot xs ≤ 200000) :
    Calls Try.prog 19 #[.slice ao len cap] w fun e w' => e = .returned (.bool true) ∧ w = w' := by
  obtain ⟨hx, hok, hc⟩ := h
  have HT := Lib.hid ht
  have HX := Lib.hid hx
  have HC := Lib.hid hc
  clear hx hc ht
  go_enter Try.func19, Try.ntmps19
  go_wp2_with fail
  go_loop [3, 4] (fun s i => ∃ (k : Nat) (S : Int), k ≤ len ∧ i = .int .i64 k ∧ s = .int .i64 S ∧ 0 ≤ S ∧ Hid (S = (tot (xs.take k) : Nat))) (fun _ i => len - (intOf i).toNat)
  case atStart => exact ⟨0, 0, by omega, rfl, rfl, by omega, rfl⟩
  case round =>
    obtain ⟨k, S, hk, rfl, rfl, h0, hS⟩ := hrel
    rename w = w => hww
    clear hww
    have hS2 : S ≤ 200000 := by have := hS.out; have := tot_take xs k; have := HT.out; omega
    by_cases hlt : k < len
    · have hkx : k < xs.length := by have := HX.out; omega
      have h300 : (k : Int) < 300 := by omega
      rcases HC.out with h0' | ⟨b, off, rfl, hbw, hcc⟩
      · omega
      have hc := hcc k hkx 2 _ rfl
      have hsucc := Lib.hid (tot_succ xs k hkx)
      have hle : xs[k].s.length ≤ 200000 := by have := tot_succ xs k hkx; have := tot_take xs (k + 1); have := HT.out; omega
      obtain ⟨t, ht⟩ : ∃ t, t = xs[k].s := ⟨_, rfl⟩
      rw [← ht] at hc hle
      have HT2 := Lib.hid ht
      clear ht hcc
      go_wp2_with fail
      go_round
      case rel => exact ⟨k + 1, S + t.length, by omega, by go_num, rfl, by omega, by show _ = _; rw [hsucc.out, ← HT2.out, hS.out]; omega⟩
      case measure => simp [intOf]; omega
    · go_wp2_with fail
      go_returns
      exact ⟨by first | (simp; done) | (simp; omega), rfl⟩
set_option maxRecDepth 100000 in
theorem fewNo_calls (w : World) (ao : Option Addr) (len cap : Nat) (xs : List Thing) (h : Things w ao len xs) (hm : len ≤ maxLen) (hno : ¬ (len ≤ 300 ∧ tot xs ≤ 200000)) :
    Calls Try.prog 19 #[.slice ao len cap] w fun e w' => e = .returned (.bool false) ∧ w = w' := by
  obtain ⟨hx, hok, hc⟩ := h
  unfold maxLen at hm
  have HN := Lib.hid hno
  have HX := Lib.hid hx
  have HC := Lib.hid hc
  have HO := Lib.hid hok
  clear hx hc hno hok
  go_enter Try.func19, Try.ntmps19
  go_wp2_with fail
  go_loop [3, 4] (fun s i => ∃ (k : Nat) (S : Int), k ≤ len ∧ k ≤ 300 ∧ i = .int .i64 k ∧ s = .int .i64 S ∧ 0 ≤ S ∧ S ≤ 400000 ∧ Hid (S = (tot (xs.take k) : Nat))) (fun _ i => len - (intOf i).toNat)
  case atStart => exact ⟨0, 0, by omega, by omega, rfl, rfl, by omega, by omega, rfl⟩
  case round =>
    obtain ⟨k, S, hk, hk3, rfl, rfl, h0, hS4, hS⟩ := hrel
    rename w = w => hww
    clear hww
    by_cases hlt : k < len
    · have hkx : k < xs.length := by have := HX.out; omega
      rcases HC.out with h0' | ⟨b, off, rfl, hbw, hcc⟩
      · omega
      have hc := hcc k hkx 2 _ rfl
      have hsucc := Lib.hid (tot_succ xs k hkx)
      have hsm := (HO.out xs[k] (List.getElem_mem hkx)).s1
      unfold maxLen at hsm
      obtain ⟨t, ht⟩ : ∃ t, t = xs[k].s := ⟨_, rfl⟩
      rw [← ht] at hc hsm
      have HT2 := Lib.hid ht
      clear ht hcc
      by_cases h300 : (k : Int) < 300
      · by_cases hl1 : t.length ≤ 200000
        · by_cases hl2 : S ≤ 200000
          · go_wp2_with fail
            go_round
            case rel => exact ⟨k + 1, S + t.length, by omega, by omega, by go_num, rfl, by omega, by omega, by show _ = _; rw [hsucc.out, ← HT2.out, hS.out]; omega⟩
            case measure => simp [intOf]; omega
          · have hl2' : 200000 < S := by omega
            clear hl2
            go_wp2_with fail
            go_returns
            exact ⟨rfl, rfl⟩
        · have hl1' : 200000 < t.length := by omega
          clear hl1
          go_wp2_with fail
          go_returns
          exact ⟨rfl, rfl⟩
      · have h300' : 300 ≤ (k : Int) := by omega
        clear h300
        go_wp2_with fail
        go_returns
        exact ⟨rfl, rfl⟩
    · have hSS : 200000 < S := by
        have h1 := hS.out
        have h2 := HN.out
        have h3 : xs.take k = xs := List.take_of_length_le (by have := HX.out; omega)
        rw [h3] at h1
        omega
      go_wp2_with fail
      go_returns
      exact ⟨by first | (simp; done) | (simp; omega), rfl⟩
end Go.Proofs.Ytfmendgbmkclkaa
