/-
  A row's bytes, read: what the two readers compute, step by step; what was read whole is what is packed.
-/
import Derived.Test.YtnfegmcdljejnaaPprPack
import Derived.Test.YtnfegmcdljejnaaWireOneH
set_option linter.unusedSimpArgs false
set_option linter.unusedVariables false
namespace Go.Proofs.Ytnfegmcdljejnaa
open Go.RowKit

/-- What has been read: the seeds, where the last one ends, the reader. -/
structure Up where
  l : List Sd
  e : Nat
  s : List UInt8 × Int
abbrev maxN : Int := 4611686018427387903
/-- behind a seed's level. -/
def upA (B : Nat) (x : Up) : Int × (List UInt8 × Int) :=
  ((rNum maxN x.s).1, if (B : Int) < (rNum maxN x.s).1 then rFail 3 (rNum maxN x.s).2 else (rNum maxN x.s).2)
/-- behind its place. -/
def upB (B : Nat) (x : Up) : Int × (List UInt8 × Int) :=
  ((rNum maxN (upA B x).2).1, if (rNum maxN (upA B x).2).2.2 = 0 ∧ (2 ^ (upA B x).1.toNat ≤ (rNum maxN (upA B x).2).1.toNat ∨ (rNum maxN (upA B x).2).1.toNat * 2 ^ (B - (upA B x).1.toNat) < x.e) then rFail 3 (rNum maxN (upA B x).2).2 else (rNum maxN (upA B x).2).2)
def upSd (B : Nat) (x : Up) : Sd := ⟨(upA B x).1.toNat, (upB B x).1.toNat, (rHash (upB B x).2).1⟩
def upStep (B : Nat) (x : Up) : Up :=
  if (rHash (upB B x).2).2.2 = 0 then ⟨x.l ++ [upSd B x], ((upB B x).1.toNat + 1) * 2 ^ (B - (upA B x).1.toNat), (rHash (upB B x).2).2⟩ else ⟨x.l, x.e, (rHash (upB B x).2).2⟩
def upAt (B : Nat) (x : Up) : Nat → Up
  | 0 => x
  | k + 1 => if (upAt B x k).s.2 = 0 then upStep B (upAt B x k) else upAt B x k
def up0 (bs : List UInt8) : Up := ⟨[], 0, (rNum 65536 (bs, 0)).2⟩
def upN (bs : List UInt8) : Nat := (rNum 65536 (bs, 0)).1.toNat
def upT (B : Nat) (bs : List UInt8) : Up := upAt B (up0 bs) (upN bs)

theorem rNum_most (most : Int) (h : 0 ≤ most) (s : List UInt8 × Int) : (rNum most s).1 ≤ most := by
  unfold rNum
  split
  · exact h
  · split
    · exact h
    · split
      · exact h
      · split
        · exact h
        · split
          · exact h
          · simp only; omega
theorem rFail_zero (e : Int) (he : e ≠ 0) (s : List UInt8 × Int) : (rFail e s).2 ≠ 0 := by
  unfold rFail
  split
  · exact he
  · assumption
theorem rFail_left (e : Int) (s : List UInt8 × Int) : (rFail e s).1 = s.1 := by unfold rFail; split <;> rfl
theorem upA_left (B : Nat) (x : Up) : (upA B x).2.1.length ≤ x.s.1.length := by
  have h := rNum_len maxN x.s
  unfold upA
  split
  · simpa [rFail_left] using h
  · exact h
theorem upB_left (B : Nat) (x : Up) : (upB B x).2.1.length ≤ x.s.1.length := by
  have h := rNum_len maxN (upA B x).2
  have h2 := upA_left B x
  unfold upB
  split
  · simp only [rFail_left]; omega
  · simp only; omega
theorem upStep_s (B : Nat) (x : Up) : (upStep B x).s = (rHash (upB B x).2).2 := by unfold upStep; split <;> rfl
theorem upStep_left (B : Nat) (x : Up) : (upStep B x).s.1.length ≤ x.s.1.length := by
  rw [upStep_s]
  exact Nat.le_trans (rHash_left _) (upB_left B x)
theorem upStep_bad (B : Nat) (x : Up) (h : (upStep B x).s.2 ≠ 0) : (upStep B x).l = x.l := by
  rw [upStep_s] at h
  rw [upStep, if_neg h]
/-- All that a step that went through says. -/
theorem upStep_ok (B : Nat) (x : Up) (h : (upStep B x).s.2 = 0) : x.s.2 = 0 ∧ (upStep B x).l = x.l ++ [upSd B x] ∧ (upSd B x).lv ≤ B ∧ (upSd B x).pl < 2 ^ (upSd B x).lv ∧ (upSd B x).h.length = 32 ∧ (upSd B x).enc2 ++ (upStep B x).s.1 = x.s.1 := by
  rw [upStep_s] at h
  have hs := upStep_s B x
  have hl : (upStep B x).l = x.l ++ [upSd B x] := by rw [upStep, if_pos h]
  obtain ⟨h1, h2⟩ := rHash_one _ h
  have hb : (upB B x).2 = (rNum maxN (upA B x).2).2 ∧ ¬ (2 ^ (upA B x).1.toNat ≤ (rNum maxN (upA B x).2).1.toNat ∨ (rNum maxN (upA B x).2).1.toNat * 2 ^ (B - (upA B x).1.toNat) < x.e) := by
    unfold upB at h1 ⊢
    split at h1
    · exact absurd h1 (rFail_zero 3 (by decide) _)
    · rename_i hn
      refine ⟨if_neg hn, fun hc => hn ⟨h1, hc⟩⟩
  rw [hb.1] at h1 h2
  obtain ⟨h3, h4⟩ := rNum_one _ _ h1
  have ha : (upA B x).2 = (rNum maxN x.s).2 ∧ ¬ (B : Int) < (upA B x).1 := by
    unfold upA at h3 ⊢
    simp only at h3 ⊢
    split at h3
    · exact absurd h3 (rFail_zero 3 (by decide) _)
    · rename_i hn
      exact ⟨if_neg hn, hn⟩
  rw [ha.1] at h3
  obtain ⟨h5, h6⟩ := rNum_one _ _ h3
  have hlv : (upSd B x).lv = (upA B x).1.toNat := rfl
  have hpl : (upSd B x).pl = (rNum maxN (upA B x).2).1.toNat := rfl
  refine ⟨h5, hl, by rw [hlv]; omega, ?_, rHash_len _, ?_⟩
  · rw [hlv, hpl]
    have := hb.2
    omega
  · rw [hs, Sd.enc2, hlv, hpl]
    show numB (upA B x).1.toNat ++ numB (rNum maxN (upA B x).2).1.toNat ++ (rHash (upB B x).2).1 ++ (rHash (upB B x).2).2.1 = _
    rw [hb.1, List.append_assoc, h2, List.append_assoc, h4, ha.1]
    exact h6
theorem upAt_stop (B : Nat) (x : Up) (k : Nat) (h : (upAt B x k).s.2 ≠ 0) : ∀ n, k ≤ n → upAt B x n = upAt B x k := by
  intro n hn
  induction n with
  | zero => obtain rfl : k = 0 := by omega
            rfl
  | succ n ih =>
    by_cases he : k = n + 1
    · rw [he]
    · have := ih (by omega)
      rw [upAt, this, if_neg h]
theorem upAt_left (B : Nat) (x : Up) : ∀ n, (upAt B x n).s.1.length ≤ x.s.1.length
  | 0 => Nat.le_refl _
  | n + 1 => by
    have := upAt_left B x n
    rw [upAt]
    split
    · exact Nat.le_trans (upStep_left B _) this
    · exact this
theorem upAt_ok (B : Nat) (x : Up) (hx : x.l = []) : ∀ n, (∀ s ∈ (upAt B x n).l, s.lv ≤ B ∧ s.pl < 2 ^ s.lv ∧ s.h.length = 32) ∧ (upAt B x n).l.length ≤ n ∧ ((upAt B x n).s.2 = 0 → x.s.2 = 0 ∧ (upAt B x n).l.length = n ∧ (upAt B x n).l.flatMap Sd.enc2 ++ (upAt B x n).s.1 = x.s.1)
  | 0 => by simp [upAt, hx]
  | n + 1 => by
    obtain ⟨h1, h2, h3⟩ := upAt_ok B x hx n
    rw [upAt]
    split
    · rename_i h0
      by_cases hs : (upStep B (upAt B x n)).s.2 = 0
      · obtain ⟨g1, g2, g3, g4, g5, g6⟩ := upStep_ok B _ hs
        obtain ⟨k1, k2, k3⟩ := h3 h0
        refine ⟨fun s hm => ?_, by rw [g2]; simp; omega, fun _ => ⟨k1, by rw [g2]; simp; omega, ?_⟩⟩
        · rw [g2] at hm
          rcases List.mem_append.1 hm with hm | hm
          · exact h1 s hm
          · rw [List.mem_singleton.1 hm]; exact ⟨g3, g4, g5⟩
        · rw [g2, List.flatMap_append]
          simp only [List.flatMap_cons, List.flatMap_nil, List.append_nil, List.append_assoc]
          rw [g6, k3]
      · refine ⟨fun s hm => ?_, ?_, fun h => absurd h hs⟩
        · rw [upStep_bad B _ hs] at hm; exact h1 s hm
        · rw [upStep_bad B _ hs]; omega
    · rename_i h0
      exact ⟨h1, by omega, fun h => absurd h h0⟩
theorem upN_le (bs : List UInt8) : upN bs ≤ 65536 ∧ ((upN bs : Nat) : Int) = (rNum 65536 (bs, 0)).1 := by
  have h0 := rNum_nonneg 65536 (bs, 0)
  have h1 : (rNum 65536 (bs, 0)).1 ≤ 65536 := rNum_most 65536 (by decide) (bs, 0)
  unfold upN
  omega
theorem upT_ok (B : Nat) (bs : List UInt8) : RowOk B (upT B bs).l ∧ (∀ s ∈ (upT B bs).l, s.h.length = 32) := by
  obtain ⟨h1, h2, _⟩ := upAt_ok B (up0 bs) rfl (upN bs)
  have := (upN_le bs).1
  exact ⟨⟨fun s hs => ⟨(h1 s hs).1, (h1 s hs).2.1⟩, by unfold upT; omega⟩, fun s hs => (h1 s hs).2.2⟩
theorem upT_pack (B : Nat) (bs : List UInt8) (h : rEnd (upT B bs).s = 0) : packB (upT B bs).l = bs := by
  have h0 : (upT B bs).s.2 = 0 := by
    unfold rEnd at h
    split at h
    · cases h
    · exact h
  have h1 : (upT B bs).s.1 = [] := by
    unfold rEnd at h
    split at h
    · cases h
    · rename_i hn
      by_cases he : (upT B bs).s.1 = []
      · exact he
      · exact absurd ⟨h0, he⟩ hn
  obtain ⟨_, _, h3⟩ := upAt_ok B (up0 bs) rfl (upN bs)
  obtain ⟨g1, g2, g3⟩ := h3 h0
  obtain ⟨_, g5⟩ := rNum_one 65536 (bs, 0) g1
  rw [packB]
  show numB (upAt B (up0 bs) (upN bs)).l.length ++ _ = _
  rw [g2]
  have g6 : (upT B bs).l.flatMap Sd.enc2 = (up0 bs).s.1 := by
    rw [← g3]
    show _ = (upT B bs).l.flatMap Sd.enc2 ++ (upT B bs).s.1
    rw [h1, List.append_nil]
  show numB (upN bs) ++ (upT B bs).l.flatMap Sd.enc2 = bs
  rw [g6]
  exact g5
theorem rHash_err (s : List UInt8 × Int) (h : s.2 ≠ 0) : (rHash s).2.2 ≠ 0 := fun e => h (rHash_one s e).1
theorem rNum_err (most : Int) (s : List UInt8 × Int) (h : s.2 ≠ 0) : (rNum most s).2.2 ≠ 0 := fun e => h (rNum_one most s e).1
theorem rNum_nat (s : List UInt8 × Int) : ∃ (n : Nat) (t : List UInt8 × Int), rNum maxN s = ((n : Int), t) ∧ t.1.length ≤ s.1.length ∧ True :=
  ⟨(rNum maxN s).1.toNat, (rNum maxN s).2, by rw [Int.toNat_of_nonneg (rNum_nonneg _ _)], rNum_len _ _, trivial⟩
theorem upStep_eq (B : Nat) (x : Up) (lv pl : Nat) (s1 s1' s2 s2' s3 : List UInt8 × Int) (h : List UInt8) (ha : rNum maxN x.s = ((lv : Int), s1)) (h1 : s1' = if B < lv then rFail 3 s1 else s1)
    (hb : rNum maxN s1' = ((pl : Int), s2)) (h2 : s2' = if s2.2 = 0 ∧ (2 ^ lv ≤ pl ∨ pl * 2 ^ (B - lv) < x.e) then rFail 3 s2 else s2) (hd : rHash s2' = (h, s3)) :
    upStep B x = if s3.2 = 0 then ⟨x.l ++ [⟨lv, pl, h⟩], (pl + 1) * 2 ^ (B - lv), s3⟩ else ⟨x.l, x.e, s3⟩ := by
  have hA : upA B x = ((lv : Int), s1') := by
    rw [upA, ha, h1]
    congr 1
    simp only
    by_cases hc : B < lv
    · rw [if_pos hc, if_pos (by omega)]
    · rw [if_neg hc, if_neg (by omega)]
  have hB : upB B x = ((pl : Int), s2') := by
    rw [upB, hA]
    simp only [hb, Int.toNat_natCast]
    rw [h2]
  rw [upStep, upSd, hA, hB]
  simp only [hd, Int.toNat_natCast]
theorem up_next {B : Nat} {x x0 : Up} {k : Nat} (hx : x = upAt B x0 k) (hs : x.s.2 = 0) : upStep B x = upAt B x0 (k + 1) := by
  rw [upAt, ← hx, if_pos hs]
end Go.Proofs.Ytnfegmcdljejnaa
