/-
  The document's reader: Text, Flag, Hash.
-/
import Derived.Test.YtlomofcnknpciaaWireRefR
set_option linter.unusedSimpArgs false
set_option linter.unusedVariables false
namespace Go.Proofs.Ytlomofcnknpciaa
open Go.RowKit

theorem rText_raw (most : Int) (s : List UInt8 × Int) (h : (rNum (min most 65536) s).2.2 = 0) : rText most s = rRaw (rNum (min most 65536) s).1.toNat (rNum (min most 65536) s).2 := by
  have h0 := rNum_nonneg (min most 65536) s
  have e : rText most s = (if (rNum (min most 65536) s).2.2 ≠ 0 then ([], (rNum (min most 65536) s).2) else if ((rNum (min most 65536) s).2.1.length : Int) < (rNum (min most 65536) s).1 then ([], ((rNum (min most 65536) s).2.1, 2)) else ((rNum (min most 65536) s).2.1.take (rNum (min most 65536) s).1.toNat, ((rNum (min most 65536) s).2.1.drop (rNum (min most 65536) s).1.toNat, 0))) := rfl
  rw [e, rRaw]
  generalize rNum (min most 65536) s = r at h h0 ⊢
  have h2 : ¬ (r.2.2 ≠ 0) := by simp [h]
  simp only [if_neg h2]
  by_cases hl : (r.2.1.length : Int) < r.1
  · rw [if_pos hl, if_pos (by omega)]
  · rw [if_neg hl, if_neg (by omega)]
theorem rText_bad (most : Int) (s : List UInt8 × Int) (h : (rNum (min most 65536) s).2.2 ≠ 0) : rText most s = ([], (rNum (min most 65536) s).2) := by
  simp only [rText]
  rw [if_pos h]

theorem RefRText_calls (b : Nat) (s : List UInt8 × Int) (most : Int) (w : World) (h : RefIs w b s) (hm : s.1.length ≤ 1099511627776) :
    Calls Try.prog 131 #[.pointer (some ⟨b, 0, none⟩), .int .i64 most] w fun e w' => e = .returned (.string (str (rText most s).1)) ∧ RefIs w' b (rText most s).2 ∧ w.grownBy w' (some b) := by
  by_cases hmost : 65536 < most
  · have hlen := rNum_len 65536 s
    have hnn := rNum_nonneg 65536 s
    have e1 : Hid (min most 65536 = 65536) := by show _ = _; omega
    go_enter Try.func131, Try.ntmps131
    go_wp2_with fail
    refine (RefRNum_calls b s 65536 w h hm).mono ?_
    rintro e w1 ⟨rfl, h1, g1⟩
    obtain ⟨r, hr⟩ : ∃ r, r = rNum (65536) s := ⟨_, rfl⟩
    rw [← hr] at hlen hnn h1 ⊢
    have HBad : Hid (r.2.2 ≠ 0 → rText most s = ([], r.2)) := by have a := rText_bad most s; rw [e1.out, ← hr] at a; exact a
    have HGood : Hid (r.2.2 = 0 → rText most s = rRaw r.1.toNat r.2) := by have a := rText_raw most s; rw [e1.out, ← hr] at a; exact a
    clear hr
    obtain ⟨n, l, err⟩ := r
    obtain ⟨N, rfl⟩ := Int.eq_ofNat_of_zero_le hnn
    have hd1 := h1.cell 1 _ rfl
    by_cases he : err = 0
    · subst he
      have R := Lib.hid (HGood.out rfl)
      clear HBad HGood
      go_wp2_with fail
      refine (RefRRaw_calls b (l, 0) N _ h1 (Nat.le_trans hlen hm)).mono ?_
      rintro e w2 ⟨rfl, h2, g2⟩
      go_wp2
      go_returns
      rw [R.out]
      exact ⟨rfl, h2, grown_trans g1 g2⟩
    · have R := Lib.hid (HBad.out he)
      have he' : (err != 0) = true := by simp [he]
      clear HBad HGood
      go_wp2_with fail
      go_returns
      rw [R.out]
      exact ⟨rfl, h1, g1⟩
  · have hlen := rNum_len most s
    have hnn := rNum_nonneg most s
    have e1 : Hid (min most 65536 = most) := by show _ = _; omega
    have hmost' : most ≤ 65536 := by omega
    clear hmost
    go_enter Try.func131, Try.ntmps131
    go_wp2_with fail
    refine (RefRNum_calls b s most w h hm).mono ?_
    rintro e w1 ⟨rfl, h1, g1⟩
    obtain ⟨r, hr⟩ : ∃ r, r = rNum (most) s := ⟨_, rfl⟩
    rw [← hr] at hlen hnn h1 ⊢
    have HBad : Hid (r.2.2 ≠ 0 → rText most s = ([], r.2)) := by have a := rText_bad most s; rw [e1.out, ← hr] at a; exact a
    have HGood : Hid (r.2.2 = 0 → rText most s = rRaw r.1.toNat r.2) := by have a := rText_raw most s; rw [e1.out, ← hr] at a; exact a
    clear hr
    obtain ⟨n, l, err⟩ := r
    obtain ⟨N, rfl⟩ := Int.eq_ofNat_of_zero_le hnn
    have hd1 := h1.cell 1 _ rfl
    by_cases he : err = 0
    · subst he
      have R := Lib.hid (HGood.out rfl)
      clear HBad HGood
      go_wp2_with fail
      refine (RefRRaw_calls b (l, 0) N _ h1 (Nat.le_trans hlen hm)).mono ?_
      rintro e w2 ⟨rfl, h2, g2⟩
      go_wp2
      go_returns
      rw [R.out]
      exact ⟨rfl, h2, grown_trans g1 g2⟩
    · have R := Lib.hid (HBad.out he)
      have he' : (err != 0) = true := by simp [he]
      clear HBad HGood
      go_wp2_with fail
      go_returns
      rw [R.out]
      exact ⟨rfl, h1, g1⟩

theorem rFlag_raw (s : List UInt8 × Int) : rFlag s = if (rRaw 1 s).2.2 ≠ 0 then (false, (rRaw 1 s).2) else ((rRaw 1 s).1 == [1], ((rRaw 1 s).2.1, if (rRaw 1 s).1 = [0] ∨ (rRaw 1 s).1 = [1] then 0 else 3)) := by
  obtain ⟨l, err⟩ := s
  by_cases he : err = 0
  · subst he
    cases l with
    | nil => simp [rFlag, rRaw]
    | cons c l =>
      simp only [rFlag, rRaw]
      simp
      by_cases h : 1 < c.toNat
      · rw [if_pos h, if_neg]
        rintro (rfl | rfl) <;> simp at h
      · rw [if_neg h, if_pos]
        have : c.toNat = 0 ∨ c.toNat = 1 := by omega
        rcases this with e | e
        · left; exact UInt8.toNat_inj.1 e
        · right; exact UInt8.toNat_inj.1 e
  · simp [rFlag, rRaw, he]
end Go.Proofs.Ytlomofcnknpciaa
