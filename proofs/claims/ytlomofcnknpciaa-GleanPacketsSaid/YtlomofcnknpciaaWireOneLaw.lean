/-
  There is one form for each thing: what was gone through without an error, put again, is the same bytes: plain lemmas.
-/
import Derived.Test.YtlomofcnknpciaaWireR2
set_option linter.unusedSimpArgs false
set_option linter.unusedVariables false
namespace Go.Proofs.Ytlomofcnknpciaa
open Go.RowKit

theorem ofNat_toNat (c : UInt8) (m : Nat) (h : m = c.toNat) : UInt8.ofNat m = c := by subst h; simp

theorem lowB_1 (n : Int) (h : lowB 1 n = false) : 64 ≤ n := by simp [lowB] at h; omega
theorem lowB_2 (n : Int) (h : lowB 2 n = false) : 16384 ≤ n := by
  rcases Int.lt_or_le n 16384 with h1 | h1
  · have : lowB 2 n = true := by unfold lowB; rw [decide_eq_true (p := n < 16384) h1]; rfl
    rw [this] at h; cases h
  · exact h1
theorem lowB_3 (n : Int) (h : lowB 3 n = false) : 1073741824 ≤ n := by
  rcases Int.lt_or_le n 1073741824 with h1 | h1
  · have : lowB 3 n = true := by unfold lowB; rw [decide_eq_true (p := n < 1073741824) h1]; rfl
    rw [this] at h; cases h
  · exact h1
theorem len1 {α : Type} {t : List α} (h : t.length = 1) : ∃ a, t = [a] := by
  match t, h with
  | [a], _ => exact ⟨a, rfl⟩
theorem len3 {α : Type} {t : List α} (h : t.length = 3) : ∃ a b c, t = [a, b, c] := by
  match t, h with
  | [a, b, c], _ => exact ⟨a, b, c, rfl⟩
theorem len7 {α : Type} {t : List α} (h : t.length = 7) : ∃ a b c d e f g, t = [a, b, c, d, e, f, g] := by
  match t, h with
  | [a, b, c, d, e, f, g], _ => exact ⟨a, b, c, d, e, f, g, rfl⟩
theorem numB_be (c : UInt8) (t : List UInt8) (K : Nat) (hK : c.toNat / 64 = K) (ht : t.length = 2 ^ K - 1) (hlow : lowB K (be t (c.toNat % 64) : Nat) = false) : numB (be t (c.toNat % 64)) = c :: t := by
  have hc : c.toNat < 256 := c.toNat_lt
  have hK4 : K = 0 ∨ K = 1 ∨ K = 2 ∨ K = 3 := by omega
  rcases hK4 with rfl | rfl | rfl | rfl
  · obtain rfl : t = [] := List.eq_nil_of_length_eq_zero (by simpa using ht)
    simp only [be, List.foldl_nil]
    unfold numB
    rw [if_pos (by omega)]
    rw [ofNat_toNat c _ (by omega)]
  · obtain ⟨a, rfl⟩ := len1 (t := t) ht
    have ha : a.toNat < 256 := a.toNat_lt
    have hl := lowB_1 _ hlow
    simp only [be, List.foldl_cons, List.foldl_nil] at hl ⊢
    unfold numB
    rw [if_neg (by omega), if_pos (by omega), ofNat_toNat c _ (by omega), ofNat_toNat a _ (by omega)]
  · obtain ⟨a, b, d, rfl⟩ := len3 (t := t) ht
    have ha : a.toNat < 256 := a.toNat_lt
    have hb : b.toNat < 256 := b.toNat_lt
    have hd : d.toNat < 256 := d.toNat_lt
    have hl := lowB_2 _ hlow
    simp only [be, List.foldl_cons, List.foldl_nil] at hl ⊢
    unfold numB
    rw [if_neg (by omega), if_neg (by omega), if_pos (by omega), ofNat_toNat c _ (by omega), ofNat_toNat a _ (by omega), ofNat_toNat b _ (by omega), ofNat_toNat d _ (by omega)]
  · obtain ⟨a, b, d, e, f, g, h, rfl⟩ := len7 (t := t) ht
    have ha : a.toNat < 256 := a.toNat_lt
    have hb : b.toNat < 256 := b.toNat_lt
    have hd : d.toNat < 256 := d.toNat_lt
    have he : e.toNat < 256 := e.toNat_lt
    have hf : f.toNat < 256 := f.toNat_lt
    have hg : g.toNat < 256 := g.toNat_lt
    have hh : h.toNat < 256 := h.toNat_lt
    have hl := lowB_3 _ hlow
    simp only [be, List.foldl_cons, List.foldl_nil] at hl ⊢
    unfold numB
    rw [if_neg (by omega), if_neg (by omega), if_neg (by omega), ofNat_toNat c _ (by omega), ofNat_toNat a _ (by omega), ofNat_toNat b _ (by omega), ofNat_toNat d _ (by omega), ofNat_toNat e _ (by omega), ofNat_toNat f _ (by omega), ofNat_toNat g _ (by omega), ofNat_toNat h _ (by omega)]

theorem rNum_max (most : Int) (s : List UInt8 × Int) : (rNum most s).1 ≤ 4611686018427387903 := by
  unfold rNum
  split
  · simp
  · split
    · simp
    · rename_i c l _
      split
      · simp
      · split
        · simp
        · split
          · simp
          · have hc : c.toNat < 256 := c.toNat_lt
            have h := be_lt (l.take (2 ^ (c.toNat / 64) - 1)) (c.toNat % 64) 64 (by omega)
            have hl : (l.take (2 ^ (c.toNat / 64) - 1)).length ≤ 7 := by
              rw [List.length_take]
              have : 2 ^ (c.toNat / 64) ≤ 2 ^ 3 := Nat.pow_le_pow_right (by omega) (by omega)
              omega
            have h2 : (256 : Nat) ^ (l.take (2 ^ (c.toNat / 64) - 1)).length ≤ 256 ^ 7 := Nat.pow_le_pow_right (by omega) hl
            have h3 : (256 : Nat) ^ 7 = 72057594037927936 := by decide
            show ((rNumV c l : Nat) : Int) ≤ _
            unfold rNumV
            omega

theorem rNum_one (most : Int) (s : List UInt8 × Int) (h : (rNum most s).2.2 = 0) : s.2 = 0 ∧ numB (rNum most s).1.toNat ++ (rNum most s).2.1 = s.1 := by
  obtain ⟨l, err⟩ := s
  by_cases he : err = 0
  · subst he
    refine ⟨rfl, ?_⟩
    cases l with
    | nil => simp [rNum] at h
    | cons c l =>
      simp only [rNum] at h ⊢
      rw [if_neg (by simp)] at h ⊢
      split at h
      · simp at h
      · rename_i hl
        rw [if_neg hl]
        split at h
        · simp at h
        · rename_i hlow
          rw [if_neg hlow]
          split at h
          · simp at h
          · rename_i hm
            rw [if_neg hm]
            simp only [Int.toNat_natCast]
            have hp : 0 < 2 ^ (c.toNat / 64) := Nat.two_pow_pos _
            unfold rNumV at hlow ⊢
            rw [numB_be c _ _ rfl (by rw [List.length_take]; omega) (by simpa using hlow)]
            simp
  · simp [rNum, he] at h
theorem rText_one (most : Int) (s : List UInt8 × Int) (h : (rText most s).2.2 = 0) : s.2 = 0 ∧ numB (rText most s).1.length ++ (rText most s).1 ++ (rText most s).2.1 = s.1 := by
  unfold rText at h ⊢
  have h1 := rNum_one (min most 65536) s
  have h0 := rNum_nonneg (min most 65536) s
  generalize rNum (min most 65536) s = r at h h1 h0 ⊢
  obtain ⟨n, d, err⟩ := r
  by_cases he : err = 0
  · subst he
    obtain ⟨a, b⟩ := h1 rfl
    refine ⟨a, ?_⟩
    simp only at h b h0 ⊢
    rw [if_neg (by simp)] at h ⊢
    split at h
    · simp at h
    · rename_i hd
      rw [if_neg hd]
      simp only
      rw [List.length_take, Nat.min_eq_left (by omega), List.append_assoc, List.take_append_drop]
      exact b
  · simp [he] at h
theorem rText_len (most : Int) (s : List UInt8 × Int) : (rText most s).1.length ≤ 65536 := by
  unfold rText
  have h0 := rNum_nonneg (min most 65536) s
  have hle : (rNum (min most 65536) s).2.2 = 0 → (rNum (min most 65536) s).1 ≤ 65536 := by
    intro h
    have : (rNum (min most 65536) s).1 ≤ min most 65536 ∨ (rNum (min most 65536) s).2.2 ≠ 0 := by
      obtain ⟨l, err⟩ := s
      by_cases he : err = 0
      · subst he
        cases l with
        | nil => right; simp [rNum]
        | cons c l =>
          simp only [rNum]
          rw [if_neg (by simp)]
          split
          · right; simp
          · split
            · right; simp
            · split
              · right; simp
              · left; simp; omega
      · right; simp [rNum, he]
    rcases this with h' | h'
    · omega
    · exact absurd h h'
  generalize rNum (min most 65536) s = r at h0 hle ⊢
  obtain ⟨n, d, err⟩ := r
  simp only
  split
  · simp
  · rename_i he
    split
    · simp
    · have := hle (by simpa using he)
      simp only at this
      simp
      omega
theorem rHash_len (s : List UInt8 × Int) : (rHash s).1.length = 32 := by
  unfold rHash
  split
  · simp
  · split
    · simp
    · simp; omega
theorem rHash_one (s : List UInt8 × Int) (h : (rHash s).2.2 = 0) : s.2 = 0 ∧ (rHash s).1 ++ (rHash s).2.1 = s.1 := by
  unfold rHash at h ⊢
  split at h
  · rename_i he; exact absurd h he
  · rename_i he
    have he' : s.2 = 0 := by simpa using he
    rw [if_neg he]
    split at h
    · simp at h
    · rename_i hl
      rw [if_neg hl]
      exact ⟨he', by simp⟩
theorem rFlag_one (s : List UInt8 × Int) (h : (rFlag s).2.2 = 0) : s.2 = 0 ∧ [flagB (rFlag s).1] ++ (rFlag s).2.1 = s.1 := by
  obtain ⟨l, err⟩ := s
  by_cases he : err = 0
  · subst he
    refine ⟨rfl, ?_⟩
    cases l with
    | nil => simp [rFlag] at h
    | cons c l =>
      simp [rFlag] at h ⊢
      have hc : c = 0 ∨ c = 1 := by
        have : c.toNat = 0 ∨ c.toNat = 1 := by omega
        rcases this with h | h
        · left; exact UInt8.toNat_inj.1 h
        · right; exact UInt8.toNat_inj.1 h
      rcases hc with rfl | rfl <;> rfl
  · simp [rFlag, he] at h
theorem rText_left (most : Int) (s : List UInt8 × Int) : (rText most s).2.1.length ≤ s.1.length := by
  have := rNum_len (min most 65536) s
  unfold rText
  simp only
  split
  · exact this
  · split
    · exact this
    · simp; omega
theorem rHash_left (s : List UInt8 × Int) : (rHash s).2.1.length ≤ s.1.length := by
  unfold rHash; split
  · simp
  · split <;> simp
theorem rFlag_left (s : List UInt8 × Int) : (rFlag s).2.1.length ≤ s.1.length := by
  unfold rFlag; split
  · simp
  · split
    · simp
    · rename_i h; rw [h]; simp

/-- One thing read, and put again. -/
def oneStep (k : Nat) (st : List UInt8 × (List UInt8 × Int)) : List UInt8 × (List UInt8 × Int) :=
  if k % 4 = 0 then (st.1 ++ numB (rNum 4611686018427387903 st.2).1.toNat, (rNum 4611686018427387903 st.2).2)
  else if k % 4 = 1 then (st.1 ++ numB (rText 65536 st.2).1.length ++ (rText 65536 st.2).1, (rText 65536 st.2).2)
  else if k % 4 = 2 then (st.1 ++ (rHash st.2).1, (rHash st.2).2)
  else (st.1 ++ [flagB (rFlag st.2).1], (rFlag st.2).2)
theorem oneStep_inv (k : Nat) (st : List UInt8 × (List UInt8 × Int)) (s : List UInt8) (h : st.2.2 = 0 → st.1 ++ st.2.1 = s) : (oneStep k st).2.2 = 0 → (oneStep k st).1 ++ (oneStep k st).2.1 = s := by
  unfold oneStep
  split
  · intro h0
    obtain ⟨a, b⟩ := rNum_one _ _ h0
    simp only at h0 ⊢
    rw [List.append_assoc, b, h a]
  · split
    · intro h0
      obtain ⟨a, b⟩ := rText_one _ _ h0
      simp only at h0 ⊢
      rw [List.append_assoc, List.append_assoc, ← List.append_assoc (numB _), b, h a]
    · split
      · intro h0
        obtain ⟨a, b⟩ := rHash_one _ h0
        simp only at h0 ⊢
        rw [List.append_assoc, b, h a]
      · intro h0
        obtain ⟨a, b⟩ := rFlag_one _ h0
        simp only at h0 ⊢
        rw [List.append_assoc, b, h a]
theorem oneStep_left (k : Nat) (st : List UInt8 × (List UInt8 × Int)) : (oneStep k st).2.1.length ≤ st.2.1.length := by
  unfold oneStep
  split
  · exact rNum_len _ _
  · split
    · exact rText_left _ _
    · split
      · exact rHash_left _
      · exact rFlag_left _
theorem oneStep_len (k : Nat) (st : List UInt8 × (List UInt8 × Int)) : (oneStep k st).1.length ≤ st.1.length + 70000 := by
  unfold oneStep
  split
  · have := numB_len (rNum 4611686018427387903 st.2).1.toNat; simp; omega
  · split
    · have := numB_len (rText 65536 st.2).1.length; have := rText_len 65536 st.2; simp; omega
    · split
      · have := rHash_len st.2; simp; omega
      · simp
end Go.Proofs.Ytlomofcnknpciaa
