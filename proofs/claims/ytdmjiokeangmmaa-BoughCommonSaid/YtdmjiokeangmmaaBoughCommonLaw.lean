/-
  BoughCommon: the lowest node over two leaves, whichever is named first: plain.
-/
import Derived.Test.YtdmjiokeangmmaaBoughWholeFacts
set_option linter.unusedSimpArgs false
set_option linter.unusedVariables false
namespace Go.Proofs.Ytdmjiokeangmmaa
open Go.RowKit Bg

def sizeI (N x : Int) : Int := (leavesI N x).2 - (leavesI N x).1
def upOk (n x : Nat) : Bool :=
  let a := aboveI n x
  decide (a < 0) || (thereI n a && decide ((leavesI n a).1 ≤ (leavesI n x).1) && decide ((leavesI n x).2 ≤ (leavesI n a).2) && decide (sizeI n x < sizeI n a))
theorem up_all : ∀ n, n < 65 → ∀ x, x < 127 → there n x = true → upOk n x = true := by decide +kernel
theorem up_facts (N y : Int) (h : thereI N y = true) (hp : ¬ aboveI N y < 0) : thereI N (aboveI N y) = true ∧ (leavesI N (aboveI N y)).1 ≤ (leavesI N y).1 ∧ (leavesI N y).2 ≤ (leavesI N (aboveI N y)).2 ∧ sizeI N y < sizeI N (aboveI N y) := by
  obtain ⟨n, x, rfl, rfl, ht, h1, h2⟩ := thereI_nat h
  have := up_all n h1 x h2 ht
  unfold upOk at this
  simp only [Bool.and_eq_true, Bool.or_eq_true, decide_eq_true_eq] at this
  rcases this with h | ⟨⟨⟨a, b⟩, c⟩, d⟩
  · exact absurd h hp
  · exact ⟨a, b, c, d⟩

theorem mem_bigger (N : Int) : ∀ (m : Nat) (y q : Int), (ups N y).length ≤ m → thereI N y = true → q ∈ ups N y → sizeI N y < sizeI N q ∧ thereI N q = true ∧ (∀ b, holdsI N y b = true → holdsI N q b = true)
  | m, y, q, hm, hy, hq => by
    by_cases hp : aboveI N y < 0
    · rw [ups_no hp] at hq; cases hq
    · obtain ⟨t, l1, l2, l3⟩ := up_facts N y hy hp
      have hh : ∀ b, holdsI N y b = true → holdsI N (aboveI N y) b = true := by
        intro b hb
        unfold holdsI at hb ⊢
        simp only [Bool.and_eq_true, decide_eq_true_eq] at hb ⊢
        omega
      rw [ups_yes hp] at hq hm
      rcases List.mem_cons.1 hq with rfl | hq
      · exact ⟨l3, t, hh⟩
      · cases m with
        | zero => simp at hm
        | succ m =>
          obtain ⟨g1, g2, g3⟩ := mem_bigger N m _ q (by simp at hm; omega) t hq
          exact ⟨by omega, g2, fun b hb => g3 b (hh b hb)⟩

theorem above_mem (N : Int) : ∀ (m : Nat) (y c : Int), (ups N y).length ≤ m → c ∈ ups N y → ¬ aboveI N c < 0 → aboveI N c ∈ ups N y
  | m, y, c, hm, hc, hn => by
    by_cases hp : aboveI N y < 0
    · rw [ups_no hp] at hc; cases hc
    · rw [ups_yes hp] at hc hm ⊢
      rcases List.mem_cons.1 hc with rfl | hc
      · exact List.mem_cons_of_mem _ (by rw [ups_yes hn]; exact List.mem_cons_self)
      · cases m with
        | zero => simp at hm
        | succ m => exact List.mem_cons_of_mem _ (above_mem N m _ c (by simp at hm; omega) hc hn)

/-- Whatever node holds a leaf stands above it. -/
theorem holder_above (N b : Int) : ∀ (k : Nat) (p : Int), thereI N p = true → holdsI N p b = true → 7 < (ups N p).length + k → p = 2 * b ∨ p ∈ ups N (2 * b)
  | 0, p, hp, hh, hk => by have := ups_len N p; omega
  | k + 1, p, hp, hh, hk => by
    have hp0 : 0 ≤ p := by unfold thereI at hp; simp at hp; omega
    by_cases he : p % 2 = 0
    · left
      obtain ⟨_, _, h3⟩ := even_facts N p hp he
      unfold holdsI at hh
      rw [h3] at hh
      simp at hh
      omega
    · obtain ⟨m, h1, h2, h3, h4, _, _⟩ := odd_facts N p hp he
      have fin : ∀ c, aboveI N c = p → holdsI N c b = true → p = 2 * b ∨ p ∈ ups N (2 * b) := by
        intro c hc hcb
        have hn : ¬ aboveI N c < 0 := by omega
        have ht : thereI N c = true := by
          cases h : thereI N c with
          | true => rfl
          | false => unfold aboveI at hc; rw [h] at hc; simp at hc; omega
        have hl : (ups N c).length = (ups N p).length + 1 := by rw [ups_yes hn, hc, List.length_cons]
        right
        rcases holder_above N b k c ht hcb (by omega) with rfl | hm
        · rw [ups_yes hn, hc]; exact List.mem_cons_self
        · have := above_mem N _ _ c (Nat.le_refl _) hm hn
          rwa [hc] at this
      unfold holdsI at hh
      simp only [Bool.and_eq_true, decide_eq_true_eq] at hh
      by_cases hb : b < m
      · exact fin (leftI N p) h3 (by unfold holdsI; rw [h1]; simp; omega)
      · exact fin (rightI N p) h4 (by unfold holdsI; rw [h2]; simp; omega)

theorem first_least (N : Int) (f : Int → Bool) (p q : Int) : ∀ (m : Nat) (y : Int), (ups N y).length ≤ m → thereI N y = true → (ups N y).find? f = some p → q ∈ ups N y → f q = true → p = q ∨ sizeI N p < sizeI N q
  | m, y, hm, hy, hf, hq, hfq => by
    by_cases hp : aboveI N y < 0
    · rw [ups_no hp] at hq; cases hq
    · obtain ⟨t, _, _, _⟩ := up_facts N y hy hp
      rw [ups_yes hp] at hf hq hm
      rw [List.find?_cons] at hf
      cases ha : f (aboveI N y) with
      | true =>
        rw [ha] at hf
        simp at hf
        subst hf
        rcases List.mem_cons.1 hq with rfl | hq
        · exact .inl rfl
        · exact .inr (mem_bigger N _ _ q (Nat.le_refl _) t hq).1
      | false =>
        rw [ha] at hf
        rcases List.mem_cons.1 hq with rfl | hq
        · rw [ha] at hfq; cases hfq
        · cases m with
          | zero => simp at hm
          | succ m => exact first_least N f p q m _ (by simp at hm; omega) t hf hq hfq

theorem holder (N b p : Int) (hp : thereI N p = true) (hh : holdsI N p b = true) : p = 2 * b ∨ p ∈ ups N (2 * b) := by
  refine holder_above N b 8 p hp hh ?_
  generalize (ups N p).length = n
  omega
theorem inI_swap (N A B : Int) : inI N A B = inI N B A := by
  unfold inI; rw [Bool.eq_iff_iff]; simp; omega
theorem com_find (N A B : Int) (h : inI N A B = true) (hab : A ≠ B) : ∃ p, (ups N (2 * A)).find? (fun p => holdsI N p B) = some p ∧ p ∈ ups N (2 * A) ∧ holdsI N p B = true := by
  obtain ⟨q, hq, hh⟩ := some_holds N A B h
  rcases List.mem_cons.1 hq with rfl | hq
  · rw [holds_leaf N A B h] at hh; simp at hh; exact absurd hh hab
  · obtain ⟨p, hp⟩ := Option.isSome_iff_exists.1 (List.find?_isSome.2 ⟨q, hq, hh⟩ : ((ups N (2 * A)).find? (fun p => holdsI N p B)).isSome = true)
    exact ⟨p, hp, List.mem_of_find?_eq_some hp, by have := List.find?_some (p := fun p => holdsI N p B) hp; exact this⟩

theorem commonI_swap (N A B : Int) : commonI N B A = commonI N A B := by
  unfold commonI
  rw [inI_swap N B A]
  cases h : inI N A B with
  | false => rw [if_neg (by simp), if_neg (by simp)]
  | true =>
    by_cases hab : A = B
    · subst hab; rfl
    · have hba : ¬ B = A := fun e => hab e.symm
      have h' : inI N B A = true := by rw [inI_swap]; exact h
      simp only [if_true, if_neg hab, if_neg hba]
      obtain ⟨p, p1, p2, p3⟩ := com_find N A B h hab
      obtain ⟨q, q1, q2, q3⟩ := com_find N B A h' hba
      have hin := h
      unfold inI at hin
      simp at hin
      have tA : thereI N (2 * A) = true := by unfold thereI; simp; omega
      have tB : thereI N (2 * B) = true := by unfold thereI; simp; omega
      have hAA : holdsI N (2 * A) A = true := by rw [holds_leaf N A A (by unfold inI; simp; omega)]; simp
      have hBB : holdsI N (2 * B) B = true := by rw [holds_leaf N B B (by unfold inI; simp; omega)]; simp
      obtain ⟨_, pt, ph⟩ := mem_bigger N _ _ p (Nat.le_refl _) tA p2
      obtain ⟨_, qt, qh⟩ := mem_bigger N _ _ q (Nat.le_refl _) tB q2
      have pA := ph A hAA
      have qB := qh B hBB
      have nA : ∀ x, holdsI N x B = true → x ≠ 2 * A := by
        rintro x hx rfl
        rw [holds_leaf N A B h] at hx; simp at hx; exact hab hx
      have nB : ∀ x, holdsI N x A = true → x ≠ 2 * B := by
        rintro x hx rfl
        rw [holds_leaf N B A h'] at hx; simp at hx; exact hba hx
      have qm : q ∈ ups N (2 * A) := (holder N A q qt q3).resolve_left (nA q qB)
      have pm : p ∈ ups N (2 * B) := (holder N B p pt p3).resolve_left (nB p pA)
      have c1 : comI N A B = p := by unfold comI; rw [p1]; rfl
      have c2 : comI N B A = q := by unfold comI; rw [q1]; rfl
      rw [c1, c2]
      generalize hL1 : ups N (2 * A) = L1 at *
      generalize hL2 : ups N (2 * B) = L2 at *
      rw [← hL1] at p1 qm
      rw [← hL2] at q1 pm
      rcases first_least N _ p q _ _ (Nat.le_refl _) tA p1 qm qB with e | e
      · rw [e]
      · rcases first_least N _ q p _ _ (Nat.le_refl _) tB q1 pm pA with e2 | e2
        · rw [e2]
        · omega
end Go.Proofs.Ytdmjiokeangmmaa
