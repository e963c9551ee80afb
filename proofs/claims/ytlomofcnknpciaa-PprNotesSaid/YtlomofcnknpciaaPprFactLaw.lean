/-
  ppr, plain: what a look notes is what the document's facts say.
-/
import Derived.Test.YtlomofcnknpciaaPprLaw
import Derived.Test.YtlomofcnknpciaaPprLookBk
set_option linter.unusedSimpArgs false
set_option linter.unusedVariables false
namespace Go.Proofs.Ytlomofcnknpciaa
open Go.RowKit

/-- The fact of a level of the way to a place. -/
def factAt (root : List UInt8) (B p lv : Nat) : FactT :=
  if lv = B then ⟨[atD (p / 2 ^ (B - lv)) lv root], [keyT (atD p B root)]⟩ else ⟨[atD (p / 2 ^ (B - lv)) lv root], [downT false (atD (p / 2 ^ (B - lv)) lv root), downT true (atD (p / 2 ^ (B - lv)) lv root)]⟩
/-- Is a level gone over? -/
def skipT (B : Nat) (tk : List Nat) (p lv : Nat) : Bool := decide (lv < B) && !wholeT B tk lv (p / 2 ^ (B - lv))
/-- The document's facts on the first levels. -/
def factsK (root : List UInt8) (B : Nat) (tk : List Nat) (p : Nat) : Nat → List FactT
  | 0 => []
  | n + 1 => if skipT B tk p n then factsK root B tk p n else factsK root B tk p n ++ [factAt root B p n]
def factsT (root : List UInt8) (B : Nat) (tk : List Nat) (p : Nat) : List FactT := factsK root B tk p (B + 1)
theorem factsK_len (root : List UInt8) (B : Nat) (tk : List Nat) (p : Nat) : ∀ n, (factsK root B tk p n).length ≤ n
  | 0 => Nat.le_refl _
  | n + 1 => by
    have ih := factsK_len root B tk p n
    rw [factsK]
    split
    · omega
    · rw [List.length_append, List.length_singleton]; omega
theorem factAt_ok {root : List UInt8} (B p lv : Nat) (h : root.length = 32) : FOk (factAt root B p lv) := by
  rw [factAt]
  split
  · exact FOk.of11 (atD_len _ _ _ h) (keyT_len _)
  · exact FOk.of12 (atD_len _ _ _ h) (downT_len _ _) (downT_len _ _)
theorem factAt_few (root : List UInt8) (B p lv : Nat) : (factAt root B p lv).ins.length ≤ 8 ∧ (factAt root B p lv).outs.length ≤ 8 := by
  rw [factAt]
  split <;> simp
theorem factsK_all {P : FactT → Prop} (root : List UInt8) (B : Nat) (tk : List Nat) (p : Nat) (h : ∀ lv, P (factAt root B p lv)) : ∀ n, ∀ f ∈ factsK root B tk p n, P f
  | 0 => fun f hf => by cases hf
  | n + 1 => fun f hf => by
    rw [factsK] at hf
    split at hf
    · exact factsK_all root B tk p h n f hf
    · rcases List.mem_append.1 hf with hf | hf
      · exact factsK_all root B tk p h n f hf
      · rw [List.mem_singleton.1 hf]; exact h n
/-- Above a seed that the row has nothing is whole. -/
theorem below_cut (root : List UInt8) (B : Nat) (tk : List Nat) : ∀ (f lv pl : Nat) (s : Sd), lv + f = B → s ∈ belowT root B tk f lv pl → ∀ k, lv ≤ k → k < s.lv → wholeT B tk k (s.pl / 2 ^ (s.lv - k)) = false
  | f, lv, pl, s, hf, hs, k, hk1, hk2 => by
    by_cases hw : wholeT B tk lv pl = true
    · rw [below_whole root B tk f lv pl hw] at hs
      obtain rfl : s = sdAt root lv pl := by simpa using hs
      exact absurd hk2 (by show ¬ k < lv; omega)
    · have hw' : wholeT B tk lv pl = false := by simpa using hw
      have hm := below_mem root B tk f lv pl s hf hs
      match f with
      | 0 =>
        rw [belowT, if_neg hw] at hs
        cases hs
      | f + 1 =>
        by_cases hk : k = lv
        · subst hk
          rw [hm.2.2.1]; exact hw'
        · rw [below_part root B tk f lv pl hw'] at hs
          rcases List.mem_append.1 hs with hs | hs
          · exact below_cut root B tk f (lv + 1) (2 * pl) s (by omega) hs k (by omega) hk2
          · exact below_cut root B tk f (lv + 1) (2 * pl + 1) s (by omega) hs k (by omega) hk2
theorem whole_down {B p : Nat} {tk : List Nat} {lv k : Nat} (h : wholeT B tk lv (p / 2 ^ (B - lv)) = true) (h1 : lv ≤ k) (h2 : k ≤ B) : wholeT B tk k (p / 2 ^ (B - k)) = true := by
  simp only [wholeT, List.all_eq_true, bne_iff_ne] at h ⊢
  intro t ht e
  refine h t ht ?_
  have h3 : ∀ n : Nat, n / 2 ^ (B - lv) = n / 2 ^ (B - k) / 2 ^ (k - lv) := fun n => by
    rw [Nat.div_div_eq_div_mul, ← Nat.pow_add, show B - k + (k - lv) = B - lv by omega]
  rw [h3, h3, e]
theorem lookF_row (root : List UInt8) (B : Nat) (p : Int) (tk : List Nat) (hw : withinT B p = true) (ht : p.toNat ∉ tk) :
    lookF B p (rowT root B tk) = factsT root B tk p.toNat := by
  obtain ⟨pre, s, post, e1, e2, e3, e4, e5, e6⟩ := below_take root B p.toNat tk ht B 0 0 (by omega) (within_top hw)
  have hrow : rowT root B tk = pre ++ s :: post := e1
  have hmem : s ∈ belowT root B tk B 0 0 := by
    have : s ∈ rowT root B tk := by rw [hrow]; simp
    exact this
  have hf : findT B p.toNat (rowT root B tk) = some pre.length := by rw [hrow]; exact find_split e2 e3
  have hl : (rowT root B tk)[pre.length]? = some s := by rw [hrow]; simp
  obtain ⟨-, h2, -, -, h5⟩ := below_mem root B tk B 0 0 s (by omega) hmem
  rw [lookF, if_pos hw]
  simp only [hf, hl]
  generalize p.toNat = q at *
  have hst := stK_at root B q s e5 e3
  have hcut : ∀ k, k ≤ s.lv → factsK root B tk q k = [] := by
    intro k
    induction k with
    | zero => intro _; rfl
    | succ k ih =>
      intro hk
      have h6 := below_cut root B tk B 0 0 s (by omega) hmem k (by omega) (by omega)
      rw [← e3, Nat.div_div_eq_div_mul, ← Nat.pow_add, show B - s.lv + (s.lv - k) = B - k by omega] at h6
      rw [factsK, if_pos (by rw [skipT, h6]; simp; omega)]
      exact ih (by omega)
  have hin : ∀ k, k ≤ B - s.lv → factsK root B tk q (s.lv + k) = walkK B q s k := by
    intro k
    induction k with
    | zero => intro _; exact hcut _ (Nat.le_refl _)
    | succ k ih =>
      intro hk
      have h6 : wholeT B tk (s.lv + k) (q / 2 ^ (B - (s.lv + k))) = true := whole_down (lv := s.lv) (by rw [e3]; exact h5) (by omega) (by omega)
      rw [← Nat.add_assoc, factsK, if_neg (by rw [skipT, h6]; simp), ih (by omega), walkK, hst k (by omega), factAt, if_neg (by omega)]
      rfl
  have hlast : factsT root B tk q = factsK root B tk q B ++ [factAt root B q B] := by
    rw [factsT, factsK, if_neg (by simp [skipT])]
  rw [hlast, walkF]
  have h7 := hin (B - s.lv) (Nat.le_refl _)
  rw [show s.lv + (B - s.lv) = B by omega] at h7
  rw [h7, hst (B - s.lv) (by omega), show s.lv + (B - s.lv) = B by omega, factAt, if_pos rfl]
  simp [sdAt]
theorem lookF_gone (root : List UInt8) (B : Nat) (p : Int) (tk : List Nat) (ht : p.toNat ∈ tk) : lookF B p (rowT root B tk) = [] := by
  rw [lookF]
  split
  · simp only [find_row_none ht]
  · rfl
theorem lookF_out (B : Nat) (p : Int) (l : List Sd) (hw : withinT B p = false) : lookF B p l = [] := by rw [lookF, if_neg (by simp [hw])]
end Go.Proofs.Ytlomofcnknpciaa
