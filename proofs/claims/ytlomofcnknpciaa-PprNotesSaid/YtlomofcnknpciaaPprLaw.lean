/-
  Rows of seeds, plain: what a row has behind any takings is what the document lists. No program here but for the words of the walks.
-/
import Derived.Test.YtlomofcnknpciaaPprTake
import Derived.Test.YtlomofcnknpciaaPprRef
set_option linter.unusedSimpArgs false
set_option linter.unusedVariables false
namespace Go.Proofs.Ytlomofcnknpciaa
open Go.RowKit

theorem atD_last (q : Nat) : ∀ (n : Nat) (s : List UInt8), atD q (n + 1) s = downT (q % 2 == 1) (atD (q / 2) n s)
  | 0, s => by simp [atD]
  | n + 1, s => by
    rw [atD, atD_last q n]
    conv => rhs; rw [atD]
    rw [Nat.div_div_eq_div_mul, Nat.pow_succ']
/-- The seed of a row at a level and a place of the level. -/
def sdAt (root : List UInt8) (lv pl : Nat) : Sd := ⟨lv, pl, atD pl lv root⟩
theorem sdAt_child (root : List UInt8) (lv pl : Nat) (b : Bool) : (sdAt root lv pl).child b = sdAt root (lv + 1) (2 * pl + if b then 1 else 0) := by
  cases b
  · simp only [Sd.child, sdAt]
    rw [atD_last]
    simp
  · simp only [Sd.child, sdAt]
    rw [atD_last]
    have e1 : (2 * pl + 1) / 2 = pl := by omega
    have e2 : (2 * pl + 1) % 2 = 1 := by omega
    simp [e1, e2]
/-- Is nothing taken below a level's place? -/
def wholeT (B : Nat) (tk : List Nat) (lv pl : Nat) : Bool := tk.all fun t => t / 2 ^ (B - lv) != pl
/-- The seeds that the document lists below a level's place, so many levels from the last one. -/
def belowT (root : List UInt8) (B : Nat) (tk : List Nat) : Nat → Nat → Nat → List Sd
  | 0, lv, pl => if wholeT B tk lv pl then [sdAt root lv pl] else []
  | f + 1, lv, pl => if wholeT B tk lv pl then [sdAt root lv pl] else belowT root B tk f (lv + 1) (2 * pl) ++ belowT root B tk f (lv + 1) (2 * pl + 1)
def rowT (root : List UInt8) (B : Nat) (tk : List Nat) : List Sd := belowT root B tk B 0 0

theorem below_whole (root : List UInt8) (B : Nat) (tk : List Nat) (f lv pl : Nat) (h : wholeT B tk lv pl = true) : belowT root B tk f lv pl = [sdAt root lv pl] := by
  cases f <;> rw [belowT, if_pos h]
theorem below_part (root : List UInt8) (B : Nat) (tk : List Nat) (f lv pl : Nat) (h : wholeT B tk lv pl = false) : belowT root B tk (f + 1) lv pl = belowT root B tk f (lv + 1) (2 * pl) ++ belowT root B tk f (lv + 1) (2 * pl + 1) := by
  rw [belowT, if_neg (by simp [h])]
theorem whole_snoc (B : Nat) (tk : List Nat) (p lv pl : Nat) : wholeT B (tk ++ [p]) lv pl = (wholeT B tk lv pl && (p / 2 ^ (B - lv) != pl)) := by simp [wholeT]
theorem div_up (p B lv : Nat) (h : lv < B) : p / 2 ^ (B - lv) = p / 2 ^ (B - (lv + 1)) / 2 := by
  rw [Nat.div_div_eq_div_mul, ← Nat.pow_succ]
  congr 2
  show B - lv = B - (lv + 1) + 1
  omega
theorem whole_child (B : Nat) (tk : List Nat) (lv pl b : Nat) (hlv : lv < B) (hb : b < 2) (h : wholeT B tk lv pl = true) : wholeT B tk (lv + 1) (2 * pl + b) = true := by
  simp only [wholeT, List.all_eq_true, bne_iff_ne] at h ⊢
  intro t ht e
  refine h t ht ?_
  rw [div_up t B lv hlv, e]
  omega
/-- What stands in the list. -/
theorem below_mem (root : List UInt8) (B : Nat) (tk : List Nat) : ∀ (f lv pl : Nat) (s : Sd), lv + f = B → s ∈ belowT root B tk f lv pl → lv ≤ s.lv ∧ s.lv ≤ B ∧ s.pl / 2 ^ (s.lv - lv) = pl ∧ s = sdAt root s.lv s.pl ∧ wholeT B tk s.lv s.pl = true
  | f, lv, pl, s, hf, hs => by
    by_cases hw : wholeT B tk lv pl = true
    · rw [below_whole root B tk f lv pl hw] at hs
      obtain rfl : s = sdAt root lv pl := by simpa using hs
      exact ⟨Nat.le_refl _, by show lv ≤ B; omega, by simp [sdAt], rfl, hw⟩
    · have hw' : wholeT B tk lv pl = false := by simpa using hw
      match f with
      | 0 =>
        rw [belowT, if_neg hw] at hs
        cases hs
      | f + 1 =>
        rw [below_part root B tk f lv pl hw'] at hs
        have up : ∀ b, b < 2 → lv + 1 ≤ s.lv → s.pl / 2 ^ (s.lv - (lv + 1)) = 2 * pl + b → s.pl / 2 ^ (s.lv - lv) = pl := fun b hb h1 h2 => by
          rw [div_up s.pl s.lv lv (by omega), h2]; omega
        rcases List.mem_append.1 hs with hs | hs
        · obtain ⟨h1, h2, h3, h4, h5⟩ := below_mem root B tk f (lv + 1) (2 * pl) s (by omega) hs
          exact ⟨by omega, h2, up 0 (by omega) h1 h3, h4, h5⟩
        · obtain ⟨h1, h2, h3, h4, h5⟩ := below_mem root B tk f (lv + 1) (2 * pl + 1) s (by omega) hs
          exact ⟨by omega, h2, up 1 (by omega) h1 h3, h4, h5⟩
/-- A place that stands below another place turns nothing. -/
theorem below_other (root : List UInt8) (B p : Nat) (tk : List Nat) : ∀ (f lv pl : Nat), lv + f = B → p / 2 ^ (B - lv) ≠ pl → belowT root B (tk ++ [p]) f lv pl = belowT root B tk f lv pl
  | 0, lv, pl, hf, hp => by simp [belowT, whole_snoc, hp]
  | f + 1, lv, pl, hf, hp => by
    have h1 := below_other root B p tk f (lv + 1) (2 * pl) (by omega) (fun e => hp (by rw [div_up p B lv (by omega), e]; omega))
    have h2 := below_other root B p tk f (lv + 1) (2 * pl + 1) (by omega) (fun e => hp (by rw [div_up p B lv (by omega), e]; omega))
    rw [belowT, belowT, whole_snoc, h1, h2]
    simp [hp]
theorem below_above (root : List UInt8) (B p : Nat) (tk : List Nat) (f lv pl : Nat) (hf : lv + f = B) (hp : p / 2 ^ (B - lv) ≠ pl) (s : Sd) (hs : s ∈ belowT root B tk f lv pl) : p / 2 ^ (B - s.lv) ≠ s.pl := fun e => by
  obtain ⟨h1, h2, h3, _, _⟩ := below_mem root B tk f lv pl s hf hs
  refine hp ?_
  rw [← h3, ← e, Nat.div_div_eq_div_mul, ← Nat.pow_add, show B - s.lv + (s.lv - lv) = B - lv by omega]
/-- The way down, its first step first. -/
theorem stK_step (B p : Nat) (s : Sd) (k : Nat) : stK B p s (k + 1) = if wayT B p (stK B p s k).1.lv = 0 then ((stK B p s k).1.child false, (stK B p s k).2.1, (stK B p s k).2.2 ++ [(stK B p s k).1.child true]) else ((stK B p s k).1.child true, (stK B p s k).2.1 ++ [(stK B p s k).1.child false], (stK B p s k).2.2) := rfl
theorem stK_front (B p : Nat) (s : Sd) : ∀ k, stK B p s (k + 1) = if wayT B p s.lv = 0 then ((stK B p (s.child false) k).1, (stK B p (s.child false) k).2.1, s.child true :: (stK B p (s.child false) k).2.2) else ((stK B p (s.child true) k).1, s.child false :: (stK B p (s.child true) k).2.1, (stK B p (s.child true) k).2.2)
  | 0 => rfl
  | k + 1 => by
    have ih := stK_front B p s k
    rw [stK_step, ih]
    by_cases hw : wayT B p s.lv = 0
    · rw [if_pos hw, if_pos hw, stK_step]
      by_cases h2 : wayT B p (stK B p (s.child false) k).1.lv = 0
      · simp [h2]
      · simp [h2]
    · rw [if_neg hw, if_neg hw, stK_step]
      by_cases h2 : wayT B p (stK B p (s.child true) k).1.lv = 0
      · simp [h2]
      · simp [h2]
/-- One taking out of what is whole: the seeds beside the way. -/
theorem below_way (root : List UInt8) (B p : Nat) (tk : List Nat) : ∀ (f lv pl : Nat), lv + f = B → p / 2 ^ (B - lv) = pl → wholeT B tk lv pl = true →
    belowT root B (tk ++ [p]) f lv pl = (stK B p (sdAt root lv pl) f).2.1 ++ (stK B p (sdAt root lv pl) f).2.2.reverse
  | 0, lv, pl, hf, hp, hw => by simp [belowT, whole_snoc, hp, stK]
  | f + 1, lv, pl, hf, hp, hw => by
    have hnw : wholeT B (tk ++ [p]) lv pl = false := by rw [whole_snoc]; simp [hp]
    have w0 := whole_child B tk lv pl 0 (by omega) (by omega) hw
    have w1 := whole_child B tk lv pl 1 (by omega) (by omega) hw
    have hup := div_up p B lv (by omega)
    have hway : wayT B p lv = p / 2 ^ (B - (lv + 1)) % 2 := by rw [wayT, show B - lv - 1 = B - (lv + 1) by omega]
    rw [below_part root B _ f lv pl hnw, stK_front]
    by_cases h0 : wayT B p lv = 0
    · have e : p / 2 ^ (B - (lv + 1)) = 2 * pl := by omega
      rw [if_pos (show wayT B p (sdAt root lv pl).lv = 0 from h0), below_way root B p tk f (lv + 1) (2 * pl) (by omega) e w0, below_other root B p tk f (lv + 1) (2 * pl + 1) (by omega) (by omega), below_whole root B tk f _ _ w1, sdAt_child, sdAt_child]
      simp
    · have e : p / 2 ^ (B - (lv + 1)) = 2 * pl + 1 := by omega
      rw [if_neg (show ¬ wayT B p (sdAt root lv pl).lv = 0 from h0), below_way root B p tk f (lv + 1) (2 * pl + 1) (by omega) e w1, below_other root B p tk f (lv + 1) (2 * pl) (by omega) (by omega), below_whole root B tk f _ _ (show wholeT B tk (lv + 1) (2 * pl) = true from w0), sdAt_child, sdAt_child]
      simp
/-- One taking out of any row. -/
theorem below_take (root : List UInt8) (B p : Nat) (tk : List Nat) (ht : p ∉ tk) : ∀ (f lv pl : Nat), lv + f = B → p / 2 ^ (B - lv) = pl →
    ∃ pre s post, belowT root B tk f lv pl = pre ++ s :: post ∧ (∀ t ∈ pre, p / 2 ^ (B - t.lv) ≠ t.pl) ∧ p / 2 ^ (B - s.lv) = s.pl ∧ s.lv ≤ B ∧ s = sdAt root s.lv s.pl
      ∧ belowT root B (tk ++ [p]) f lv pl = pre ++ ((stK B p s (B - s.lv)).2.1 ++ (stK B p s (B - s.lv)).2.2.reverse) ++ post
  | f, lv, pl, hf, hp => by
    by_cases hw : wholeT B tk lv pl = true
    · refine ⟨[], sdAt root lv pl, [], by rw [below_whole root B tk f lv pl hw]; rfl, by simp, hp, by show lv ≤ B; omega, rfl, ?_⟩
      rw [below_way root B p tk f lv pl hf hp hw, show B - (sdAt root lv pl).lv = f by show B - lv = f; omega]
      simp
    · have hw' : wholeT B tk lv pl = false := by simpa using hw
      have hnw : wholeT B (tk ++ [p]) lv pl = false := by rw [whole_snoc, hw']; rfl
      match f with
      | 0 =>
        exfalso
        refine hw ?_
        simp only [wholeT, List.all_eq_true, bne_iff_ne]
        intro t htm e
        rw [show B - lv = 0 by omega] at e hp
        simp at e hp
        exact ht (by rw [hp, ← e]; exact htm)
      | f + 1 =>
        have hup := div_up p B lv (by omega)
        rw [below_part root B tk f lv pl hw', below_part root B _ f lv pl hnw]
        by_cases h0 : p / 2 ^ (B - (lv + 1)) = 2 * pl
        · obtain ⟨pre, s, post, e1, e2, e3, e4, e5, e6⟩ := below_take root B p tk ht f (lv + 1) (2 * pl) (by omega) h0
          refine ⟨pre, s, post ++ belowT root B tk f (lv + 1) (2 * pl + 1), by rw [e1]; simp, e2, e3, e4, e5, ?_⟩
          rw [e6, below_other root B p tk f (lv + 1) (2 * pl + 1) (by omega) (by omega)]
          simp
        · have h1 : p / 2 ^ (B - (lv + 1)) = 2 * pl + 1 := by omega
          obtain ⟨pre, s, post, e1, e2, e3, e4, e5, e6⟩ := below_take root B p tk ht f (lv + 1) (2 * pl + 1) (by omega) h1
          refine ⟨belowT root B tk f (lv + 1) (2 * pl) ++ pre, s, post, by rw [e1]; simp, ?_, e3, e4, e5, ?_⟩
          · intro t htm
            rcases List.mem_append.1 htm with htm | htm
            · exact below_above root B p tk f (lv + 1) (2 * pl) (by omega) (by omega) t htm
            · exact e2 t htm
          · rw [e6, below_other root B p tk f (lv + 1) (2 * pl) (by omega) (by omega)]
            simp
theorem stK_at (root : List UInt8) (B p : Nat) (s : Sd) (hs : s = sdAt root s.lv s.pl) (hp : p / 2 ^ (B - s.lv) = s.pl) : ∀ k, s.lv + k ≤ B → (stK B p s k).1 = sdAt root (s.lv + k) (p / 2 ^ (B - (s.lv + k)))
  | 0, _ => by rw [stK, Nat.add_zero, hp]; exact hs
  | k + 1, hk => by
    have ih := stK_at root B p s hs hp k (by omega)
    have hup := div_up p B (s.lv + k) (by omega)
    have hlv := stK_lv B p s k
    have hway : wayT B p (stK B p s k).1.lv = p / 2 ^ (B - (s.lv + (k + 1))) % 2 := by rw [hlv, wayT, show B - (s.lv + k) - 1 = B - (s.lv + (k + 1)) by omega]
    rw [show s.lv + k + 1 = s.lv + (k + 1) by omega] at hup
    rw [stK_step]
    by_cases h0 : wayT B p (stK B p s k).1.lv = 0
    · rw [if_pos h0, ih, sdAt_child]
      rw [show 2 * (p / 2 ^ (B - (s.lv + k))) + (if false = true then 1 else 0) = p / 2 ^ (B - (s.lv + (k + 1))) by simp; omega]
      rfl
    · rw [if_neg h0, ih, sdAt_child]
      rw [show 2 * (p / 2 ^ (B - (s.lv + k))) + (if true = true then 1 else 0) = p / 2 ^ (B - (s.lv + (k + 1))) by simp; omega]
      rfl

theorem within_top {B : Nat} {p : Int} (h : withinT B p = true) : p.toNat / 2 ^ (B - 0) = 0 := by
  have h2 : 0 ≤ p ∧ p < ((2 ^ B : Nat) : Int) := by simpa [withinT] using h
  rw [Nat.sub_zero, Nat.div_eq_of_lt (by omega)]
theorem find_row_none {root : List UInt8} {B p : Nat} {tk : List Nat} (h : p ∈ tk) : findT B p (rowT root B tk) = none := by
  rw [findT, List.findIdx?_eq_none_iff]
  intro s hs
  obtain ⟨_, _, _, _, h5⟩ := below_mem root B tk B 0 0 s (by omega) hs
  simp only [wholeT, List.all_eq_true, bne_iff_ne] at h5
  simpa using h5 p h
theorem find_split {B p : Nat} {pre post : List Sd} {s : Sd} (h : ∀ t ∈ pre, p / 2 ^ (B - t.lv) ≠ t.pl) (hs : p / 2 ^ (B - s.lv) = s.pl) : findT B p (pre ++ s :: post) = some pre.length :=
  findT_some (fun j t hj ht => h t (by rw [List.getElem?_append_left hj] at ht; exact List.mem_of_getElem? ht)) (by simp) hs
/-- A place that is there and was not taken: its key, and the row behind its taking. -/
theorem row_take (root : List UInt8) (B : Nat) (p : Int) (tk : List Nat) (hw : withinT B p = true) (ht : p.toNat ∉ tk) :
    takeT B p (rowT root B tk) = rowT root B (tk ++ [p.toNat]) ∧ lookT B p (rowT root B tk) = (keyT (atD p.toNat B root), 0) ∧ goneT B p (rowT root B tk) = false := by
  obtain ⟨pre, s, post, e1, e2, e3, e4, e5, e6⟩ := below_take root B p.toNat tk ht B 0 0 (by omega) (within_top hw)
  have hrow : rowT root B tk = pre ++ s :: post := e1
  have hrow2 : rowT root B (tk ++ [p.toNat]) = _ := e6
  have hf : findT B p.toNat (rowT root B tk) = some pre.length := by rw [hrow]; exact find_split e2 e3
  have hl : (rowT root B tk)[pre.length]? = some s := by rw [hrow]; simp
  refine ⟨?_, ?_, ?_⟩
  · rw [takeT, if_pos hw]
    simp only [hf, hl]
    rw [hrow2, hrow]
    simp
  · rw [lookT, if_pos hw]
    simp only [hf, hl]
    rw [stK_at root B p.toNat s e5 e3 (B - s.lv) (by omega), show s.lv + (B - s.lv) = B by omega]
    simp [sdAt]
  · rw [goneT, hw, hf]; rfl
theorem row_gone (root : List UInt8) (B : Nat) (p : Int) (tk : List Nat) (hw : withinT B p = true) (ht : p.toNat ∈ tk) :
    takeT B p (rowT root B tk) = rowT root B tk ∧ lookT B p (rowT root B tk) = (zh32, 10) ∧ goneT B p (rowT root B tk) = true := by
  have hf : findT B p.toNat (rowT root B tk) = none := find_row_none ht
  refine ⟨?_, ?_, ?_⟩
  · rw [takeT, if_pos hw]; simp only [hf]
  · rw [lookT, if_pos hw]; simp only [hf]
  · rw [goneT, hf]; simp
theorem row_out (root : List UInt8) (B : Nat) (p : Int) (tk : List Nat) (hw : withinT B p = false) :
    takeT B p (rowT root B tk) = rowT root B tk ∧ lookT B p (rowT root B tk) = (zh32, 1) ∧ goneT B p (rowT root B tk) = true := by
  refine ⟨?_, ?_, ?_⟩
  · rw [takeT, if_neg (by simp [hw])]
  · rw [lookT, if_neg (by simp [hw])]
  · rw [goneT, hw]; rfl
theorem row_new (root : List UInt8) (B : Nat) (h : root.length = 32) : rowT root B [] = [⟨0, 0, root⟩] := by
  rw [rowT, below_whole _ _ _ _ _ _ (by simp [wholeT])]; rfl
theorem row_mem {root : List UInt8} {B : Nat} {tk : List Nat} (h : root.length = 32) : ∀ s ∈ rowT root B tk, s.lv ≤ B ∧ s.pl < 2 ^ s.lv ∧ s.h.length = 32 := fun s hs => by
  obtain ⟨h1, h2, h3, h4, h5⟩ := below_mem root B tk B 0 0 s (by omega) hs
  refine ⟨h2, ?_, by rw [h4]; exact atD_len _ _ _ h⟩
  rw [Nat.sub_zero] at h3
  exact Nat.lt_of_div_eq_zero (Nat.two_pow_pos _) h3
theorem row_len (root : List UInt8) (B p : Nat) (tk : List Nat) (hw : p < 2 ^ B) : (rowT root B (tk ++ [p])).length ≤ (rowT root B tk).length + 2 * B := by
  by_cases ht : p ∈ tk
  · have e : ∀ f lv pl, belowT root B (tk ++ [p]) f lv pl = belowT root B tk f lv pl := by
      intro f
      have hww : ∀ lv pl, wholeT B (tk ++ [p]) lv pl = wholeT B tk lv pl := fun lv pl => by
        rw [whole_snoc]
        cases h : wholeT B tk lv pl with
        | false => rfl
        | true =>
          simp only [wholeT, List.all_eq_true, bne_iff_ne] at h
          simpa using h p ht
      induction f with
      | zero => intro lv pl; rw [belowT, belowT, hww]
      | succ f ih => intro lv pl; rw [belowT, belowT, hww, ih, ih]
    rw [rowT, e]; exact Nat.le_add_right _ _
  · obtain ⟨pre, s, post, e1, e2, e3, e4, e5, e6⟩ := below_take root B p tk ht B 0 0 (by omega) (by rw [Nat.sub_zero, Nat.div_eq_of_lt hw])
    have h := stK_len B p s (B - s.lv)
    rw [rowT, rowT, e6, e1]
    simp
    omega
end Go.Proofs.Ytlomofcnknpciaa
