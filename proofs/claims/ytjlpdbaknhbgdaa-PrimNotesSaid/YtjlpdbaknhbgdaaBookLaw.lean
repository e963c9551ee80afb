/-
  What follows from facts: by rules; what the work list finds, plain.
-/
import Derived.Test.YtjlpdbaknhbgdaaKit0
set_option linter.unusedSimpArgs false
set_option linter.unusedVariables false
namespace Go.Proofs.Ytjlpdbaknhbgdaa
open Go.RowKit

abbrev HsT := List UInt8
/-- A fact: what follows from what. -/
structure FactT where
  ins : List HsT
  outs : List HsT
deriving DecidableEq
/-- What follows from facts and secrets. -/
inductive Fol (fs : List FactT) (from_ : List HsT) : HsT → Prop
  | base {h : HsT} : h ∈ from_ → Fol fs from_ h
  | step {f : FactT} {h : HsT} : f ∈ fs → (∀ x ∈ f.ins, Fol fs from_ x) → h ∈ f.outs → Fol fs from_ h
theorem Fol.mono {fs fs' : List FactT} {a a' : List HsT} (h1 : ∀ f ∈ fs, f ∈ fs') (h2 : ∀ x ∈ a, Fol fs' a' x) {h : HsT} (h3 : Fol fs a h) : Fol fs' a' h := by
  induction h3 with
  | base h => exact h2 _ h
  | step hf _ ho ih => exact .step (h1 _ hf) ih ho
/-- All that can follow at all. -/
def univ (fs : List FactT) (a : List HsT) : List HsT := a ++ fs.flatMap (·.outs)
theorem Fol.univ {fs : List FactT} {a : List HsT} {h : HsT} (h1 : Fol fs a h) : h ∈ univ fs a := by
  cases h1 with
  | base h => exact List.mem_append_left _ h
  | step hf _ ho => exact List.mem_append_right _ (List.mem_flatMap.2 ⟨_, hf, ho⟩)
theorem closed_fol {fs : List FactT} {a O : List HsT} (h1 : ∀ x ∈ a, x ∈ O) (h2 : ∀ f ∈ fs, (∀ x ∈ f.ins, x ∈ O) → ∀ h ∈ f.outs, h ∈ O) {h : HsT} (h3 : Fol fs a h) : h ∈ O := by
  induction h3 with
  | base h => exact h1 _ h
  | step hf _ ho ih => exact h2 _ hf ih _ ho
theorem nodup_len {α : Type} [DecidableEq α] : ∀ {l m : List α}, l.Nodup → (∀ x ∈ l, x ∈ m) → l.length ≤ m.length
  | [], _, _, _ => by simp
  | x :: l, m, hn, hs => by
    obtain ⟨h1, h2⟩ := List.nodup_cons.1 hn
    have h3 := nodup_len (m := m.erase x) h2 (fun y hy => (List.mem_erase_of_ne (fun e => h1 (by rw [← e]; exact hy))).2 (hs y (List.mem_cons_of_mem _ hy)))
    have h4 := List.length_erase_of_mem (hs x List.mem_cons_self)
    have h5 := List.length_pos_of_mem (hs x List.mem_cons_self)
    rw [List.length_cons]; omega
/-- What putting a list in adds. -/
def newT (O : List HsT) : List HsT → List HsT
  | [] => []
  | h :: l => if h ∈ O then newT O l else h :: newT (O ++ [h]) l
theorem mem_newT : ∀ (l O : List HsT) (h : HsT), h ∈ newT O l ↔ h ∉ O ∧ h ∈ l
  | [], O, h => by simp [newT]
  | x :: l, O, h => by
    rw [newT]
    by_cases hx : x ∈ O
    · rw [if_pos hx, mem_newT l O h]
      constructor
      · rintro ⟨h1, h2⟩; exact ⟨h1, List.mem_cons_of_mem _ h2⟩
      · rintro ⟨h1, h2⟩
        rcases List.mem_cons.1 h2 with rfl | h2
        · exact absurd hx h1
        · exact ⟨h1, h2⟩
    · rw [if_neg hx, List.mem_cons, mem_newT l (O ++ [x]) h]
      constructor
      · rintro (rfl | ⟨h1, h2⟩)
        · exact ⟨hx, List.mem_cons_self⟩
        · exact ⟨fun e => h1 (List.mem_append_left _ e), List.mem_cons_of_mem _ h2⟩
      · rintro ⟨h1, h2⟩
        by_cases e : h = x
        · exact .inl e
        · rcases List.mem_cons.1 h2 with rfl | h2
          · exact absurd rfl e
          · exact .inr ⟨by simp [h1, e], h2⟩
theorem nodup_newT : ∀ (l O : List HsT), O.Nodup → (O ++ newT O l).Nodup
  | [], O, h => by simpa [newT] using h
  | x :: l, O, h => by
    rw [newT]
    by_cases hx : x ∈ O
    · rw [if_pos hx]; exact nodup_newT l O h
    · rw [if_neg hx]
      have : (O ++ [x]).Nodup := by
        rw [List.nodup_append]
        refine ⟨h, by simp, fun a ha b hb => ?_⟩
        rw [List.mem_singleton.1 hb]
        intro e
        exact hx (by rw [← e]; exact ha)
      have := nodup_newT l (O ++ [x]) this
      simpa using this
theorem newT_snoc (O : List HsT) (x : HsT) : ∀ (l : List HsT) , newT O (l ++ [x]) = newT O l ++ (if x ∈ O ++ newT O l then [] else [x])
  | [] => by simp [newT]
  | y :: l => by
    rw [List.cons_append, newT, newT]
    by_cases hy : y ∈ O
    · rw [if_pos hy, if_pos hy]; exact newT_snoc O x l
    · rw [if_neg hy, if_neg hy, newT_snoc (O ++ [y]) x l]
      simp
/-- How many of a fact's secrets are still lacking. -/
def mis (D : List HsT) (f : FactT) : Nat := (f.ins.filter fun x => decide (x ∉ D)).length
theorem mis_nil (f : FactT) : mis [] f = f.ins.length := by simp [mis]
theorem mis_zero {D : List HsT} {f : FactT} : mis D f = 0 ↔ ∀ x ∈ f.ins, x ∈ D := by
  unfold mis
  rw [List.length_eq_zero_iff, List.filter_eq_nil_iff]
  simp
theorem mis_cons_aux (D : List HsT) (h : HsT) (hD : h ∉ D) : ∀ l : List HsT, (l.filter fun x => decide (x ∉ h :: D)).length + l.count h = (l.filter fun x => decide (x ∉ D)).length
  | [] => rfl
  | x :: l => by
    have ih := mis_cons_aux D h hD l
    rw [List.filter_cons, List.filter_cons, List.count_cons]
    by_cases e : x = h
    · subst e
      simp [hD] at ih ⊢
      omega
    · by_cases hx : x ∈ D
      · simp [e, hx] at ih ⊢
        exact ih
      · simp [e, hx] at ih ⊢
        omega
theorem mis_cons {D : List HsT} {h : HsT} (hD : h ∉ D) (f : FactT) : mis (h :: D) f + f.ins.count h = mis D f := mis_cons_aux D h hD f.ins
theorem mis_perm {D D' : List HsT} (h : D.Perm D') (f : FactT) : mis D f = mis D' f := by
  unfold mis
  congr 1
  apply List.filter_congr
  intro x _
  simp [h.mem_iff]
/-- Which facts lack a secret, once for each time. -/
def needs1 (h : HsT) : List FactT → Nat → List Nat
  | [], _ => []
  | f :: fs, n => List.replicate (f.ins.count h) n ++ needs1 h fs (n + 1)
def needsT (fs : List FactT) (h : HsT) : List Nat := needs1 h fs 0
theorem needs1_snoc (h : HsT) (f : FactT) : ∀ (fs : List FactT) (n : Nat), needs1 h (fs ++ [f]) n = needs1 h fs n ++ List.replicate (f.ins.count h) (n + fs.length)
  | [], n => by simp [needs1]
  | g :: fs, n => by
    rw [List.cons_append, needs1, needs1, needs1_snoc h f fs (n + 1)]
    rw [List.length_cons, show n + 1 + fs.length = n + (fs.length + 1) by omega, List.append_assoc]
theorem needsT_snoc (fs : List FactT) (f : FactT) (h : HsT) : needsT (fs ++ [f]) h = needsT fs h ++ List.replicate (f.ins.count h) fs.length := by
  rw [needsT, needs1_snoc, Nat.zero_add]; rfl
theorem needs1_count (h : HsT) : ∀ (fs : List FactT) (n i : Nat), (needs1 h fs n).count i = if n ≤ i then (match fs[i - n]? with | some f => f.ins.count h | none => 0) else 0
  | [], n, i => by simp [needs1]
  | f :: fs, n, i => by
    rw [needs1, List.count_append, needs1_count h fs (n + 1) i, List.count_replicate]
    by_cases h1 : n = i
    · subst h1
      rw [if_pos (by simp), if_neg (by omega), if_pos (Nat.le_refl _), Nat.sub_self]
      simp
    · by_cases h2 : n ≤ i
      · have e : i - n = (i - (n + 1)) + 1 := by omega
        rw [if_neg (by simpa using h1), if_pos (by omega), if_pos h2, e, List.getElem?_cons_succ, Nat.zero_add]
      · rw [if_neg (by simpa using h1), if_neg (by omega), if_neg h2]
theorem needsT_count (fs : List FactT) (h : HsT) (i : Nat) (f : FactT) (hf : fs[i]? = some f) : (needsT fs h).count i = f.ins.count h := by
  rw [needsT, needs1_count, if_pos (Nat.zero_le _), Nat.sub_zero, hf]
theorem needsT_lt (fs : List FactT) (h : HsT) (i : Nat) (hi : i ∈ needsT fs h) : i < fs.length := by
  have h1 := List.count_pos_iff.2 hi
  rw [needsT, needs1_count, if_pos (Nat.zero_le _), Nat.sub_zero] at h1
  cases hq : fs[i]? with
  | none => rw [hq] at h1; simp at h1
  | some f => exact (List.getElem?_eq_some_iff.1 hq).1
theorem needs1_len (h : HsT) : ∀ (fs : List FactT) (n : Nat), (needs1 h fs n).length ≤ (fs.flatMap (·.ins)).length
  | [], n => by simp [needs1]
  | f :: fs, n => by
    have h1 := needs1_len h fs (n + 1)
    have h2 : f.ins.count h ≤ f.ins.length := List.count_le_length
    rw [needs1, List.length_append, List.length_replicate, List.flatMap_cons, List.length_append]
    omega
/-- The work list's state, between two secrets. -/
structure KInv (fs : List FactT) (a O T : List HsT) (M : List Nat) (D : List HsT) : Prop where
  nodup : O.Nodup
  perm : (D ++ T).Perm O
  sound : ∀ h ∈ O, Fol fs a h
  base : ∀ h ∈ a, h ∈ O
  len : M.length = fs.length
  mi : ∀ (i : Nat) (f : FactT), fs[i]? = some f → M[i]? = some (mis D f)
  zero : ∀ (i : Nat) (f : FactT), fs[i]? = some f → M[i]? = some 0 → ∀ h ∈ f.outs, h ∈ O
/-- The state within the round for secret h, at place j of those that need it. -/
structure KIn (fs : List FactT) (a O T : List HsT) (M : List Nat) (D : List HsT) (h : HsT) (j : Nat) : Prop where
  nodup : O.Nodup
  perm : (h :: D ++ T).Perm O
  sound : ∀ h ∈ O, Fol fs a h
  base : ∀ h ∈ a, h ∈ O
  len : M.length = fs.length
  mi : ∀ (i : Nat) (f : FactT), fs[i]? = some f → M[i]? = some (mis D f - ((needsT fs h).take j).count i)
  zero : ∀ (i : Nat) (f : FactT), fs[i]? = some f → M[i]? = some 0 → ∀ h ∈ f.outs, h ∈ O
theorem KInv.start {fs : List FactT} {a O T : List HsT} {M : List Nat} {D : List HsT} {h : HsT} (k : KInv fs a O (T ++ [h]) M D) : KIn fs a O T M D h 0 :=
  ⟨k.nodup, (List.Perm.trans (by
    rw [← List.append_assoc]
    exact (List.perm_append_singleton h (D ++ T)).symm) k.perm), k.sound, k.base, k.len, fun i f hf => by simpa using k.mi i f hf, k.zero⟩
theorem KIn.fresh {fs : List FactT} {a O T : List HsT} {M : List Nat} {D : List HsT} {h : HsT} {j : Nat} (k : KIn fs a O T M D h j) : h ∉ D := fun e => by
  have h1 := (k.perm.nodup_iff).2 k.nodup
  rw [List.cons_append, List.nodup_cons] at h1
  exact h1.1 (List.mem_append_left _ e)
theorem KIn.finish {fs : List FactT} {a O T : List HsT} {M : List Nat} {D : List HsT} {h : HsT} {j : Nat} (k : KIn fs a O T M D h j) (hj : j = (needsT fs h).length) : KInv fs a O T M (h :: D) :=
  ⟨k.nodup, k.perm, k.sound, k.base, k.len, fun i f hf => by
    rw [k.mi i f hf, hj, List.take_length, needsT_count fs h i f hf]
    have := mis_cons k.fresh f
    congr 1
    omega, k.zero⟩
/-- How many are lacking when a place of the list comes up: at least one. -/
theorem KIn.pos {fs : List FactT} {a O T : List HsT} {M : List Nat} {D : List HsT} {h : HsT} {j i : Nat} (k : KIn fs a O T M D h j) (hj : (needsT fs h)[j]? = some i) :
    ∃ f m, fs[i]? = some f ∧ M[i]? = some (m + 1) ∧ (m = 0 → ∀ x ∈ f.ins, x ∈ h :: D) ∧ (∀ i' f', fs[i']? = some f' → (M.set i m)[i']? = some (mis D f' - ((needsT fs h).take (j + 1)).count i')) := by
  obtain ⟨hlt, hget⟩ := List.getElem?_eq_some_iff.1 hj
  have hi := needsT_lt fs h i (List.mem_of_getElem? hj)
  obtain ⟨f, hf⟩ : ∃ f, fs[i]? = some f := ⟨fs[i], List.getElem?_eq_getElem hi⟩
  have h1 := k.mi i f hf
  have h2 := mis_cons k.fresh f
  have h3 := needsT_count fs h i f hf
  have h4 : ((needsT fs h).take (j + 1)).count i = ((needsT fs h).take j).count i + 1 := by
    rw [List.take_succ_eq_append_getElem hlt, List.count_append, hget]
    simp
  have h5 : ((needsT fs h).take (j + 1)).count i ≤ (needsT fs h).count i := (List.take_sublist _ _).count_le i
  refine ⟨f, mis D f - ((needsT fs h).take (j + 1)).count i, hf, by rw [h1]; congr 1; omega, fun h0 => ?_, fun i' f' hf' => ?_⟩
  · exact mis_zero.1 (by omega)
  · by_cases e : i' = i
    · subst e
      rw [hf] at hf'
      obtain rfl : f = f' := by simpa using hf'
      rw [List.getElem?_set_self (by rw [k.len]; exact hi)]
    · rw [List.getElem?_set_ne (fun e' => e e'.symm), k.mi i' f' hf']
      rw [List.take_succ_eq_append_getElem hlt, List.count_append, hget]
      simp [Ne.symm e]
/-- .. and nothing is put in. -/
theorem KIn.skip {fs : List FactT} {a O T : List HsT} {M : List Nat} {D : List HsT} {h : HsT} {j i m : Nat} (k : KIn fs a O T M D h j) (hj : (needsT fs h)[j]? = some i) (hM : M[i]? = some (m + 1)) (hm : m ≠ 0) : KIn fs a O T (M.set i m) D h (j + 1) := by
  obtain ⟨f, m', hf, h1, h2, h3⟩ := k.pos hj
  obtain rfl : m = m' := by rw [hM] at h1; simpa using h1
  refine ⟨k.nodup, k.perm, k.sound, k.base, by simpa using k.len, h3, fun i' f' hf' h0 => ?_⟩
  by_cases e : i' = i
  · subst e
    have hi := (List.getElem?_eq_some_iff.1 hM).1
    rw [List.getElem?_set_self hi] at h0
    simp at h0
    exact absurd h0 hm
  · rw [List.getElem?_set_ne (fun e' => e e'.symm)] at h0
    exact k.zero i' f' hf' h0
/-- .. and what the fact says is put in. -/
theorem KIn.put {fs : List FactT} {a O T : List HsT} {M : List Nat} {D : List HsT} {h : HsT} {j i : Nat} {f : FactT} (k : KIn fs a O T M D h j) (hj : (needsT fs h)[j]? = some i) (hM : M[i]? = some 1) (hf : fs[i]? = some f) :
    KIn fs a (O ++ newT O f.outs) (T ++ newT O f.outs) (M.set i 0) D h (j + 1) := by
  obtain ⟨f', m', hf', h1, h2, h3⟩ := k.pos hj
  obtain rfl : f = f' := by rw [hf] at hf'; simpa using hf'
  obtain rfl : m' = 0 := by rw [hM] at h1; simpa using h1.symm
  refine ⟨nodup_newT _ _ k.nodup, ?_, fun x hx => ?_, fun x hx => List.mem_append_left _ (k.base x hx), by simpa using k.len, h3, fun i' f' hf2 h0 => ?_⟩
  · rw [← List.append_assoc]
    exact k.perm.append_right _
  · rcases List.mem_append.1 hx with hx | hx
    · exact k.sound x hx
    · refine .step (List.mem_of_getElem? hf) (fun y hy => ?_) ((mem_newT _ _ _).1 hx).2
      exact k.sound y (k.perm.mem_iff.1 (List.mem_append_left _ (h2 rfl y hy)))
  · intro x hx
    by_cases e : i' = i
    · subst e
      rw [hf] at hf2
      obtain rfl : f = f' := by simpa using hf2
      by_cases ho : x ∈ O
      · exact List.mem_append_left _ ho
      · exact List.mem_append_right _ ((mem_newT _ _ _).2 ⟨ho, hx⟩)
    · rw [List.getElem?_set_ne (fun e' => e e'.symm)] at h0
      exact List.mem_append_left _ (k.zero i' f' hf2 h0 x hx)
/-- When nothing is left to do, all that follows has been found. -/
theorem KInv.done {fs : List FactT} {a O : List HsT} {M : List Nat} {D : List HsT} (k : KInv fs a O [] M D) (h : HsT) : h ∈ O ↔ Fol fs a h := by
  refine ⟨k.sound h, closed_fol k.base fun f hf hi x hx => ?_⟩
  obtain ⟨i, hi2⟩ := List.getElem?_of_mem hf
  refine k.zero i f hi2 ?_ x hx
  rw [k.mi i f hi2]
  congr 1
  exact mis_zero.2 fun y hy => by
    have := k.perm.mem_iff.2 (hi y hy)
    simpa using this
theorem KInv.bound {fs : List FactT} {a O T : List HsT} {M : List Nat} {D : List HsT} (k : KInv fs a O T M D) : O.length ≤ (univ fs a).length ∧ D.length + T.length = O.length :=
  ⟨nodup_len k.nodup fun x hx => (k.sound x hx).univ, by have := k.perm.length_eq; simpa using this⟩
theorem KIn.bound {fs : List FactT} {a O T : List HsT} {M : List Nat} {D : List HsT} {h : HsT} {j : Nat} (k : KIn fs a O T M D h j) : O.length ≤ (univ fs a).length ∧ D.length + 1 + T.length = O.length :=
  ⟨nodup_len k.nodup fun x hx => (k.sound x hx).univ, by have := k.perm.length_eq; simp at this; omega⟩
/-- The state while the facts are gone over for the first time. -/
structure KStart (fs : List FactT) (a O : List HsT) (i : Nat) : Prop where
  nodup : O.Nodup
  sound : ∀ h ∈ O, Fol fs a h
  base : ∀ h ∈ a, h ∈ O
  zero : ∀ (j : Nat) (f : FactT), j < i → fs[j]? = some f → f.ins = [] → ∀ h ∈ f.outs, h ∈ O
theorem KStart.init (fs : List FactT) (a : List HsT) : KStart fs a (newT [] a) 0 :=
  ⟨by simpa using nodup_newT a [] List.nodup_nil, fun h hh => .base ((mem_newT _ _ _).1 hh).2, fun h hh => (mem_newT _ _ _).2 ⟨by simp, hh⟩, fun j f hj => by omega⟩
theorem KStart.skip {fs : List FactT} {a O : List HsT} {i : Nat} {f : FactT} (k : KStart fs a O i) (hf : fs[i]? = some f) (h0 : f.ins ≠ []) : KStart fs a O (i + 1) :=
  ⟨k.nodup, k.sound, k.base, fun j g hj hg h1 => by
    by_cases e : j = i
    · subst e; rw [hf] at hg; obtain rfl : f = g := by simpa using hg
      exact absurd h1 h0
    · exact k.zero j g (by omega) hg h1⟩
theorem KStart.put {fs : List FactT} {a O : List HsT} {i : Nat} {f : FactT} (k : KStart fs a O i) (hf : fs[i]? = some f) (h0 : f.ins = []) : KStart fs a (O ++ newT O f.outs) (i + 1) :=
  ⟨nodup_newT _ _ k.nodup, fun x hx => by
    rcases List.mem_append.1 hx with hx | hx
    · exact k.sound x hx
    · exact .step (List.mem_of_getElem? hf) (fun y hy => by rw [h0] at hy; cases hy) ((mem_newT _ _ _).1 hx).2,
   fun x hx => List.mem_append_left _ (k.base x hx), fun j g hj hg h1 x hx => by
    by_cases e : j = i
    · subst e; rw [hf] at hg; obtain rfl : f = g := by simpa using hg
      by_cases ho : x ∈ O
      · exact List.mem_append_left _ ho
      · exact List.mem_append_right _ ((mem_newT _ _ _).2 ⟨ho, hx⟩)
    · exact List.mem_append_left _ (k.zero j g (by omega) hg h1 x hx)⟩
theorem KStart.bound {fs : List FactT} {a O : List HsT} {i : Nat} (k : KStart fs a O i) : O.length ≤ (univ fs a).length := nodup_len k.nodup fun x hx => (k.sound x hx).univ
theorem KStart.inv {fs : List FactT} {a O : List HsT} (k : KStart fs a O fs.length) : KInv fs a O O (fs.map fun f => f.ins.length) [] :=
  ⟨k.nodup, by simp, k.sound, k.base, by simp, fun i f hf => by rw [List.getElem?_map, hf, mis_nil]; rfl, fun i f hf h0 => by
    rw [List.getElem?_map, hf] at h0
    exact k.zero i f (List.getElem?_eq_some_iff.1 hf).1 hf (List.eq_nil_of_length_eq_zero (by simpa using h0))⟩
/-- A note's effect on the list of facts; its error. -/
def noteT (fs : List FactT) (f : FactT) : List FactT := if f.outs = [] ∨ f ∈ fs then fs else fs ++ [f]
def noteE (f : FactT) : Int := if f.outs = [] then 1 else 0
theorem noteT_empty (fs : List FactT) (f : FactT) (h : f.outs = []) : noteT fs f = fs ∧ noteE f = 1 := by simp [noteT, noteE, h]
theorem noteT_mem (fs : List FactT) (f : FactT) (h : f ∈ fs) : noteT fs f = fs := by simp [noteT, h]
theorem noteT_new (fs : List FactT) (f : FactT) (h : f ∉ fs) (h0 : f.outs ≠ []) : noteT fs f = fs ++ [f] := by simp [noteT, h, h0]
theorem noteE_ok (f : FactT) (h0 : f.outs ≠ []) : noteE f = 0 := by simp [noteE, h0]
end Go.Proofs.Ytjlpdbaknhbgdaa
