/-
  The plain law of GleanMeets: who wants what it lacks is given just that.
-/
import Derived.Test.YtlomofcnknpciaaGleanLaw
set_option linter.unusedSimpArgs false
set_option linter.unusedVariables false
namespace Go.Proofs.Ytlomofcnknpciaa
open Go.RowKit

theorem stepT_mem : ∀ (l acc : List HsT), acc.length + l.length ≤ 256 → ∀ x, x ∈ l.foldl stepT acc ↔ x ∈ acc ∨ x ∈ l
  | [], acc, _, x => by simp
  | c :: l, acc, h, x => by
    rw [List.length_cons] at h
    rw [List.foldl_cons]
    by_cases hc : c ∈ acc
    · rw [show stepT acc c = acc from if_neg (fun e => e.2 hc), stepT_mem l acc (by omega) x, List.mem_cons]
      constructor
      · rintro (h1 | h1)
        · exact .inl h1
        · exact .inr (.inr h1)
      · rintro (h1 | h1 | h1)
        · exact .inl h1
        · exact .inl (h1 ▸ hc)
        · exact .inr h1
    · rw [show stepT acc c = acc ++ [c] from if_pos ⟨by omega, hc⟩, stepT_mem l _ (by rw [List.length_append, List.length_singleton]; omega) x, List.mem_append, List.mem_singleton, List.mem_cons, or_assoc]
theorem stepF_all (R : List HsT) : ∀ (l acc : List Kn), ((acc ++ l).map (·.h)).Nodup → l.foldl (stepF R) acc = acc ++ l.filter (fun c => decide (c.h ∈ R))
  | [], acc, _ => by simp
  | c :: l, acc, h => by
    rw [List.foldl_cons]
    have hn : c.h ∉ acc.map (·.h) := by
      rw [List.map_append, List.nodup_append] at h
      exact fun e => h.2.2 _ e _ (by simp) rfl
    by_cases hc : c.h ∈ R
    · rw [show stepF R acc c = acc ++ [c] from if_pos ⟨hc, hn⟩, stepF_all R l (acc ++ [c]) (by simpa using h)]
      simp [hc]
    · rw [show stepF R acc c = acc from if_neg (fun e => hc e.1), stepF_all R l acc ?_]
      · simp [hc]
      · rw [List.map_append] at h ⊢
        exact h.sublist (List.Sublist.append_left (by simp) _)
theorem stepG_all : ∀ (l : List Kn) (acc : List (List UInt8)), acc.length + l.length ≤ 64 → (∀ c ∈ l, c.s ≠ [] ∧ c.s.length ≤ 65536) → l.foldl stepG acc = acc ++ l.map (·.s)
  | [], acc, _, _ => by simp
  | c :: l, acc, h, hs => by
    rw [List.length_cons] at h
    have h1 := hs c List.mem_cons_self
    rw [List.foldl_cons, show stepG acc c = acc ++ [c.s] from if_pos ⟨by omega, h1.1, h1.2⟩, stepG_all l _ (by rw [List.length_append, List.length_singleton]; omega) (fun x hx => hs x (List.mem_cons_of_mem _ hx))]
    simp
/-- What is asked of the epochs. -/
structure Fine (all : List Kn) : Prop where
  len : all.length ≤ 64
  text : ∀ c ∈ all, c.s ≠ [] ∧ c.s.length ≤ 65536
  ids : (all.map (·.h)).Nodup
  texts : (all.map (·.s)).Nodup
theorem text_inj : ∀ {F : List Kn}, (F.map (·.s)).Nodup → ∀ {x y : Kn}, x ∈ F → y ∈ F → x.s = y.s → x = y
  | [], _, _, _, hx, _, _ => by cases hx
  | c :: F, hn, x, y, hx, hy, e => by
    have hn' := hn
    rw [List.map_cons, List.nodup_cons] at hn'
    rcases List.mem_cons.1 hx with hx | hx <;> rcases List.mem_cons.1 hy with hy | hy
    · rw [hx, hy]
    · exact absurd (List.mem_map.2 ⟨y, hy, by rw [← e, hx]⟩) hn'.1
    · exact absurd (List.mem_map.2 ⟨x, hx, by rw [e, hy]⟩) hn'.1
    · exact text_inj hn'.2 hx hy e
theorem meet_told {all L : List Kn} (F : Fine all) (hp : L.Perm (all.filter fun c => !c.s.isEmpty)) {R : List HsT} (hm : ∀ x, x ∈ R ↔ x ∈ (L.map (·.h)).foldl stepT []) (x : HsT) : x ∈ R ↔ x ∈ all.map (·.h) := by
  have hf : (all.filter fun c => !c.s.isEmpty) = all := List.filter_eq_self.2 fun c hc => by
    have := (F.text c hc).1
    cases e : c.s with
    | nil => exact absurd e this
    | cons a b => rfl
  rw [hf] at hp
  rw [hm x, stepT_mem _ _ (by rw [List.length_map, hp.length_eq]; have := F.len; simp; omega)]
  simp only [List.not_mem_nil, false_or]
  exact (hp.map _).mem_iff
theorem meet_want {all : List Kn} (F : Fine all) {R1 R2 hv : List HsT} (h1 : ∀ x, x ∈ R1 ↔ x ∈ all.map (·.h)) (hr : Rises R2) (h2 : ∀ x, x ∈ R2 ↔ x ∈ R1 ∧ x ∉ hv) : R2.length ≤ 64 := by
  refine Nat.le_trans (nodup_len hr.nodup fun x hx => (h1 x).1 ((h2 x).1 hx).1) ?_
  rw [List.length_map]; exact F.len
/-- What one is given: just the epochs that one lacks, the deeper ones behind. -/
structure Met (all : List Kn) (hv : List HsT) (L : List Kn) : Prop where
  mem : ∀ c, c ∈ L ↔ c ∈ all ∧ c.h ∉ hv
  sorted : L.Pairwise fun x y => x.d ≤ y.d
  len : L.length ≤ 64
theorem meet_give {all : List Kn} (F : Fine all) {R1 R2 hv : List HsT} (h1 : ∀ x, x ∈ R1 ↔ x ∈ all.map (·.h)) (h2 : ∀ x, x ∈ R2 ↔ x ∈ R1 ∧ x ∉ hv) {L : List Kn} (hp : L.Perm (all.foldl (stepF R2) [])) (hs : L.Pairwise fun x y => 0 ≤ cmpK y x) : Met all hv L ∧ L.foldl stepG [] = L.map (·.s) := by
  rw [stepF_all R2 all [] (by simpa using F.ids), List.nil_append] at hp
  have hm : ∀ c, c ∈ L ↔ c ∈ all ∧ c.h ∉ hv := fun c => by
    rw [hp.mem_iff, List.mem_filter, decide_eq_true_eq, h2, h1]
    constructor
    · rintro ⟨a, _, b⟩; exact ⟨a, b⟩
    · rintro ⟨a, b⟩; exact ⟨a, List.mem_map.2 ⟨c, a, rfl⟩, b⟩
  have hl : L.length ≤ 64 := by
    rw [hp.length_eq]
    exact Nat.le_trans (List.length_filter_le _ _) F.len
  refine ⟨⟨hm, hs.imp fun {x y} h => ?_, hl⟩, ?_⟩
  · have : ¬ cmpK y x < 0 := by omega
    rw [cmpK_lt] at this
    have : ¬ y.d < x.d := fun h => this (.inl h)
    omega
  · rw [stepG_all L [] (by simpa using hl) (fun c hc => F.text c ((hm c).1 hc).1)]
    rfl
/-- How deep the last one was: of the one that is looked for, once it was met, else of the one before. -/
def prevD (L : List Kn) : Nat → Int
  | 0 => 0
  | i + 1 => match L[i]? with | some c => c.d | none => 0
def deepT (all L : List Kn) (i k : Nat) : Int := match L[i]? with
  | some c => if c.s ∈ (all.take k).map (·.s) then c.d else prevD L i
  | none => 0
theorem deepT_zero {all L : List Kn} {i : Nat} {c : Kn} (hc : L[i]? = some c) : deepT all L i 0 = prevD L i := by
  unfold deepT
  rw [hc]
  simp
theorem deepT_miss {all L : List Kn} {i k : Nat} {c x : Kn} (hc : L[i]? = some c) (hx : all[k]? = some x) (hne : x.s ≠ c.s) : deepT all L i (k + 1) = deepT all L i k := by
  unfold deepT
  rw [hc]
  have : (c.s ∈ (all.take (k + 1)).map (·.s)) ↔ c.s ∈ (all.take k).map (·.s) := by
    rw [List.take_add_one, hx, List.map_append, List.mem_append]
    constructor
    · rintro (h | h)
      · exact h
      · simp at h
        exact absurd h.symm hne
    · exact .inl
  simp only [this]
theorem deepT_hit {all L : List Kn} {i k : Nat} {c x : Kn} (hc : L[i]? = some c) (hx : all[k]? = some x) (he : x.s = c.s) : deepT all L i (k + 1) = c.d := by
  unfold deepT
  rw [hc]
  refine if_pos ?_
  rw [List.take_add_one, hx, List.map_append, List.mem_append]
  exact .inr (by simp [he])
theorem deepT_end {all L : List Kn} {hv : List HsT} {i : Nat} {c : Kn} (M : Met all hv L) (hc : L[i]? = some c) : deepT all L i all.length = prevD L (i + 1) := by
  have h1 := ((M.mem c).1 (List.mem_of_getElem? hc)).1
  show _ = (match L[i]? with | some c => c.d | none => 0)
  unfold deepT
  rw [hc, List.take_length]
  exact if_pos (List.mem_map.2 ⟨c, h1, rfl⟩)
theorem met_hit {all L : List Kn} {hv : List HsT} (F : Fine all) (M : Met all hv L) {i k : Nat} {c x : Kn} (hc : L[i]? = some c) (hx : all[k]? = some x) (he : x.s = c.s) : x = c ∧ c.h ∉ hv ∧ (0 < i → deepT all L i k ≤ c.d) := by
  have h1 := (M.mem c).1 (List.mem_of_getElem? hc)
  refine ⟨text_inj F.texts (List.mem_of_getElem? hx) h1.1 he, h1.2, fun hi => ?_⟩
  unfold deepT
  rw [hc]
  show (if _ then _ else _) ≤ _
  split
  · exact Int.le_refl _
  · obtain ⟨i, rfl⟩ : ∃ i', i = i' + 1 := ⟨i - 1, by omega⟩
    show (match L[i]? with | some c => c.d | none => 0) ≤ _
    obtain ⟨hi1, e1⟩ := List.getElem?_eq_some_iff.1 hc
    rw [List.getElem?_eq_getElem (show i < L.length by omega)]
    have := List.pairwise_iff_getElem.1 M.sorted i (i + 1) (by omega) hi1 (by omega)
    rwa [e1] at this
theorem met_there {all L : List Kn} {hv : List HsT} (M : Met all hv L) {x : Kn} (hx : x ∈ all) (hn : x.h ∉ hv) : ∃ i, i < L.length ∧ ∃ c, L[i]? = some c ∧ c.s = x.s := by
  obtain ⟨i, hi⟩ := List.getElem?_of_mem ((M.mem x).2 ⟨hx, hn⟩)
  exact ⟨i, (List.getElem?_eq_some_iff.1 hi).1, x, hi, rfl⟩
end Go.Proofs.Ytlomofcnknpciaa
