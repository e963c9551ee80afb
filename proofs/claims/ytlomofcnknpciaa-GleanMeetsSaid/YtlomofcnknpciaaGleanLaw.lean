/-
  Plain laws of glean: what is told of and given, by the program's order and by the document's.
-/
import Derived.Test.YtlomofcnknpciaaGleanRKn
set_option linter.unusedSimpArgs false
set_option linter.unusedVariables false
namespace Go.Proofs.Ytlomofcnknpciaa
open Go.RowKit

def neK (c : Kn) : Bool := !c.s.isEmpty
theorem cmpT_zero {x y : Kn} (h1 : 0 ≤ cmpT y.h x.h) (h2 : 0 ≤ cmpT x.h y.h) : x.h = y.h := key_eq (by omega) (by omega)
theorem cmpD_eq {x y : Kn} (h1 : 0 ≤ cmpD y x) (h2 : 0 ≤ cmpD x y) : x.d = y.d ∧ x.h = y.h := by
  have a1 : ¬ cmpD y x < 0 := by omega
  have a2 : ¬ cmpD x y < 0 := by omega
  rw [cmpD_lt] at a1 a2
  have hd : x.d = y.d := by
    have : ¬ x.d < y.d := fun h => a1 (.inl h)
    have : ¬ y.d < x.d := fun h => a2 (.inl h)
    omega
  exact ⟨hd, key_eq (fun h => a2 (.inr ⟨hd, h⟩)) (fun h => a1 (.inr ⟨hd.symm, h⟩))⟩
theorem cmpK_eq {x y : Kn} (h1 : 0 ≤ cmpK y x) (h2 : 0 ≤ cmpK x y) : x.h = y.h := by
  have a1 : ¬ cmpK y x < 0 := by omega
  have a2 : ¬ cmpK x y < 0 := by omega
  rw [cmpK_lt] at a1 a2
  have hd : x.d = y.d := by
    have : ¬ x.d < y.d := fun h => a2 (.inl h)
    have : ¬ y.d < x.d := fun h => a1 (.inl h)
    omega
  exact key_eq (fun h => a2 (.inr ⟨hd, h⟩)) (fun h => a1 (.inr ⟨hd.symm, h⟩))
theorem cmpD_key {x y x' y' : Kn} (h1 : x.d = x'.d) (h2 : x.h = x'.h) (h3 : y.d = y'.d) (h4 : y.h = y'.h) : cmpD x y = cmpD x' y' := by
  unfold cmpD cmpK
  rw [h1, h2, h3, h4]
/-- Two orders of the same epochs name them alike. -/
theorem tell_keys {L M : List Kn} (hp : L.Perm M) (h1 : L.Pairwise fun x y => 0 ≤ cmpD y x) (h2 : M.Pairwise fun x y => 0 ≤ cmpD y x) : L.map (·.h) = M.map (·.h) := by
  have key : L.map (fun c => (c.d, c.h)) = M.map (fun c => (c.d, c.h)) := by
    refine List.Perm.eq_of_pairwise (le := fun p q : Int × HsT => ∃ x y : Kn, (x.d, x.h) = p ∧ (y.d, y.h) = q ∧ 0 ≤ cmpD y x) ?_ ?_ ?_ (hp.map _)
    · rintro a b _ _ ⟨x, y, rfl, rfl, h3⟩ ⟨x', y', e1, e2, h4⟩
      simp only [Prod.mk.injEq] at e1 e2
      rw [cmpD_key e2.1 e2.2 e1.1 e1.2] at h4
      obtain ⟨a1, a2⟩ := cmpD_eq h3 h4
      rw [a1, a2]
    · exact List.pairwise_map.2 (h1.imp fun h => ⟨_, _, rfl, rfl, h⟩)
    · exact List.pairwise_map.2 (h2.imp fun h => ⟨_, _, rfl, rfl, h⟩)
  have := congrArg (List.map (·.2)) key
  simpa [List.map_map, Function.comp_def] using this
theorem stepF_nodup (asked : List HsT) : ∀ (l acc : List Kn), (acc.map (·.h)).Nodup → ((l.foldl (stepF asked) acc).map (·.h)).Nodup
  | [], acc, h => h
  | c :: l, acc, h => by
    refine stepF_nodup asked l _ ?_
    unfold stepF
    split
    · rename_i hc
      rw [List.map_append, List.nodup_append]
      refine ⟨h, by simp, fun a ha b hb => ?_⟩
      simp at hb
      subst hb
      exact fun e => hc.2 (e ▸ ha)
    · exact h
theorem nodup_inj : ∀ {F : List Kn}, (F.map (·.h)).Nodup → ∀ {x y : Kn}, x ∈ F → y ∈ F → x.h = y.h → x = y
  | [], _, _, _, hx, _, _ => by cases hx
  | c :: F, hn, x, y, hx, hy, e => by
    have hn' := hn
    rw [List.map_cons, List.nodup_cons] at hn'
    rcases List.mem_cons.1 hx with hx | hx <;> rcases List.mem_cons.1 hy with hy | hy
    · rw [hx, hy]
    · exact absurd (List.mem_map.2 ⟨y, hy, by rw [← e, hx]⟩) hn'.1
    · exact absurd (List.mem_map.2 ⟨x, hx, by rw [e, hy]⟩) hn'.1
    · exact nodup_inj hn'.2 hx hy e
/-- Two orders of epochs with different names are one. -/
theorem give_same {F L M : List Kn} (hn : (F.map (·.h)).Nodup) (h1 : L.Perm F) (h2 : M.Perm F) (h3 : L.Pairwise fun x y => 0 ≤ cmpK y x) (h4 : M.Pairwise fun x y => 0 ≤ cmpK y x) : L = M :=
  List.Perm.eq_of_pairwise (le := fun x y => 0 ≤ cmpK y x) (fun a b ha hb h5 h6 => nodup_inj hn (h1.subset ha) (h2.subset hb) (cmpK_eq h5 h6)) h3 h4 (h1.trans h2.symm)
theorem stepT_nodup : ∀ (l acc : List HsT), acc.Nodup → (l.foldl stepT acc).Nodup
  | [], acc, h => h
  | c :: l, acc, h => by
    refine stepT_nodup l _ ?_
    unfold stepT
    split
    · rename_i hc
      rw [List.nodup_append]
      exact ⟨h, by simp, fun a ha b hb => by simp at hb; subst hb; exact fun e => hc.2 (e ▸ ha)⟩
    · exact h
theorem stepT_full : ∀ (l acc : List HsT), 256 ≤ acc.length → l.foldl stepT acc = acc
  | [], acc, h => rfl
  | c :: l, acc, h => by
    rw [List.foldl_cons, show stepT acc c = acc from if_neg (fun e => by omega)]
    exact stepT_full l acc h
/-- Names that are the same are as many. -/
theorem same_len {R A : List HsT} (hr : Rises R) (ha : A.Nodup) (h : ∀ x, x ∈ R ↔ x ∈ A) : R.length = A.length := by
  have h1 : R.length ≤ A.length := nodup_len hr.nodup fun x hx => (h x).1 hx
  have h2 : A.length ≤ R.length := nodup_len ha fun x hx => (h x).2 hx
  omega
/-- The names of the epochs that have a text, up to one. -/
def tellT (L : List Kn) (i : Nat) : List HsT := (((L.take i).filter neK).map (·.h)).foldl stepT []
theorem tellT_skip {L : List Kn} {i : Nat} {c : Kn} (hc : L[i]? = some c) (h : neK c = false) : tellT L (i + 1) = tellT L i := by
  unfold tellT
  rw [List.take_add_one, hc]
  simp [h]
theorem tellT_step {L : List Kn} {i : Nat} {c : Kn} (hc : L[i]? = some c) (h : neK c = true) : tellT L (i + 1) = stepT (tellT L i) c.h := by
  unfold tellT
  rw [List.take_add_one, hc]
  simp [h]
theorem tellT_full {L : List Kn} {i : Nat} (hi : i ≤ L.length) (h : 256 ≤ (tellT L i).length) : tellT L L.length = tellT L i := by
  unfold tellT at *
  rw [List.take_length]
  conv => lhs; rw [← List.take_append_drop i L]
  rw [List.filter_append, List.map_append, List.foldl_append]
  exact stepT_full _ _ h
theorem tellT_nodup (L : List Kn) (i : Nat) : (tellT L i).Nodup := stepT_nodup _ _ List.nodup_nil
theorem tellT_all (L : List Kn) : tellT L L.length = ((L.filter neK).map (·.h)).foldl stepT [] := by unfold tellT; rw [List.take_length]
theorem stepG_full : ∀ (l : List Kn) (acc : List (List UInt8)), 64 ≤ acc.length → l.foldl stepG acc = acc
  | [], acc, h => rfl
  | c :: l, acc, h => by
    rw [List.foldl_cons, show stepG acc c = acc from if_neg (fun e => by omega)]
    exact stepG_full l acc h
theorem stepG_end {L : List Kn} {i : Nat} (hi : i ≤ L.length) (h : 64 ≤ ((L.take i).foldl stepG []).length) : L.foldl stepG [] = (L.take i).foldl stepG [] := by
  conv => lhs; rw [← List.take_append_drop i L]
  rw [List.foldl_append]
  exact stepG_full _ _ h
theorem tell_mem' : ∀ {l acc : List HsT} {x : HsT}, x ∈ l.foldl stepT acc → x ∈ acc ∨ x ∈ l
  | [], acc, x, h => .inl h
  | c :: l, acc, x, h => by
    rcases tell_mem' (l := l) (acc := stepT acc c) h with h | h
    · unfold stepT at h
      split at h
      · rcases List.mem_append.1 h with h | h
        · exact .inl h
        · exact .inr (by rw [List.mem_singleton.1 h]; exact List.mem_cons_self)
      · exact .inl h
    · exact .inr (List.mem_cons_of_mem _ h)
theorem tell_mem {l : List HsT} {x : HsT} (h : x ∈ l.foldl stepT []) : x ∈ l := (tell_mem' h).resolve_left (by simp)
/-- What is told of, by both. -/
theorem tell_same {all L M : List Kn} {R R' : List HsT} (hp : L.Perm (all.filter fun c => !c.s.isEmpty)) (h1 : L.Pairwise fun x y => 0 ≤ cmpD y x) (hm : ∀ x, x ∈ R ↔ x ∈ (L.map (·.h)).foldl stepT []) (hr : Rises R) (h32 : ∀ x ∈ R, x.length = 32)
    (hq : M.Perm all) (h2 : M.Pairwise fun x y => 0 ≤ cmpD y x) (hm' : ∀ x, x ∈ R' ↔ x ∈ tellT M M.length) (hr' : Rises R') (h32' : ∀ x ∈ R', x.length = 32) : R = R' := by
  refine rises_ext hr hr' h32 h32' fun x => ?_
  rw [hm, hm', tellT_all]
  have e : L.map (·.h) = (M.filter neK).map (·.h) := tell_keys (hp.trans (hq.symm.filter _)) h1 (h2.sublist List.filter_sublist)
  rw [e]
theorem give_two {all L M : List Kn} {asked : List HsT} (h1 : L.Perm (all.foldl (stepF asked) [])) (h3 : L.Pairwise fun x y => 0 ≤ cmpK y x) (h2 : M.Perm (all.foldl (stepF asked) [])) (h4 : M.Pairwise fun x y => 0 ≤ cmpK y x) : L = M :=
  give_same (stepF_nodup asked all [] List.nodup_nil) h1 h2 h3 h4
end Go.Proofs.Ytlomofcnknpciaa
