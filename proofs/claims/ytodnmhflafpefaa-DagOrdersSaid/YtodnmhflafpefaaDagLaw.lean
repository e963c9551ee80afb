/-
  dag, the plain laws: the floor, whether a vertex can be put in, the store behind an insertion.
-/
import Derived.Test.YtodnmhflafpefaaDagBase
set_option linter.unusedSimpArgs false
set_option linter.unusedVariables false
namespace Go.Proofs.Ytodnmhflafpefaa
open Go.RowKit

def maxd (L : List Vx) : Int := L.foldr (fun v m => max v.d m) 0
theorem maxd_nil : maxd [] = 0 := rfl
theorem maxd_cons (v : Vx) (L : List Vx) : maxd (v :: L) = max v.d (maxd L) := rfl
theorem maxd_nonneg (L : List Vx) : 0 ≤ maxd L := by
  induction L with
  | nil => exact Int.le_refl _
  | cons v L ih => rw [maxd_cons]; omega
theorem maxd_ge {L : List Vx} {v : Vx} (h : v ∈ L) : v.d ≤ maxd L := by
  induction L with
  | nil => cases h
  | cons u L ih =>
    rw [maxd_cons]
    rcases List.mem_cons.1 h with rfl | h
    · omega
    · have := ih h; omega
theorem maxd_le {L : List Vx} {m : Int} (h0 : 0 ≤ m) (h : ∀ v ∈ L, v.d ≤ m) : maxd L ≤ m := by
  induction L with
  | nil => exact h0
  | cons u L ih =>
    rw [maxd_cons]
    have := h u List.mem_cons_self
    have := ih (fun v hv => h v (List.mem_cons_of_mem _ hv))
    omega
theorem maxd_mem {L : List Vx} (h : L ≠ []) : ∃ v ∈ L, v.d = maxd L := by
  induction L with
  | nil => exact absurd rfl h
  | cons u L ih =>
    rw [maxd_cons]
    by_cases e : L = []
    · subst e
      have := u.hd
      exact ⟨u, List.mem_cons_self, by rw [maxd_nil]; omega⟩
    · obtain ⟨v, hv, he⟩ := ih e
      by_cases h1 : u.d ≤ maxd L
      · exact ⟨v, List.mem_cons_of_mem _ hv, by omega⟩
      · exact ⟨u, List.mem_cons_self, by omega⟩
theorem maxd_le_max {L : List Vx} : maxd L ≤ 4611686018427387903 := maxd_le (by omega) fun v _ => v.hd.2
theorem maxd_head {L : List Vx} {v : Vx} (hn : (L.map (·.id)).Nodup) (h : HeadIs L v) : v.d = maxd L := by
  have h1 := maxd_ge h.mem
  have h2 : maxd L ≤ v.d := maxd_le v.hd.1 fun u hu => by
    by_cases e : u.id = v.id
    · rw [vx_inj hn hu h.mem e]; exact Int.le_refl _
    · rcases h.all u hu e with h3 | h3
      · omega
      · omega
  omega
theorem maxd_ext {L L' : List Vx} (h : ∀ v, v ∈ L ↔ v ∈ L') : maxd L = maxd L' := by
  have h1 : maxd L ≤ maxd L' := maxd_le (maxd_nonneg _) fun v hv => maxd_ge ((h v).1 hv)
  have h2 : maxd L' ≤ maxd L := maxd_le (maxd_nonneg _) fun v hv => maxd_ge ((h v).2 hv)
  omega
/-- The floor. -/
def floorT (keep : Int) (L : List Vx) : Int := max (maxd L - keep) 0
/-- What Check answers. -/
def chkT (keep : Int) (L : List Vx) (v : Vx) : Int :=
  if v.par = v.id then 1 else if (L.any fun u => u.id == v.id) = true then 8 else if v.d < floorT keep L then 13
  else if (L.any fun u => u.id == v.par && u.d != v.d - 1) = true then 15 else if (L.any fun u => u.par == v.id && u.d - 1 != v.d) = true then 15 else 0
/-- The store behind an insertion; who is gone. -/
def insL (keep : Int) (L : List Vx) (v : Vx) : List Vx := (v :: L).filter fun u => !decide (u.d < floorT keep (v :: L))
def goneL (keep : Int) (L : List Vx) (v : Vx) : List Vx := (v :: L).filter fun u => decide (u.d < floorT keep (v :: L))
theorem chk_new {keep : Int} {L : List Vx} {v : Vx} (h : chkT keep L v = 0) : ∀ u ∈ L, u.id ≠ v.id := by
  unfold chkT at h
  split at h
  · omega
  split at h
  · omega
  · rename_i h2
    intro u hu e
    exact h2 (List.any_eq_true.2 ⟨u, hu, beq_iff_eq.2 e⟩)
theorem chk_floor {keep : Int} {L : List Vx} {v : Vx} (h : chkT keep L v = 0) : floorT keep L ≤ v.d := by
  unfold chkT at h
  split at h
  · omega
  split at h
  · omega
  split at h
  · omega
  · omega
theorem nodup_cons {L : List Vx} {v : Vx} (hn : (L.map (·.id)).Nodup) (h : ∀ u ∈ L, u.id ≠ v.id) : ((v :: L).map (·.id)).Nodup := by
  rw [List.map_cons, List.nodup_cons]
  refine ⟨fun hm => ?_, hn⟩
  obtain ⟨u, hu, e⟩ := List.mem_map.1 hm
  exact h u hu e
theorem nodup_filter {L : List Vx} (p : Vx → Bool) (hn : (L.map (·.id)).Nodup) : ((L.filter p).map (·.id)).Nodup :=
  hn.sublist (List.Sublist.map _ List.filter_sublist)
/-- What lies below the floor does not hold the maximum. -/
theorem maxd_filter {keep : Int} (hk : 1 ≤ keep) (L : List Vx) : maxd (L.filter fun u => !decide (u.d < floorT keep L)) = maxd L := by
  have h1 : maxd (L.filter fun u => !decide (u.d < floorT keep L)) ≤ maxd L := maxd_le (maxd_nonneg _) fun v hv => maxd_ge (List.mem_filter.1 hv).1
  by_cases e : L = []
  · subst e; rfl
  · obtain ⟨v, hv, he⟩ := maxd_mem e
    have : v ∈ L.filter fun u => !decide (u.d < floorT keep L) := List.mem_filter.2 ⟨hv, by
      have h0 := v.hd.1
      simp only [Bool.not_eq_true', decide_eq_false_iff_not]
      unfold floorT
      omega⟩
    have := maxd_ge this
    omega
theorem maxd_ins {keep : Int} (hk : 1 ≤ keep) (L : List Vx) (v : Vx) : maxd (insL keep L v) = max v.d (maxd L) := by
  unfold insL; rw [maxd_filter hk]; rfl
theorem floor_ins {keep : Int} (hk : 1 ≤ keep) (L : List Vx) (v : Vx) : floorT keep (insL keep L v) = floorT keep (v :: L) := by
  unfold floorT; rw [maxd_ins hk]; rfl
theorem ins_floor {keep : Int} (hk : 1 ≤ keep) (L : List Vx) (v : Vx) : ∀ u ∈ insL keep L v, floorT keep (insL keep L v) ≤ u.d := by
  intro u hu
  rw [floor_ins hk]
  have := (List.mem_filter.1 hu).2
  simp only [Bool.not_eq_true', decide_eq_false_iff_not] at this
  omega
theorem ins_ne {keep : Int} (hk : 1 ≤ keep) (L : List Vx) (v : Vx) : insL keep L v ≠ [] := by
  intro e
  have h1 := maxd_ins hk L v
  obtain ⟨u, hu, he⟩ := maxd_mem (L := v :: L) (by simp)
  have : u ∈ insL keep L v := List.mem_filter.2 ⟨hu, by
    have h0 := u.hd.1
    simp only [Bool.not_eq_true', decide_eq_false_iff_not]
    unfold floorT
    omega⟩
  rw [e] at this; cases this
/-- Behind insertions without a refusal: just those that were put in and do not lie below the floor. -/
structure Since (keep : Int) (done L : List Vx) : Prop where
  mem : ∀ u, u ∈ L ↔ u ∈ done ∧ floorT keep done ≤ u.d
  top : maxd L = maxd done
theorem Since.nil (keep : Int) : Since keep [] [] := ⟨fun u => by simp, rfl⟩
theorem Since.ins {keep : Int} (hk : 1 ≤ keep) {done L : List Vx} (h : Since keep done L) (v : Vx) : Since keep (done ++ [v]) (insL keep L v) := by
  have hm : maxd (done ++ [v]) = max v.d (maxd L) := by
    rw [h.top, ← maxd_cons]
    exact maxd_ext fun u => by simp [or_comm]
  have hf : floorT keep (done ++ [v]) = floorT keep (v :: L) := by unfold floorT; rw [hm]; rfl
  refine ⟨fun u => ?_, ?_⟩
  · unfold insL
    rw [List.mem_filter, hf]
    simp only [Bool.not_eq_true', decide_eq_false_iff_not, List.mem_cons, List.mem_append, List.mem_singleton]
    have hge : floorT keep done ≤ floorT keep (v :: L) := by unfold floorT; rw [maxd_cons, h.top]; omega
    rw [h.mem]
    constructor
    · rintro ⟨h1 | h1, h2⟩
      · exact ⟨.inr (by simpa using h1), by omega⟩
      · exact ⟨.inl h1.1, by omega⟩
    · rintro ⟨h1 | h1, h2⟩
      · exact ⟨.inr ⟨h1, by omega⟩, by omega⟩
      · exact ⟨.inl (by simpa using h1), by omega⟩
  · rw [maxd_ins hk, hm]
theorem Since.same {keep : Int} {d1 d2 L1 L2 : List Vx} (h1 : Since keep d1 L1) (h2 : Since keep d2 L2) (h : ∀ u, u ∈ d1 ↔ u ∈ d2) : ∀ u, u ∈ L1 ↔ u ∈ L2 := by
  intro u
  have e : floorT keep d1 = floorT keep d2 := by unfold floorT; rw [maxd_ext h]
  rw [h1.mem, h2.mem, e, h]
theorem nodup_of_ids {L : List Vx} (h : (L.map (·.id)).Nodup) : L.Nodup := by
  rw [List.Nodup, List.pairwise_map] at h
  exact h.imp fun {a b} hab e => hab (by rw [e])
theorem same_len {L1 L2 : List Vx} (n1 : (L1.map (·.id)).Nodup) (n2 : (L2.map (·.id)).Nodup) (h : ∀ u, u ∈ L1 ↔ u ∈ L2) : L1.length = L2.length :=
  ((List.perm_ext_iff_of_nodup (nodup_of_ids n1) (nodup_of_ids n2)).2 h).length_eq
theorem HeadIs.ext {L1 L2 : List Vx} {u v : Vx} (n1 : (L1.map (·.id)).Nodup) (h : ∀ u, u ∈ L1 ↔ u ∈ L2) (h1 : HeadIs L1 u) (h2 : HeadIs L2 v) : u = v :=
  h1.uniq n1 ⟨(h v).2 h2.mem, fun x hx hne => h2.all x ((h x).1 hx) hne⟩
end Go.Proofs.Ytodnmhflafpefaa
