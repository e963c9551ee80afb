/-
  dag: vertices, a store as a list of vertices with different names.
-/
import Derived.Test.YtodnmhflafpefaaBookMaps
import Derived.Test.YtodnmhflafpefaaBookHash
import Derived.Test.YtodnmhflafpefaaHashAt
import Derived.Test.YtodnmhflafpefaaShaCmp
import Derived.Test.YtodnmhflafpefaaF0
import Derived.Test.YtodnmhflafpefaaRd
set_option linter.unusedSimpArgs false
set_option linter.unusedVariables false
namespace Go.Proofs.Ytodnmhflafpefaa
open Go.RowKit

/-- A vertex. -/
structure Vx where
  id : List UInt8
  par : List UInt8
  d : Int
  x : Int
  hi : id.length = 32
  hp : par.length = 32
  hd : 0 ≤ d ∧ d ≤ 4611686018427387903
def Vx.cells (v : Vx) : List Value := v.id.map bv ++ (v.par.map bv ++ [.int .i64 v.d, .int .i64 v.x])
theorem Vx.cells_len (v : Vx) : v.cells.length = 66 := by simp [Vx.cells, v.hi, v.hp]
theorem Vx.one (v : Vx) : ∀ u ∈ v.cells, u.oneCell' = true := by
  intro u hu
  rcases List.mem_append.1 hu with h | h
  · exact bs_one v.id u h
  · rcases List.mem_append.1 h with h | h
    · exact bs_one v.par u h
    · simp at h
      rcases h with rfl | rfl <;> rfl
theorem vx_all (v : Vx) : v.cells.toArray.all (·.oneCell') = true := by
  rw [Array.all_eq_true']
  intro u hu
  exact v.one u (by simpa using hu)
section
variable {w : World} {g o : Nat} {c : Vx}
theorem vx_id (h : w.rangeAt g o c.cells) : w.rangeAt g o (c.id.map bv) := fun j u hj => by
  have hlt : j < c.id.length := by have := (List.getElem?_eq_some_iff.1 hj).1; simpa using this
  exact h j u (by rw [Vx.cells, List.getElem?_append_left (by simpa using hlt)]; exact hj)
theorem vx_par (h : w.rangeAt g o c.cells) : w.rangeAt g (o + 32) (c.par.map bv) := fun j u hj => by
  have hlt : j < c.par.length := by have := (List.getElem?_eq_some_iff.1 hj).1; simpa using this
  have := h (32 + j) u (by
    rw [Vx.cells, List.getElem?_append_right (by simp [c.hi]), List.length_map, c.hi, Nat.add_sub_cancel_left, List.getElem?_append_left (by simpa using hlt)]
    exact hj)
  rwa [← Nat.add_assoc] at this
theorem vx_d (h : w.rangeAt g o c.cells) : w.cell? ⟨g, o + 64, none⟩ = some (.int .i64 c.d) := h 64 _ (by
  rw [Vx.cells, List.getElem?_append_right (by simp [c.hi]), List.length_map, c.hi, List.getElem?_append_right (by simp [c.hp]), List.length_map, c.hp]; rfl)
theorem vx_x (h : w.rangeAt g o c.cells) : w.cell? ⟨g, o + 65, none⟩ = some (.int .i64 c.x) := h 65 _ (by
  rw [Vx.cells, List.getElem?_append_right (by simp [c.hi]), List.length_map, c.hi, List.getElem?_append_right (by simp [c.hp]), List.length_map, c.hp]; rfl)
end
/-- What the map has at a name. -/
def lookV (L : List Vx) (h : List UInt8) : Option Value := (L.find? (fun v => v.id == h)).map fun v => .agg v.cells.toArray
theorem lookV_some {L : List Vx} {h : List UInt8} {u : Value} (e : lookV L h = some u) : ∃ v ∈ L, v.id = h ∧ u = .agg v.cells.toArray := by
  unfold lookV at e
  cases hf : L.find? (fun v => v.id == h) with
  | none => rw [hf] at e; cases e
  | some v =>
    rw [hf] at e
    refine ⟨v, List.mem_of_find?_eq_some hf, ?_, (Option.some.inj e).symm⟩
    have := List.find?_some hf
    simpa using this
theorem lookV_mem {L : List Vx} (hn : (L.map (·.id)).Nodup) {v : Vx} (hv : v ∈ L) : lookV L v.id = some (.agg v.cells.toArray) := by
  unfold lookV
  have : L.find? (fun u => u.id == v.id) = some v := by
    induction L with
    | nil => cases hv
    | cons u L ih =>
      rw [List.map_cons, List.nodup_cons] at hn
      by_cases e : u.id = v.id
      · rw [List.find?_cons_of_pos (by simpa using e)]
        rcases List.mem_cons.1 hv with h | h
        · rw [h]
        · exact absurd (List.mem_map.2 ⟨v, h, e.symm⟩) hn.1
      · rw [List.find?_cons_of_neg (by simpa using e)]
        rcases List.mem_cons.1 hv with h | h
        · exact absurd (by rw [h]) e
        · exact ih hn.2 h
  rw [this]; rfl
theorem lookV_none {L : List Vx} {h : List UInt8} : lookV L h = none ↔ ∀ v ∈ L, v.id ≠ h := by
  unfold lookV
  rw [Option.map_eq_none_iff, List.find?_eq_none]
  constructor
  · intro h1 v hv e; exact h1 v hv (by simpa using e)
  · intro h1 v hv e; exact h1 v hv (by simpa using e)
theorem vx_inj {L : List Vx} (hn : (L.map (·.id)).Nodup) {u v : Vx} (hu : u ∈ L) (hv : v ∈ L) (e : u.id = v.id) : u = v := by
  induction L with
  | nil => cases hu
  | cons t L ih =>
    have hn' := hn
    rw [List.map_cons, List.nodup_cons] at hn'
    rcases List.mem_cons.1 hu with h1 | h1 <;> rcases List.mem_cons.1 hv with h2 | h2
    · rw [h1, h2]
    · exact absurd (List.mem_map.2 ⟨v, h2, by rw [← e, h1]⟩) hn'.1
    · exact absurd (List.mem_map.2 ⟨u, h1, by rw [e, h2]⟩) hn'.1
    · exact ih hn'.2 h1 h2
/-- Stands a vertex ahead of another one as the head? -/
def Ahead (a b : Vx) : Prop := b.d < a.d ∨ a.d = b.d ∧ cmpT a.id b.id < 0
instance (a b : Vx) : Decidable (Ahead a b) := by unfold Ahead; infer_instance
/-- The head: ahead of all others. -/
structure HeadIs (L : List Vx) (v : Vx) : Prop where
  mem : v ∈ L
  all : ∀ u ∈ L, u.id ≠ v.id → Ahead v u
theorem HeadIs.uniq {L : List Vx} (hn : (L.map (·.id)).Nodup) {u v : Vx} (h1 : HeadIs L u) (h2 : HeadIs L v) : u = v := by
  by_cases e : u.id = v.id
  · exact vx_inj hn h1.mem h2.mem e
  · have a1 := h1.all v h2.mem (fun e2 => e e2.symm)
    have a2 := h2.all u h1.mem e
    have s := cmpT_swap u.id v.id
    rcases a1 with a1 | a1 <;> rcases a2 with a2 | a2
    · omega
    · omega
    · omega
    · have := a1.2; have := a2.2; omega
theorem Ahead.trans {a b c : Vx} (h1 : Ahead a b) (h2 : Ahead b c) : Ahead a c := by
  rcases h1 with h1 | ⟨h1, h3⟩ <;> rcases h2 with h2 | ⟨h2, h4⟩
  · exact .inl (by omega)
  · exact .inl (by omega)
  · exact .inl (by omega)
  · exact .inr ⟨by omega, cmpT_trans _ _ _ (by rw [a.hi, b.hi]) (by rw [b.hi, c.hi]) h3 h4⟩
end Go.Proofs.Ytodnmhflafpefaa
