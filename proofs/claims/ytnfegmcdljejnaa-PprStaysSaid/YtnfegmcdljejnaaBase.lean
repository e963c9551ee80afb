/-
  Facts on worlds that every walk of this family uses: a block known whole, what a store does to it, what is kept beside it.
  No program is imported here.
-/
import Derived.WalkKit
import Derived.WalkSpells
import Derived.Lib.Hide
set_option linter.unusedSimpArgs false
set_option linter.unusedVariables false
namespace Go.Proofs.Ytnfegmcdljejnaa
open Go.RowKit

/-- Block b holds the cells cs (none of them frozen). -/
def Blk (w : World) (b : Nat) (cs : Array Value) (t : TypeId) : Prop := w.heap[b]? = some (.cells cs t (0, 0))

theorem Blk.cell {w : World} {b : Nat} {cs : Array Value} {t : TypeId} (h : Blk w b cs t) (i : Nat) (v : Value) (hv : cs[i]? = some v) : w.cell? ⟨b, i, none⟩ = some v := by
  unfold Blk at h; simp [World.cell?, h, hv]
theorem Blk.free {w : World} {b : Nat} {cs : Array Value} {t : TypeId} (h : Blk w b cs t) (i : Nat) : w.frozen? ⟨b, i, none⟩ = false := by
  unfold Blk at h; simp [World.frozen?, h]
theorem Blk.lt {w : World} {b : Nat} {cs : Array Value} {t : TypeId} (h : Blk w b cs t) : b < w.heap.size := lt_of_block h
theorem Blk.new (w : World) (cs : Array Value) (t : TypeId) : Blk (w.alloc (.cells cs t)) w.heap.size cs t := heap_alloc_new w _
theorem Blk.alloc {w : World} {b : Nat} {cs : Array Value} {t : TypeId} (h : Blk w b cs t) (o : Obj) : Blk (w.alloc o) b cs t := by
  unfold Blk; rw [Below.heap_alloc _ _ _ h.lt]; exact h
theorem Blk.set {w : World} {b : Nat} {cs : Array Value} {t : TypeId} (h : Blk w b cs t) (i : Nat) (u : Value) : Blk (w.setCell ⟨b, i, none⟩ u) b (cs.setIfInBounds i u) t := by
  have hlt := h.lt
  unfold Blk at h ⊢
  have h' : w.heap[b] = .cells cs t (0, 0) := by simpa [Array.getElem?_eq_getElem hlt] using h
  show (w.heap.modify b _)[b]? = _
  rw [Array.getElem?_eq_getElem (by simpa using hlt), Array.getElem_modify_self, h']
  rfl
theorem Blk.setOther {w : World} {b : Nat} {cs : Array Value} {t : TypeId} (h : Blk w b cs t) (a : Addr) (u : Value) (ha : b ≠ a.block) : Blk (w.setCell a u) b cs t := by
  unfold Blk; rw [Below.heap_setCell _ _ _ _ ha]; exact h
theorem Blk.below {w w' : World} {B b : Nat} {cs : Array Value} {t : TypeId} (h : Blk w b cs t) (hb : Below B w w') (hB : b < B) : Blk w' b cs t := by
  unfold Blk; rw [hb.block b hB]; exact h
theorem Blk.grown {w w' : World} {row : Option Nat} {b : Nat} {cs : Array Value} {t : TypeId} (h : Blk w b cs t) (hg : w.grownBy w' row) (hr : some b ≠ row) : Blk w' b cs t := by
  unfold Blk; rw [hg.block b h.lt hr]; exact h
theorem Blk.drew {w : World} {b : Nat} {cs : Array Value} {t : TypeId} (h : Blk w b cs t) : Blk w.drew b cs t := h

/-- A row that is owned is not the block of a struct: their types differ. -/
theorem own_ne {w : World} {base : Nat} {e t : TypeId} {size n b : Nat} {v : Value} {xs : List Value} {cs : Array Value} (h : w.ownsRow base e size v n xs) (hb : Blk w b cs t) (ht : e ≠ t) : v.ownBlock ≠ some b := by
  intro hv
  rcases h.2 with ⟨rfl, _⟩ | ⟨g, cap, cur, rfl, _, hg, _⟩
  · simp [Value.ownBlock] at hv
  · simp [Value.ownBlock] at hv
    subst hv
    unfold Blk at hb
    rw [hb] at hg
    simp at hg
    exact ht hg.2.symm

theorem own_grown {w w' : World} {base : Nat} {e : TypeId} {size n : Nat} {v : Value} {xs : List Value} (h : w.ownsRow base e size v n xs) {row : Option Nat} (hg : w.grownBy w' row) (hr : ∀ g, row = some g → g < base) : w'.ownsRow base e size v n xs :=
  h.kept hg (by
    cases hv : v.ownBlock with
    | none => exact .inl rfl
    | some g => exact .inr (fun e => by have := hr g e.symm; have := (h.lt g hv).1; omega))

theorem own_slice {w : World} {base : Nat} {e : TypeId} {size n : Nat} {v : Value} {xs : List Value} (h : w.ownsRow base e size v n xs) : ∃ ao c, v = .slice ao n c := by
  rcases h.2 with ⟨rfl, rfl⟩ | ⟨g, cap, cur, rfl, _⟩
  · exact ⟨_, _, rfl⟩
  · exact ⟨_, _, rfl⟩

theorem grown_alloc_pre {w w' : World} {o : Obj} {row : Option Nat} (h : (w.alloc o).grownBy w' row) : w.grownBy w' row :=
  ⟨h.os, h.tape, h.output, by have := h.size; simp at this; omega, fun k hk hr => by rw [h.block k (by simp; omega) hr, Below.heap_alloc _ _ _ hk]⟩
theorem grown_trans {w w1 w2 : World} {row : Option Nat} (h : w.grownBy w1 row) (h2 : w1.grownBy w2 row) : w.grownBy w2 row :=
  ⟨h2.os.trans h.os, h2.tape.trans h.tape, h2.output.trans h.output, Nat.le_trans h.size h2.size, fun k hk hr => by rw [h2.block k (Nat.lt_of_lt_of_le hk h.size) hr, h.block k hk hr]⟩
theorem grown_set {w w1 : World} {b : Nat} (h : w.grownBy w1 (some b)) (i : Nat) (u : Value) : w.grownBy (w1.setCell ⟨b, i, none⟩ u) (some b) :=
  ⟨h.os, h.tape, h.output, by simpa using h.size, fun k hk hr => by
    have : k ≠ b := fun e => hr (by rw [e])
    rw [Below.heap_setCell _ _ _ _ this]; exact h.block k hk hr⟩
theorem grown_alloc {w w1 : World} {row : Option Nat} (h : w.grownBy w1 row) (o : Obj) : w.grownBy (w1.alloc o) row :=
  ⟨h.os, h.tape, h.output, by simp; have := h.size; omega, fun k hk hr => by rw [Below.heap_alloc _ _ _ (Nat.lt_of_lt_of_le hk h.size)]; exact h.block k hk hr⟩
theorem grown_drew {w w1 : World} {row : Option Nat} (h : w.grownBy w1 row) : w.grownBy w1.drew row := ⟨h.os, h.tape, h.output, h.size, h.block⟩
theorem grown_any {w w1 : World} (h : w.grownBy w1 none) (row : Option Nat) : w.grownBy w1 row :=
  ⟨h.os, h.tape, h.output, h.size, fun k hk _ => h.block k hk (by simp)⟩
theorem grown_below {w w1 : World} {b B : Nat} (h : w.grownBy w1 (some b)) (hB : B ≤ b) (hw : B ≤ w.heap.size) : Below B w w1 :=
  ⟨h.os, h.tape, h.output, h.size, fun k hk => h.block k (by omega) (fun e => by cases e; omega)⟩
theorem below_grown {w w1 : World} (h : Below w.heap.size w w1) (row : Option Nat) : w.grownBy w1 row :=
  ⟨h.os, h.tape, h.output, h.size, fun k hk _ => h.block k hk⟩

/-- Every block of cells whose type is not in T is as it was. -/
def Typed (T : List TypeId) (w w' : World) : Prop := ∀ (k : Nat) (cs : Array Value) (t : TypeId) (fr : Nat × Nat), w.heap[k]? = some (Obj.cells cs t fr) → t ∉ T → w'.heap[k]? = w.heap[k]?
theorem Typed.refl (T : List TypeId) (w : World) : Typed T w w := fun _ _ _ _ _ _ => rfl
theorem Typed.trans {T : List TypeId} {a b c : World} (h : Typed T a b) (h2 : Typed T b c) : Typed T a c := fun k cs t fr hk ht => by
  have e := h k cs t fr hk ht
  rw [h2 k cs t fr (e.trans hk) ht, e]
theorem Typed.alloc {T : List TypeId} {a b : World} (h : Typed T a b) (o : Obj) : Typed T a (b.alloc o) := fun k cs t fr hk ht => by
  have e := h k cs t fr hk ht
  rw [Below.heap_alloc _ _ _ (lt_of_block (e.trans hk)), e]
theorem Typed.drew {T : List TypeId} {a b : World} (h : Typed T a b) : Typed T a b.drew := h
/-- A store into a block whose type is in T. -/
theorem Typed.set {T : List TypeId} {a b : World} (h : Typed T a b) {k : Nat} {cs : Array Value} {t : TypeId} (hk : Blk b k cs t) (ht : t ∈ T) (i : Nat) (u : Value) : Typed T a (b.setCell ⟨k, i, none⟩ u) := fun j cs' t' fr hj ht' => by
  have e := h j cs' t' fr hj ht'
  have hne : j ≠ k := fun e2 => by
    subst e2
    have e3 := e.trans hj
    rw [show b.heap[j]? = some (.cells cs t (0, 0)) from hk] at e3
    simp at e3
    exact ht' (e3.2.1 ▸ ht)
  rw [Below.heap_setCell _ _ _ _ hne, e]
/-- A row that is owned, whose element type is in T, was written. -/
theorem Typed.grown {T : List TypeId} {a b c : World} (h : Typed T a b) {base : Nat} {e : TypeId} {size n : Nat} {v : Value} {xs : List Value} (hown : b.ownsRow base e size v n xs) (ht : e ∈ T) (hg : b.grownBy c v.ownBlock) : Typed T a c := fun j cs' t' fr hj ht' => by
  have e1 := h j cs' t' fr hj ht'
  have hlt := lt_of_block (e1.trans hj)
  have hne : some j ≠ v.ownBlock := fun e2 => by
    rcases hown.2 with ⟨rfl, _⟩ | ⟨g, cap, cur, rfl, _, hgg, _⟩
    · simp [Value.ownBlock] at e2
    · simp [Value.ownBlock] at e2
      subst e2
      rw [e1, hj] at hgg
      simp at hgg
      exact ht' (hgg.2.1 ▸ ht)
  rw [hg.block j hlt hne, e1]
theorem Blk.typed {T : List TypeId} {w w' : World} {b : Nat} {cs : Array Value} {t : TypeId} (h : Blk w b cs t) (hT : Typed T w w') (ht : t ∉ T) : Blk w' b cs t := (hT b cs t _ h ht).trans h

theorem typed_below {T : List TypeId} {w w' : World} (h : Below w.heap.size w w') : Typed T w w' := fun k cs t fr hk _ => h.block k (lt_of_block hk)

/-- Below base nothing turned; no block of another type than those in T turned. -/
structure Keep (T : List TypeId) (base : Nat) (w w' : World) : Prop where
  below : Below base w w'
  typed : Typed T w w'
theorem Keep.refl (T : List TypeId) (B : Nat) (w : World) : Keep T B w w := ⟨Below.refl _ _, Typed.refl _ _⟩
theorem Keep.trans {T : List TypeId} {B : Nat} {a b c : World} (h : Keep T B a b) (h2 : Keep T B b c) : Keep T B a c := ⟨h.below.trans h2.below, h.typed.trans h2.typed⟩
theorem Keep.alloc {T : List TypeId} {B : Nat} {a b : World} (h : Keep T B a b) (hB : B ≤ b.heap.size) (o : Obj) : Keep T B a (b.alloc o) := ⟨h.below.alloc hB o, h.typed.alloc o⟩
theorem Keep.size {T : List TypeId} {B : Nat} {a b : World} (h : Keep T B a b) : a.heap.size ≤ b.heap.size := h.below.size

/-- What a byte is in memory. -/
def bv (c : UInt8) : Value := .int .u8 (c.toNat : Int)
theorem bv_one (l : List UInt8) : ∀ u ∈ l.map bv, u.oneCell' = true := by
  intro u hu; obtain ⟨_, _, rfl⟩ := List.mem_map.1 hu; rfl
end Go.Proofs.Ytnfegmcdljejnaa
