/-
  Facts on worlds that every walk of this family uses: a block known whole, what a store does to it, what is kept beside it.
  No program is imported here.
  Strings as lists of bytes: 'str l'. The walk keeps every string in this form.
  A load of a long array inside a region that only reads. No program here.
  A region that reads, calls quietly, and ends with one operation that writes: walked once, in the order of the text. No program here.
  Laws for the walk over blocks known whole: copy from a string, a whole array loaded, stored, handed back. No program here.
  Arrays of bytes that are filled from the front; slices of strings. No program here.
  A row of bytes in the midst of a block of bytes: loaded, stored. No program here.
  Makers of memory in a region that draws its order: the new block and the new world get names. No program here.
  A slice of bytes of the call's own, made by a conversion or grown by append: one more byte is put behind. No program here.
  '==' of two arrays of bytes. No program here.
  The plain mathematics of the wire: the bytes of a number, and what the program's arithmetic makes of them. No program here.
  SHA-256 in plain Lean: words of 32 bits, blocks, digests. No program here. What is read of the arguments: bytes, digests, texts.
  Slices of arguments, element by element, whatever the elements are; slices of numbers, of digests.
  '==' of two digests. Small laws for walks that box and store. A store of one cell into a block known whole. Facts on the program's table of types that several texts use. A row of one's own, written in place: one element set, the tail cleared. Elements of any size, told by their cells. Rows of whatever elements: read, and of one's own. A variable that takes a value of many cells. A slice literal of one element. A slice literal of several elements.
-/
import Derived.WalkKit
import Derived.WalkSpells
import Derived.Lib.Hide
import Derived.Lib.Strings
import Derived.BigQuiet
import Derived.Deep.MidRow
import Derived.StillTail
import Derived.Lib.BufferWrite
import Derived.Lib.SlBuf
import Derived.Great.FillDense
import Derived.Laws.Tables
import Derived.OrdersHeld
import Derived.Great.BuildSlice
import Derived.ArgAppend
import Derived.Lib.ConvBytes
import Derived.ChangeKeysEq
import Derived.Laws.StructEq
import Derived.Laws.BitsAllLaws
import Derived.Test.YtjlpdbaknhbgdaaGreatChecked
import Derived.ProofKit
import Derived.OpenShut
import Derived.Deep.Slices
import Derived.KernelRfl
import Derived.Laws.AppendOwn
import Derived.Laws.CopyRow
import Derived.Laws.AppendOwnNone
set_option linter.unusedSimpArgs false
set_option linter.unusedVariables false
namespace Go.Proofs.YtjlpdbaknhbgdaaGreat
open Go.RowKit

/-- Block b holds the cells cs (none of them frozen). -/
def Blk (w : World) (b : Nat) (cs : Array Value) (t : TypeId) : Prop := w.heap[b]? = some (.cells cs t (0, 0))

theorem Blk.cell {w : World} {b : Nat} {cs : Array Value} {t : TypeId} (h : Blk w b cs t) (i : Nat) (v : Value) (hv : cs[i]? = some v) : w.cell? ⟨b, i, none⟩ = some v := by
  unfold Blk at h; simp [World.cell?, h, hv]
theorem Blk.free {w : World} {b : Nat} {cs : Array Value} {t : TypeId} (h : Blk w b cs t) (i : Nat) : w.frozen? ⟨b, i, none⟩ = false := by
  unfold Blk at h; simp [World.frozen?, h]
theorem Blk.lt {w : World} {b : Nat} {cs : Array Value} {t : TypeId} (h : Blk w b cs t) : b < w.heap.size := lt_of_block h
theorem Blk.new (w : World) (cs : Array Value) (t : TypeId) : Blk (w.alloc (.cells cs t)) w.heap.size cs t := heap_alloc_new w _
theorem Blk.alloc {w : World} {b : Nat} {cs : Array Value} {t : TypeId} (h : Blk w b cs t) (o : Obj) : Blk (w.alloc o) b cs t := by
  unfold Blk; rw [Below.heap_alloc _ _ _ h.lt]; exact h
theorem Blk.set {w : World} {b : Nat} {cs : Array Value} {t : TypeId} (h : Blk w b cs t) (i : Nat) (u : Value) : Blk (w.setCell ⟨b, i, none⟩ u) b (cs.setIfInBounds i u) t := by
  have hlt := h.lt
  unfold Blk at h ⊢
  have h' : w.heap[b] = .cells cs t (0, 0) := by simpa [Array.getElem?_eq_getElem hlt] using h
  show (w.heap.modify b _)[b]? = _
  rw [Array.getElem?_eq_getElem (by simpa using hlt), Array.getElem_modify_self, h']
  rfl
theorem Blk.setOther {w : World} {b : Nat} {cs : Array Value} {t : TypeId} (h : Blk w b cs t) (a : Addr) (u : Value) (ha : b ≠ a.block) : Blk (w.setCell a u) b cs t := by
  unfold Blk; rw [Below.heap_setCell _ _ _ _ ha]; exact h
theorem Blk.below {w w' : World} {B b : Nat} {cs : Array Value} {t : TypeId} (h : Blk w b cs t) (hb : Below B w w') (hB : b < B) : Blk w' b cs t := by
  unfold Blk; rw [hb.block b hB]; exact h
theorem Blk.grown {w w' : World} {row : Option Nat} {b : Nat} {cs : Array Value} {t : TypeId} (h : Blk w b cs t) (hg : w.grownBy w' row) (hr : some b ≠ row) : Blk w' b cs t := by
  unfold Blk; rw [hg.block b h.lt hr]; exact h
theorem Blk.drew {w : World} {b : Nat} {cs : Array Value} {t : TypeId} (h : Blk w b cs t) : Blk w.drew b cs t := h

/-- A row that is owned is not the block of a struct: their types differ. -/
theorem own_ne {w : World} {base : Nat} {e t : TypeId} {size n b : Nat} {v : Value} {xs : List Value} {cs : Array Value} (h : w.ownsRow base e size v n xs) (hb : Blk w b cs t) (ht : e ≠ t) : v.ownBlock ≠ some b := by
  intro hv
  rcases h.2 with ⟨rfl, _⟩ | ⟨g, cap, cur, rfl, _, hg, _⟩
  · simp [Value.ownBlock] at hv
  · simp [Value.ownBlock] at hv
    subst hv
    unfold Blk at hb
    rw [hb] at hg
    simp at hg
    exact ht hg.2.symm

theorem own_grown {w w' : World} {base : Nat} {e : TypeId} {size n : Nat} {v : Value} {xs : List Value} (h : w.ownsRow base e size v n xs) {row : Option Nat} (hg : w.grownBy w' row) (hr : ∀ g, row = some g → g < base) : w'.ownsRow base e size v n xs :=
  h.kept hg (by
    cases hv : v.ownBlock with
    | none => exact .inl rfl
    | some g => exact .inr (fun e => by have := hr g e.symm; have := (h.lt g hv).1; omega))

theorem own_slice {w : World} {base : Nat} {e : TypeId} {size n : Nat} {v : Value} {xs : List Value} (h : w.ownsRow base e size v n xs) : ∃ ao c, v = .slice ao n c := by
  rcases h.2 with ⟨rfl, rfl⟩ | ⟨g, cap, cur, rfl, _⟩
  · exact ⟨_, _, rfl⟩
  · exact ⟨_, _, rfl⟩

theorem grown_alloc_pre {w w' : World} {o : Obj} {row : Option Nat} (h : (w.alloc o).grownBy w' row) : w.grownBy w' row :=
  ⟨h.os, h.tape, h.output, by have := h.size; simp at this; omega, fun k hk hr => by rw [h.block k (by simp; omega) hr, Below.heap_alloc _ _ _ hk]⟩
theorem grown_trans {w w1 w2 : World} {row : Option Nat} (h : w.grownBy w1 row) (h2 : w1.grownBy w2 row) : w.grownBy w2 row :=
  ⟨h2.os.trans h.os, h2.tape.trans h.tape, h2.output.trans h.output, Nat.le_trans h.size h2.size, fun k hk hr => by rw [h2.block k (Nat.lt_of_lt_of_le hk h.size) hr, h.block k hk hr]⟩
theorem grown_set {w w1 : World} {b : Nat} (h : w.grownBy w1 (some b)) (i : Nat) (u : Value) : w.grownBy (w1.setCell ⟨b, i, none⟩ u) (some b) :=
  ⟨h.os, h.tape, h.output, by simpa using h.size, fun k hk hr => by
    have : k ≠ b := fun e => hr (by rw [e])
    rw [Below.heap_setCell _ _ _ _ this]; exact h.block k hk hr⟩
theorem grown_alloc {w w1 : World} {row : Option Nat} (h : w.grownBy w1 row) (o : Obj) : w.grownBy (w1.alloc o) row :=
  ⟨h.os, h.tape, h.output, by simp; have := h.size; omega, fun k hk hr => by rw [Below.heap_alloc _ _ _ (Nat.lt_of_lt_of_le hk h.size)]; exact h.block k hk hr⟩
theorem grown_drew {w w1 : World} {row : Option Nat} (h : w.grownBy w1 row) : w.grownBy w1.drew row := ⟨h.os, h.tape, h.output, h.size, h.block⟩
theorem grown_any {w w1 : World} (h : w.grownBy w1 none) (row : Option Nat) : w.grownBy w1 row :=
  ⟨h.os, h.tape, h.output, h.size, fun k hk _ => h.block k hk (by simp)⟩
theorem grown_below {w w1 : World} {b B : Nat} (h : w.grownBy w1 (some b)) (hB : B ≤ b) (hw : B ≤ w.heap.size) : Below B w w1 :=
  ⟨h.os, h.tape, h.output, h.size, fun k hk => h.block k (by omega) (fun e => by cases e; omega)⟩
theorem below_grown {w w1 : World} (h : Below w.heap.size w w1) (row : Option Nat) : w.grownBy w1 row :=
  ⟨h.os, h.tape, h.output, h.size, fun k hk _ => h.block k hk⟩

/-- Every block of cells whose type is not in T is as it was. -/
def Typed (T : List TypeId) (w w' : World) : Prop := ∀ (k : Nat) (cs : Array Value) (t : TypeId) (fr : Nat × Nat), w.heap[k]? = some (Obj.cells cs t fr) → t ∉ T → w'.heap[k]? = w.heap[k]?
theorem Typed.refl (T : List TypeId) (w : World) : Typed T w w := fun _ _ _ _ _ _ => rfl
theorem Typed.trans {T : List TypeId} {a b c : World} (h : Typed T a b) (h2 : Typed T b c) : Typed T a c := fun k cs t fr hk ht => by
  have e := h k cs t fr hk ht
  rw [h2 k cs t fr (e.trans hk) ht, e]
theorem Typed.alloc {T : List TypeId} {a b : World} (h : Typed T a b) (o : Obj) : Typed T a (b.alloc o) := fun k cs t fr hk ht => by
  have e := h k cs t fr hk ht
  rw [Below.heap_alloc _ _ _ (lt_of_block (e.trans hk)), e]
theorem Typed.drew {T : List TypeId} {a b : World} (h : Typed T a b) : Typed T a b.drew := h
/-- A store into a block whose type is in T. -/
theorem Typed.set {T : List TypeId} {a b : World} (h : Typed T a b) {k : Nat} {cs : Array Value} {t : TypeId} (hk : Blk b k cs t) (ht : t ∈ T) (i : Nat) (u : Value) : Typed T a (b.setCell ⟨k, i, none⟩ u) := fun j cs' t' fr hj ht' => by
  have e := h j cs' t' fr hj ht'
  have hne : j ≠ k := fun e2 => by
    subst e2
    have e3 := e.trans hj
    rw [show b.heap[j]? = some (.cells cs t (0, 0)) from hk] at e3
    simp at e3
    exact ht' (e3.2.1 ▸ ht)
  rw [Below.heap_setCell _ _ _ _ hne, e]
/-- A row that is owned, whose element type is in T, was written. -/
theorem Typed.grown {T : List TypeId} {a b c : World} (h : Typed T a b) {base : Nat} {e : TypeId} {size n : Nat} {v : Value} {xs : List Value} (hown : b.ownsRow base e size v n xs) (ht : e ∈ T) (hg : b.grownBy c v.ownBlock) : Typed T a c := fun j cs' t' fr hj ht' => by
  have e1 := h j cs' t' fr hj ht'
  have hlt := lt_of_block (e1.trans hj)
  have hne : some j ≠ v.ownBlock := fun e2 => by
    rcases hown.2 with ⟨rfl, _⟩ | ⟨g, cap, cur, rfl, _, hgg, _⟩
    · simp [Value.ownBlock] at e2
    · simp [Value.ownBlock] at e2
      subst e2
      rw [e1, hj] at hgg
      simp at hgg
      exact ht' (hgg.2.1 ▸ ht)
  rw [hg.block j hlt hne, e1]
theorem Blk.typed {T : List TypeId} {w w' : World} {b : Nat} {cs : Array Value} {t : TypeId} (h : Blk w b cs t) (hT : Typed T w w') (ht : t ∉ T) : Blk w' b cs t := (hT b cs t _ h ht).trans h

/-- Below base nothing turned; no block of another type than those in T turned. -/
structure Keep (T : List TypeId) (base : Nat) (w w' : World) : Prop where
  below : Below base w w'
  typed : Typed T w w'
theorem Keep.refl (T : List TypeId) (B : Nat) (w : World) : Keep T B w w := ⟨Below.refl _ _, Typed.refl _ _⟩
theorem Keep.trans {T : List TypeId} {B : Nat} {a b c : World} (h : Keep T B a b) (h2 : Keep T B b c) : Keep T B a c := ⟨h.below.trans h2.below, h.typed.trans h2.typed⟩
theorem Keep.alloc {T : List TypeId} {B : Nat} {a b : World} (h : Keep T B a b) (hB : B ≤ b.heap.size) (o : Obj) : Keep T B a (b.alloc o) := ⟨h.below.alloc hB o, h.typed.alloc o⟩
theorem Keep.size {T : List TypeId} {B : Nat} {a b : World} (h : Keep T B a b) : a.heap.size ≤ b.heap.size := h.below.size

/-- What a byte is in memory. -/
def bv (c : UInt8) : Value := .int .u8 (c.toNat : Int)
theorem bv_one (l : List UInt8) : ∀ u ∈ l.map bv, u.oneCell' = true := by
  intro u hu; obtain ⟨_, _, rfl⟩ := List.mem_map.1 hu; rfl
end Go.Proofs.YtjlpdbaknhbgdaaGreat
set_option linter.unusedSimpArgs false
set_option linter.unusedVariables false
namespace Go.Proofs.YtjlpdbaknhbgdaaGreat
open Go.RowKit

def str (l : List UInt8) : ByteArray := ⟨l.toArray⟩
theorem str_data (l : List UInt8) : (str l).data.toList = l := rfl
theorem str_eta (s : ByteArray) : s = str s.data.toList := by cases s; simp [str]
@[go_sem] theorem str_size (l : List UInt8) : (str l).size = l.length := by simp [str, ByteArray.size]
@[go_sem] theorem str_toList (l : List UInt8) : (str l).toList = l := by rw [Lib.toList_data]; rfl
@[go_sem] theorem str_extract (l : List UInt8) (a b : Nat) : (str l).extract a b = str ((l.drop a).take (b - a)) := by
  rw [str_eta ((str l).extract a b), Lib.extract_data]; rfl
@[go_sem] theorem str_append (a b : List UInt8) : str a ++ str b = str (a ++ b) := by
  rw [str_eta (str a ++ str b)]; congr 1
@[go_sem] theorem str_get (l : List UInt8) (i : Nat) (h : i < (str l).size) : (str l)[i]'h = l[i]'(by rwa [str_size] at h) := by
  simp [str, ByteArray.getElem_eq_getElem_data]
end Go.Proofs.YtjlpdbaknhbgdaaGreat
set_option linter.unusedSimpArgs false
set_option linter.unusedVariables false
namespace Go.Proofs.YtjlpdbaknhbgdaaGreat
open Go.RowKit

theorem Blk.drewN {w : World} {b : Nat} {cs : Array Value} {t : TypeId} (h : Blk w b cs t) (n : Nat) : Blk (w.drewN n) b cs t := h

theorem wpQuiet_loadMid {P : Program} {ops : Array Oper} {C : World → Prop} {Q : Act → Prop} {a : Act} {o : Oper} {rest : List Oper} (hw : Region.wanted o (yielded ops a.tmps) = true) (ty : TypeId) (x : Operand) (ho : o.op = .load ty x)
    (b off : Nat) (hx : a.eval x = .pointer (some ⟨b, off, none⟩)) (cs : List Value) (d : TypeDesc) (hS : ∀ w, C w → w.rangeAt b off cs)
    (hu : P.underlying ty = some d) (hd : d.isRow = true) (hi : (P.info? ty).map (·.size) = some cs.length)
    (h : wpQuiet P ops C Q rest (a.put o.dst (.agg cs.toArray))) : wpQuiet P ops C Q (o :: rest) a :=
  wpQuiet_step fun K hK => by
    rw [if_pos hw]
    refine ⟨_, fun w hw' => ?_, hK _ h⟩
    unfold Oper.quietAt execOp
    simp only [ho, hx, Instr.loadAt, Instr.sureAddr, Sem.run_bind, Sem.run_pure, Result.andThen_ok, run_loadVar_mid w b off ty cs d (hS w hw') hu hd hi]
    exact ⟨rfl, rfl⟩
theorem below_drewN {B : Nat} {w w' : World} (h : Below B w w') (n : Nat) : Below B w (w'.drewN n) := ⟨h.os, h.tape, h.output, h.size, h.block⟩
theorem grown_drewN {w w' : World} {r : Option Nat} (h : w.grownBy w' r) (n : Nat) : w.grownBy (w'.drewN n) r := ⟨h.os, h.tape, h.output, h.size, h.block⟩
end Go.Proofs.YtjlpdbaknhbgdaaGreat
set_option linter.unusedSimpArgs false
set_option linter.unusedVariables false
namespace Go.Proofs.YtjlpdbaknhbgdaaGreat
open Go.RowKit

theorem still_of_quiet {P : Program} {o : Oper} {a : Act} {W : World} {K : Act → Prop} (h : o.quiet P a (fun w' => w' = W) K) : o.still P a W K := by
  obtain ⟨v, hq, hk⟩ := h
  have h1 := hq W rfl
  unfold Oper.quietAt at h1
  unfold Oper.still
  generalize (execOp a.eval o).run P W = r at h1 ⊢
  unfold Oper.quietUpon at h1
  unfold Oper.stillUpon
  split at h1
  · obtain ⟨rfl, rfl⟩ := h1
    exact ⟨rfl, hk⟩
  · obtain ⟨rfl, rfl⟩ := h1
    exact ⟨rfl, hk⟩
  · obtain ⟨rfl, hc⟩ := h1
    exact ⟨rfl, v, hc, hk⟩
  · exact h1.elim
theorem wpStill_of_quiet {P : Program} {ops : Array Oper} {W : World} {Q : Act → Prop} : ∀ {l : List Oper} {a : Act}, wpQuiet P ops (fun w' => w' = W) Q l a → wpStill P ops W Q l a
  | [], _, h => h
  | o :: l, a, h => by
    unfold wpQuiet at h
    unfold wpStill
    split at h
    · rename_i hw
      rw [if_pos hw]
      obtain ⟨v, hq, hk⟩ := h
      exact still_of_quiet ⟨v, hq, wpStill_of_quiet hk⟩
    · rename_i hw
      rw [if_neg hw]
      exact wpStill_of_quiet h
theorem wp_still_store {P : Program} {id : Nat} {Q : Exit → Act → World → Prop} {a : Act} {w : World} {l : List Oper} (n : Nat) (hm : P.follows .mixedOrders = true) (hB : Region.lexTailB .any l.toArray n = true)
    (h : wpQuiet P l.toArray (fun w' => w' = w.drew) (fun a' => wpList P l.toArray Q (l.drop n) a' w.drew) (l.take n) a) : (Code.region id l.toArray true).wp P Q a w :=
  wp_region_still_tail n hm hB (wpStill_of_quiet h)
end Go.Proofs.YtjlpdbaknhbgdaaGreat
set_option linter.unusedSimpArgs false
set_option linter.unusedVariables false
namespace Go.Proofs.YtjlpdbaknhbgdaaGreat
open Go.RowKit

theorem Blk.setRow {w : World} {g : Nat} {cur : Array Value} {t : TypeId} (h : Blk w g cur t) (cs : Array Value) : Blk (w.setRow g cs) g cs t := setRow_heap w g cur cs t (0, 0) h
theorem grown_row (w : World) (g : Nat) (cs : Array Value) : w.grownBy (w.setRow g cs) (some g) :=
  ⟨rfl, rfl, rfl, by simp, fun k _ hk => setRow_other w g k cs (fun e => hk (by rw [e]))⟩
/-- What is written lies in a new block. -/
theorem grown_new {w w1 w2 : World} {row : Option Nat} {g : Nat} (h : w.grownBy w1 row) (h2 : w1.grownBy w2 (some g)) (hg : w.heap.size ≤ g) : w.grownBy w2 row :=
  ⟨h2.os.trans h.os, h2.tape.trans h.tape, h2.output.trans h.output, Nat.le_trans h.size h2.size, fun k hk hr => by
    rw [h2.block k (Nat.lt_of_lt_of_le hk h.size) (fun e => by cases e; omega), h.block k hk hr]⟩
theorem below_new {B : Nat} {w w1 w2 : World} {g : Nat} (h : Below B w w1) (h2 : w1.grownBy w2 (some g)) (hg : B ≤ g) (hs : B ≤ w1.heap.size) : Below B w w2 :=
  h.grown h2 hs (fun k e => by cases e; exact hg)

theorem wpList_copyStr {P : Program} {w : World} {ops : Array Oper} {rest : List Oper} {o : Oper} {a : Act} {Q : Exit → Act → World → Prop} (hgd : o.guard = none) (d s : Operand) (dT sT : TypeId)
    (ho : o.op = .call { callee := .builtin .copy, args := #[d, s], argTypes := #[dT, sT] }) (elem : TypeId) (hu : P.underlying dT = some (.slice elem)) (hsz : (P.info? elem).map (·.size) = some 1)
    (g off dLen dCap : Nat) (l : List UInt8) (hd : a.eval d = .slice (some ⟨g, off, none⟩) dLen dCap) (hs : a.eval s = .string (str l)) (cur : Array Value) (t : TypeId) (hg : Blk w g cur t) (hle : l.length ≤ dLen) (hfit : off + l.length ≤ cur.size) (new : Array Value) (hnew : cur.toList.take off ++ l.map bv ++ cur.toList.drop (off + l.length) = new.toList)
    (h : ∀ w', Blk w' g new t → w.grownBy w' (some g) → wpList P ops Q rest (a.put o.dst (.int .i64 l.length)) w') : wpList P ops Q (o :: rest) a w := by
  have hr := Lib.run_copy_row_string (P := P) w dT sT o.type elem g off dLen dCap (str l) cur t hu hsz hg (by rw [str_size]; exact hle) (by rw [str_size]; exact hfit)
  rw [str_size] at hr
  have hn : (cur.toList.take off ++ l.map bv ++ cur.toList.drop (off + l.length)).toArray = new := by rw [hnew]
  exact Lib.wpList_copy_run w hgd d s dT sT ho _ _ hd hs hr (h _ (by rw [← hn]; exact hg.setRow _) (grown_row _ _ _))

theorem wpList_loadBlk {P : Program} {ops : Array Oper} {rest : List Oper} {o : Oper} {a : Act} {w : World} {Q : Exit → Act → World → Prop} (hgd : o.guard = none) (ty : TypeId) (x : Operand) (ho : o.op = .load ty x)
    (g : Nat) (hx : a.eval x = .pointer (some ⟨g, 0, none⟩)) (t : TypeId) (cs : Array Value) (d : TypeDesc) (hg : Blk w g cs t)
    (hu : P.underlying ty = some d) (hd : (match d with | .struct _ | .array _ _ => true | _ => false) = true) (hi : (P.info? ty).map (·.size) = some cs.size)
    (h : wpList P ops Q rest (a.put o.dst (.agg cs)) w) : wpList P ops Q (o :: rest) a w :=
  wpList_load_row hgd ty x ho g hx t cs (0, 0) d hg hu hd hi h

theorem wpList_storeBlk {P : Program} {ops : Array Oper} {rest : List Oper} {o : Oper} {a : Act} {w : World} {Q : Exit → Act → World → Prop} (hgd : o.guard = none) (ty : TypeId) (x y : Operand) (ho : o.op = .store ty x y)
    (g : Nat) (cells : Array Value) (hx : a.eval x = .pointer (some ⟨g, 0, none⟩)) (hy : a.eval y = .agg cells)
    (t : TypeId) (old : Array Value) (hg : Blk w g old t) (hi : (P.info? ty).map (·.size) = some cells.size)
    (hold : old.size = cells.size) (h1 : cells.all (·.oneCell') = true)
    (h : ∀ w', Blk w' g cells t → w.grownBy w' (some g) → wpList P ops Q rest (a.put o.dst undef) w') : wpList P ops Q (o :: rest) a w :=
  wpList_store_row hgd ty x y ho g cells hx hy t old hg hi hold h1 (h _ (hg.setRow _) (grown_row _ _ _))

theorem ret_blk {P : Program} {fn : Func} {R : Ending → World → Prop} {a : Act} {w : World} {p : Tmp} {ty : TypeId} (hf : fn.results = #[.cell p ty]) (g : Nat) (t : TypeId) (cs : Array Value) (d : TypeDesc)
    (hp : a.tmps.getD p undef = .pointer (some ⟨g, 0, none⟩)) (hg : Blk w g cs t)
    (hu : P.underlying ty = some d) (hd : (match d with | .struct _ | .array _ _ => true | _ => false) = true) (hi : (P.info? ty).map (·.size) = some cs.size)
    (hdf : a.defers = []) (hR : R (.returned (.agg cs)) w) : bodyPost P fn R .ret a w :=
  bodyPost_ret (results_cell_row hf a.tmps w g t cs (0, 0) d hp hg hu hd hi) hdf hR

/-- 'string(b)', b lying in a block known whole. -/
theorem wpList_convBlk {P : Program} {ops : Array Oper} {rest : List Oper} {o : Oper} {a : Act} {w : World} {Q : Exit → Act → World → Prop} (hgd : o.guard = none) (src dst e : TypeId) (x : Operand) (ho : o.op = .convert src dst x)
    (hs : P.underlying src = some (.slice e)) (he : P.underlying e = some (.int .u8)) (hd : P.underlying dst = some .string)
    (g n c : Nat) (hx : a.eval x = .slice (some ⟨g, 0, none⟩) n c) (cs : Array Value) (t : TypeId) (hg : Blk w g cs t) (l : List UInt8) (hn : l.length = n) (hl : cs.toList.take n = l.map bv)
    (h : wpList P ops Q rest (a.put o.dst (.string (str l))) w) : wpList P ops Q (o :: rest) a w := by
  refine wpList_plain hgd fun K hK => ?_
  subst hn
  have hr := run_convert_bytes_back (P := P) w src dst e ⟨g, 0, none⟩ c l hs he hd (fun j hj => by
    rw [Addr.add_lit, Nat.zero_add]
    refine hg.cell j _ ?_
    have h2 : (cs.toList.take l.length)[j]? = (l.map bv)[j]? := by rw [hl]
    rw [List.getElem?_take_of_lt hj] at h2
    simpa [bv, hj] using h2)
  unfold Oper.wp
  simp [execOp, ho, hx, hr, Result.andThen]
  exact hK _ _ h

theorem bv_all (l : List UInt8) : (l.map bv).toArray.all (·.oneCell') = true := by
  rw [List.all_toArray, List.all_eq_true]
  exact bv_one l
theorem bv_size (l : List UInt8) : (l.map bv).toArray.size = l.length := by simp
end Go.Proofs.YtjlpdbaknhbgdaaGreat
set_option linter.unusedSimpArgs false
set_option linter.unusedVariables false
namespace Go.Proofs.YtjlpdbaknhbgdaaGreat
open Go.RowKit

abbrev Z32 : Array Value := #[.int .u8 0, .int .u8 0, .int .u8 0, .int .u8 0, .int .u8 0, .int .u8 0, .int .u8 0, .int .u8 0, .int .u8 0, .int .u8 0, .int .u8 0, .int .u8 0, .int .u8 0, .int .u8 0, .int .u8 0, .int .u8 0, .int .u8 0, .int .u8 0, .int .u8 0, .int .u8 0, .int .u8 0, .int .u8 0, .int .u8 0, .int .u8 0, .int .u8 0, .int .u8 0, .int .u8 0, .int .u8 0, .int .u8 0, .int .u8 0, .int .u8 0, .int .u8 0]
theorem Z32_eq : Z32 = ((List.replicate 32 (0 : UInt8)).map bv).toArray := rfl
theorem Z32_size : Z32.size = 32 := rfl
theorem Z32_all : Z32.all (·.oneCell') = true := by rw [Z32_eq]; exact bv_all _

/-- An array of n bytes of which the first k are those of x. -/
def fillB (n k : Nat) (x : List UInt8) : Array Value := ((x.take k ++ List.replicate (n - k) 0).map bv).toArray
theorem fillB_set (n k : Nat) (x : List UInt8) (hk : k < x.length) (hn : k < n) : (fillB n k x).setIfInBounds k (bv x[k]) = fillB n (k + 1) x := by
  unfold fillB
  rw [List.setIfInBounds_toArray]
  congr 1
  rw [show n - k = (n - (k + 1)) + 1 by omega, List.replicate_succ, List.take_succ_eq_append_getElem hk, List.append_assoc, List.map_append, List.map_append (l₁ := x.take k), List.map_cons, List.set_append_right _ _ (by simp; omega), List.length_map, List.length_take, Nat.min_eq_left (by omega), Nat.sub_self, List.set_cons_zero]
  rfl
theorem fillB_get (n k : Nat) (x : List UInt8) (hk : k ≤ x.length) (hn : k < n) : (fillB n k x)[k]? = some (bv 0) := by
  unfold fillB
  rw [show n - k = (n - (k + 1)) + 1 by omega, List.replicate_succ, List.map_append, List.map_cons, List.getElem?_toArray, List.getElem?_append_right (by simp; omega)]
  rw [List.length_map, List.length_take, Nat.min_eq_left hk, Nat.sub_self]
  rfl
theorem fillB_all (n : Nat) (x : List UInt8) (h : x.length = n) : fillB n n x = (x.map bv).toArray := by
  unfold fillB; rw [List.take_of_length_le (by omega), Nat.sub_self]; simp
/-- The strings of a slice, at their places. -/
def StrsAt (w : World) (ao : Option Addr) (len : Nat) (ps : List (List UInt8)) : Prop :=
  ps.length = len ∧ (len = 0 ∨ ∃ b off, ao = some ⟨b, off, none⟩ ∧ b < w.heap.size ∧ ∀ i (hi : i < ps.length), w.cell? ⟨b, off + i, none⟩ = some (.string (str ps[i])))
theorem StrsAt.below {w w' : World} {ao : Option Addr} {len : Nat} {ps : List (List UInt8)} (h : StrsAt w ao len ps) (hb : Below w.heap.size w w') : StrsAt w' ao len ps := by
  refine ⟨h.1, ?_⟩
  rcases h.2 with h0 | ⟨b, off, rfl, hlt, hc⟩
  · exact .inl h0
  · right
    exact ⟨b, off, rfl, Nat.lt_of_lt_of_le hlt hb.size, fun i hi => (hb.cell (p := ⟨b, off + i, none⟩) hlt).trans (hc i hi)⟩
/-- A slice over the whole of a block of strings. -/
theorem StrsAt.blk {w : World} {b : Nat} {t : TypeId} (ps : List (List UInt8)) (h : Blk w b (ps.map fun s => Value.string (str s)).toArray t) : StrsAt w (some ⟨b, 0, none⟩) ps.length ps := by
  refine ⟨rfl, .inr ⟨b, 0, rfl, h.lt, fun i hi => ?_⟩⟩
  rw [Nat.zero_add]
  exact h.cell i _ (by rw [List.getElem?_toArray, List.getElem?_map, List.getElem?_eq_getElem hi]; rfl)
end Go.Proofs.YtjlpdbaknhbgdaaGreat
set_option linter.unusedSimpArgs false
set_option linter.unusedVariables false
namespace Go.Proofs.YtjlpdbaknhbgdaaGreat
open Go.RowKit

theorem blk_mid {w : World} {g : Nat} {l A v C : List UInt8} {t : TypeId} {off : Nat} (h : Blk w g (l.map bv).toArray t) (hl : l = A ++ (v ++ C)) (ho : A.length = off) : w.rangeAt g off (v.map bv) := by
  intro j u hj
  refine h.cell _ _ ?_
  have hlt : j < v.length := by simpa using (List.getElem?_eq_some_iff.1 hj).1
  rw [List.getElem?_toArray, hl, List.map_append, List.getElem?_append_right (by simp [ho]), List.length_map, ho, Nat.add_sub_cancel_left, List.map_append, List.getElem?_append_left (by simpa using hlt)]
  exact hj

/-- An operation under a guard that holds. -/
theorem wpList_if {P : Program} {ops : Array Oper} {rest : List Oper} {o : Oper} {a : Act} {w : World} {Q : Exit → Act → World → Prop} (hw : Region.wanted o (yielded ops a.tmps) = true) (h : o.wp P a w (wpList P ops Q rest) Q) : wpList P ops Q (o :: rest) a w := by
  rw [wpList, if_pos hw]
  exact .inl h

theorem run_store_mid {P : Program} {w : World} {g off : Nat} {ty t : TypeId} {l A v B C : List UInt8} (hg : Blk w g (l.map bv).toArray t) (hl : l = A ++ (B ++ C)) (hoff : A.length = off) (hB : B.length = v.length) (hi : (P.info? ty).map (·.size) = some v.length) :
    (storeVar ty ⟨g, off, none⟩ (.agg (v.map bv).toArray)).run P w = .ok () (w.setRow g ((A ++ (v ++ C)).map bv).toArray) := by
  have hfit : off + 0 + (v.map bv).length ≤ (l.map bv).toArray.size := by rw [hl]; simp; omega
  have h1 := run_storeCells_at (P := P) g off t (v.map bv) 0 (l.map bv).toArray w hg hfit (bv_one v)
  have e : ((l.map bv).toArray.toList.take (off + 0) ++ v.map bv ++ (l.map bv).toArray.toList.drop (off + 0 + (v.map bv).length)) = (A ++ (v ++ C)).map bv := by
    rw [hl]
    subst hoff
    have e1 : ((A ++ (B ++ C)).map bv).take (A.length + 0) = A.map bv := by
      rw [Nat.add_zero, List.map_append, show A.length = (A.map bv).length by simp, List.take_left]
    have e2 : ((A ++ (B ++ C)).map bv).drop (A.length + 0 + (v.map bv).length) = C.map bv := by
      rw [← List.append_assoc, List.map_append, show A.length + 0 + (v.map bv).length = ((A ++ B).map bv).length by simp [hB], List.drop_left]
    show List.take _ ((A ++ (B ++ C)).map bv) ++ _ ++ List.drop _ ((A ++ (B ++ C)).map bv) = _
    rw [e1, e2]
    simp
  rw [e] at h1
  cases hq : P.info? ty with
  | none => simp [hq] at hi
  | some i =>
    have hs : v.length = i.size := by simp [hq] at hi; omega
    simp [storeVar, sizeOf, typeInfo, hq, Value.cells, hs, h1]

theorem wp_storeBlk {P : Program} {o : Oper} {a : Act} {w : World} {K : Act → World → Prop} {Q : Exit → Act → World → Prop} (ty : TypeId) (x y : Operand) (ho : o.op = .store ty x y)
    (g : Nat) (cells : Array Value) (hx : a.eval x = .pointer (some ⟨g, 0, none⟩)) (hy : a.eval y = .agg cells)
    (t : TypeId) (old : Array Value) (hg : Blk w g old t) (hi : (P.info? ty).map (·.size) = some cells.size)
    (hold : old.size = cells.size) (h1 : cells.all (·.oneCell') = true)
    (h : ∀ w', Blk w' g cells t → w.grownBy w' (some g) → K (a.put o.dst undef) w') : o.wp P a w K Q :=
  wp_store_row ty x y ho g cells hx hy t old hg hi hold h1 (h _ (hg.setRow _) (grown_row _ _ _))

theorem wp_storeMid {P : Program} {o : Oper} {a : Act} {w : World} {K : Act → World → Prop} {Q : Exit → Act → World → Prop} (ty : TypeId) (x y : Operand) (ho : o.op = .store ty x y)
    (g off : Nat) (v : List UInt8) (hx : a.eval x = .pointer (some ⟨g, off, none⟩)) (hy : a.eval y = .agg (v.map bv).toArray) (t : TypeId) (l A B C : List UInt8) (hg : Blk w g (l.map bv).toArray t)
    (hl : l = A ++ (B ++ C)) (hoff : A.length = off) (hB : B.length = v.length) (hi : (P.info? ty).map (·.size) = some v.length)
    (h : ∀ w', Blk w' g ((A ++ (v ++ C)).map bv).toArray t → w.grownBy w' (some g) → K (a.put o.dst undef) w') : o.wp P a w K Q := by
  have hr := run_store_mid (P := P) hg hl hoff hB hi
  unfold Oper.wp execOp
  simp only [ho, hx, hy, Instr.storeAt, Instr.sureAddr, Sem.run_bind, Sem.run_pure, Result.andThen_ok, hr]
  exact h _ (hg.setRow _) (grown_row _ _ _)

theorem wpList_storeMid {P : Program} {ops : Array Oper} {rest : List Oper} {o : Oper} {a : Act} {w : World} {Q : Exit → Act → World → Prop} (hgd : o.guard = none) (ty : TypeId) (x y : Operand) (ho : o.op = .store ty x y)
    (g off : Nat) (v : List UInt8) (hx : a.eval x = .pointer (some ⟨g, off, none⟩)) (hy : a.eval y = .agg (v.map bv).toArray) (t : TypeId) (l A B C : List UInt8) (hg : Blk w g (l.map bv).toArray t)
    (hl : l = A ++ (B ++ C)) (hoff : A.length = off) (hB : B.length = v.length) (hi : (P.info? ty).map (·.size) = some v.length)
    (h : ∀ w', Blk w' g ((A ++ (v ++ C)).map bv).toArray t → w.grownBy w' (some g) → wpList P ops Q rest (a.put o.dst undef) w') : wpList P ops Q (o :: rest) a w := by
  refine wpList_plain hgd fun K hK => ?_
  have hr := run_store_mid (P := P) hg hl hoff hB hi
  unfold Oper.wp execOp
  simp only [ho, hx, hy, Instr.storeAt, Instr.sureAddr, Sem.run_bind, Sem.run_pure, Result.andThen_ok, hr]
  exact hK _ _ (h _ (hg.setRow _) (grown_row _ _ _))

/-- A row goes into the midst of a row: what 'fill' does with one part. -/
theorem fill_mid {place : Nat → Option (Nat × Nat)} {rest : List (Nat × Value)} {i : Nat} {l A B C v : List UInt8} (hl : l = A ++ (B ++ C)) (hp : place i = some (A.length, v.length)) (hB : B.length = v.length) :
    Instr.fill place (l.map bv).toArray ((i, .agg (v.map bv).toArray) :: rest) = Instr.fill place ((A ++ (v ++ C)).map bv).toArray rest := by
  subst hl
  have hF : Instr.fill place ((A ++ (B ++ C)).map bv).toArray ((i, .agg (v.map bv).toArray) :: rest) = Instr.fill place (Array.foldl (fun cs (x : Value × Nat) => cs.setIfInBounds (A.length + x.2) x.1) ((A ++ (B ++ C)).map bv).toArray ((v.map bv).toArray.zipIdx)) rest := by
    conv => lhs; rw [Instr.fill]
    rw [hp]
    dsimp only
    split
    · rename_i h
      simp [Value.cells] at h
      omega
    · rfl
  rw [hF]
  congr 1
  obtain ⟨h1, h2⟩ := Go.Great.foldl_set A.length (v.map bv) 0 ((A ++ (B ++ C)).map bv).toArray
  have e : (Array.foldl (fun cs (x : Value × Nat) => cs.setIfInBounds (A.length + x.2) x.1) ((A ++ (B ++ C)).map bv).toArray ((v.map bv).toArray.zipIdx)) = ((v.map bv).zipIdx 0).foldl (fun cs (x : Value × Nat) => cs.setIfInBounds (A.length + x.2) x.1) ((A ++ (B ++ C)).map bv).toArray := by
    rw [← Array.foldl_toList]
    simp
  refine e.trans ?_
  apply Array.ext_getElem?
  intro k
  rw [h2 k]
  simp only [List.getElem?_toArray, List.size_toArray, Nat.add_zero, List.length_map, List.map_append]
  by_cases hk1 : k < A.length
  · rw [if_neg (by omega), List.getElem?_append_left (by simpa using hk1), List.getElem?_append_left (by simpa using hk1)]
  · have hA : (A.map bv).length ≤ k := by simp; omega
    by_cases hk2 : k < A.length + v.length
    · rw [if_pos ⟨by omega, by omega, by simp; omega⟩, List.getElem?_append_right hA, List.length_map, List.getElem?_append_left (by simp; omega)]
    · rw [if_neg (by omega), List.getElem?_append_right (l₂ := B.map bv ++ C.map bv) hA, List.getElem?_append_right (l₂ := v.map bv ++ C.map bv) hA, List.length_map, List.getElem?_append_right (l₁ := B.map bv) (by simp; omega), List.getElem?_append_right (l₁ := v.map bv) (by simp; omega)]
      simp [hB]

theorem built_struct {P : Program} {t : TypeId} {parts : List (Nat × Value)} {fields : Array Field} {z : Value} {places : List (Nat × Nat)} (hz : (P.info? t).bind (·.zero) = some z) (hu : P.underlying t = some (.struct fields))
    (hp : fields.toList.mapM (fun f => (P.info? f.type).map fun i => (f.offset, i.size)) = some places) : P.built t parts = Instr.fill (places.toArray[·]?) z.cells parts := by
  unfold Program.built
  cases hi : P.info? t with
  | none => simp [hi] at hz
  | some it =>
    have hz' : it.zero = some z := by simpa [hi] using hz
    simp only [hu, hz', hp]

theorem wp_buildCells {P : Program} {o : Oper} {a : Act} {w : World} {K : Act → World → Prop} {Q : Exit → Act → World → Prop} (t : TypeId) (parts : Array (Nat × Operand)) (ho : o.op = .build t parts) (cells : Array Value)
    (hf : P.built t (parts.toList.map fun (p : Nat × Operand) => (p.1, a.eval p.2)) = some cells) (h : K (a.put o.dst (.agg cells)) w) : o.wp P a w K Q :=
  have hf' : P.built t (parts.map fun (i, x) => (i, a.eval x)).toList = some cells := by rw [Array.toList_map]; exact hf
  wp_build t parts ho (by rw [hf']; rfl) (by rw [hf']; exact h)
theorem wpList_buildCells {P : Program} {ops : Array Oper} {rest : List Oper} {o : Oper} {a : Act} {w : World} {Q : Exit → Act → World → Prop} (hg : o.guard = none) (t : TypeId) (parts : Array (Nat × Operand)) (ho : o.op = .build t parts) (cells : Array Value)
    (hf : P.built t (parts.toList.map fun (p : Nat × Operand) => (p.1, a.eval p.2)) = some cells) (h : wpList P ops Q rest (a.put o.dst (.agg cells)) w) : wpList P ops Q (o :: rest) a w :=
  wpList_plain hg fun _ hK => wp_buildCells t parts ho cells hf (hK _ _ h)
theorem yieldsIf_build {P : Program} {ops : Array Oper} {S : World → Prop} {op : Oper} {a : Act} (hw : Region.wanted op (yielded ops a.tmps) = true) (t : TypeId) (parts : Array (Nat × Operand)) (ho : op.op = .build t parts) (cells : Array Value)
    (hf : P.built t (parts.toList.map fun (p : Nat × Operand) => (p.1, a.eval p.2)) = some cells) : YieldsIf P ops S op (.agg cells) a :=
  .inl ⟨hw, fun w _ => by
    have hf' : P.built t (parts.map fun (i, x) => (i, a.eval x)).toList = some cells := by rw [Array.toList_map]; exact hf
    unfold execOp
    simp only [ho, Sem.run_bind, run_build w t _ cells hf', Result.andThen_ok, Sem.run_pure]⟩
end Go.Proofs.YtjlpdbaknhbgdaaGreat
set_option linter.unusedSimpArgs false
set_option linter.unusedVariables false
namespace Go.Proofs.YtjlpdbaknhbgdaaGreat
open Go.RowKit

theorem below_alloc1 (w : World) (o : Obj) : Below w.heap.size w (w.alloc o) := (Below.refl _ _).alloc (Nat.le_refl _) _

/-- A row of its own stays behind calls that only make memory. -/
theorem own_below {w w' : World} {base : Nat} {e : TypeId} {size n : Nat} {v : Value} {xs : List Value} (h : w.ownsRow base e size v n xs) (b : Below w.heap.size w w') : w'.ownsRow base e size v n xs :=
  h.kept (below_grown b none) (by
    cases hv : v.ownBlock with
    | none => exact .inl rfl
    | some g => exact .inr (by simp))

/-- A slice literal of two arrays of 32 bytes. -/
theorem wp_bs64 {P : Program} {o : Oper} {a : Act} {w : World} {K : Act → World → Prop} {Q : Exit → Act → World → Prop} (t e : TypeId) (x y : Operand) (ho : o.op = .buildSlice t 2 #[(0, x), (1, y)])
    (l r : List UInt8) (hl : l.length = 32) (hr : r.length = 32) (hx : a.eval x = .agg (l.map bv).toArray) (hy : a.eval y = .agg (r.map bv).toArray) (hu : P.underlying t = some (.slice e)) (hz : (P.info? e).map (fun i => (i.zero, i.size)) = some (some (.agg Z32), 32))
    (h : K (a.put o.dst (.slice (some ⟨w.heap.size, 0, none⟩) 2 2)) (w.alloc (.cells ((l ++ r).map bv).toArray e))) : o.wp P a w K Q := by
  cases hi : P.info? e with
  | none => simp [hi] at hz
  | some ie =>
    simp [hi] at hz
    obtain ⟨hz1, hz2⟩ := hz
    refine Go.wp_buildSlice t e 2 #[(0, x), (1, y)] ho ((l ++ r).map bv).toArray ie (.agg Z32) hu hi hz1 (by rw [hz2]; decide) (by rw [hz2]; decide) ?_ h
    have e1 : (Array.range (2 * ie.size)).map ((Value.agg Z32).cells[· % (Value.agg Z32).cells.size]!) = ((List.replicate 32 (0 : UInt8) ++ List.replicate 32 0).map bv).toArray := by rw [hz2]; kernel_rfl
    rw [e1, show (#[(0, x), (1, y)].map fun (i, x) => (i, a.eval x)).toList = [(0, .agg (l.map bv).toArray), (1, .agg (r.map bv).toArray)] by simp [hx, hy]]
    rw [fill_mid (A := []) (B := List.replicate 32 0) (C := List.replicate 32 0) (v := l) (by simp) (by simp [hz2, hl]) (by simp [hl])]
    rw [fill_mid (A := l) (B := List.replicate 32 0) (C := []) (v := r) (by simp) (by simp [hz2, hl, hr]) (by simp [hr])]
    simp [Instr.fill]
theorem wpList_bs64 {P : Program} {ops : Array Oper} {rest : List Oper} {o : Oper} {a : Act} {w : World} {Q : Exit → Act → World → Prop} (hg : o.guard = none) (t e : TypeId) (x y : Operand) (ho : o.op = .buildSlice t 2 #[(0, x), (1, y)])
    (l r : List UInt8) (hl : l.length = 32) (hr : r.length = 32) (hx : a.eval x = .agg (l.map bv).toArray) (hy : a.eval y = .agg (r.map bv).toArray) (hu : P.underlying t = some (.slice e)) (hz : (P.info? e).map (fun i => (i.zero, i.size)) = some (some (.agg Z32), 32))
    (h : wpList P ops Q rest (a.put o.dst (.slice (some ⟨w.heap.size, 0, none⟩) 2 2)) (w.alloc (.cells ((l ++ r).map bv).toArray e))) : wpList P ops Q (o :: rest) a w :=
  wpList_plain hg fun _ hK => wp_bs64 t e x y ho l r hl hr hx hy hu hz (hK _ _ h)

/-- A slice literal of strings. -/
theorem wp_bsStr {P : Program} {o : Oper} {a : Act} {w : World} {K : Act → World → Prop} {Q : Exit → Act → World → Prop} (t e : TypeId) (x : Operand) (ho : o.op = .buildSlice t 1 #[(0, x)])
    (s : ByteArray) (hx : a.eval x = .string s) (hu : P.underlying t = some (.slice e)) (z : ByteArray) (hz : (P.info? e).map (fun i => (i.zero, i.size)) = some (some (.string z), 1))
    (h : ∀ g w', g = w.heap.size → w'.heap.size = g + 1 → Below w.heap.size w w' → Blk w' g #[.string s] e → K (a.put o.dst (.slice (some ⟨g, 0, none⟩) 1 1)) w') : o.wp P a w K Q := by
  cases hi : P.info? e with
  | none => simp [hi] at hz
  | some ie =>
    simp [hi] at hz
    obtain ⟨hz1, hz2⟩ := hz
    refine Go.wp_buildSlice t e 1 #[(0, x)] ho #[.string s] ie (.string z) hu hi hz1 (by rw [hz2]; decide) (by rw [hz2]; decide) ?_ (h _ _ rfl (by simp) (below_alloc1 _ _) (Blk.new _ _ _))
    rw [hz2, show (#[(0, x)].map fun (i, x) => (i, a.eval x)).toList = [(0, .string s)] by simp [hx]]
    rw [show (Array.range (1 * 1)).map ((Value.string z).cells[· % (Value.string z).cells.size]!) = #[.string z] by kernel_rfl]
    simp [Instr.fill, Value.cells]

/-- A new variable. -/
theorem wp_allocZ {P : Program} {o : Oper} {a : Act} {w : World} {K : Act → World → Prop} {Q : Exit → Act → World → Prop} (t : TypeId) (ho : o.op = .alloc t) (Z : Array Value) (hz : (P.info? t).bind (·.zero) = some (.agg Z))
    (h : ∀ g w', g = w.heap.size → w'.heap.size = g + 1 → Below w.heap.size w w' → Blk w' g Z t → K (a.put o.dst (.pointer (some ⟨g, 0, none⟩))) w') : o.wp P a w K Q := by
  cases hi : P.info? t with
  | none => simp [hi] at hz
  | some it =>
    have hz1 : it.zero = some (.agg Z) := by simpa [hi] using hz
    unfold Oper.wp execOp
    simp [ho, Instr.alloc, zeroValue, typeInfo, hi, hz1, newVar, newRow, Value.cells, Result.andThen]
    exact h _ _ rfl (by simp) (below_alloc1 _ _) (Blk.new _ _ _)
end Go.Proofs.YtjlpdbaknhbgdaaGreat
set_option linter.unusedSimpArgs false
set_option linter.unusedVariables false
namespace Go.Proofs.YtjlpdbaknhbgdaaGreat
open Go.RowKit

/-- The slice v holds the bytes bs, in a block from base on that nobody else has; no cell of it is frozen. -/
def OwnM (base : Nat) (e : TypeId) (w : World) (v : Value) (bs : List UInt8) : Prop :=
  ∃ (g cap : Nat) (cur : Array Value) (fr : Nat × Nat), v = .slice (some ⟨g, 0, none⟩) bs.length cap ∧ base ≤ g ∧ w.heap[g]? = some (.cells cur e fr) ∧ cur.toList.take bs.length = bs.map bv ∧ bs.length ≤ cap ∧ cap = cur.size ∧ ∀ j, j < cap → ¬ (fr.1 ≤ j ∧ j < fr.2)

theorem OwnM.kept {base : Nat} {e : TypeId} {w w' : World} {v : Value} {bs : List UInt8} (h : OwnM base e w v bs) (hk : ∀ k, base ≤ k → k < w.heap.size → v.ownBlock = some k → w'.heap[k]? = w.heap[k]?) : OwnM base e w' v bs := by
  obtain ⟨g, cap, cur, fr, rfl, hb, hg, h1, h2, h3, h4⟩ := h
  exact ⟨g, cap, cur, fr, rfl, hb, by rw [hk g hb (lt_of_block hg) rfl]; exact hg, h1, h2, h3, h4⟩
theorem OwnM.alloc {base : Nat} {e : TypeId} {w : World} {v : Value} {bs : List UInt8} (h : OwnM base e w v bs) (o : Obj) : OwnM base e (w.alloc o) v bs :=
  h.kept fun k _ hk _ => Below.heap_alloc _ _ _ hk
theorem OwnM.grown {base : Nat} {e : TypeId} {w w' : World} {v : Value} {bs : List UInt8} {row : Option Nat} (h : OwnM base e w v bs) (hg : w.grownBy w' row) (hr : ∀ k, row = some k → v.ownBlock ≠ some k) : OwnM base e w' v bs :=
  h.kept fun k _ hk hv => hg.block k hk (fun e2 => hr k e2.symm hv)
theorem OwnM.lt {base : Nat} {e : TypeId} {w : World} {v : Value} {bs : List UInt8} (h : OwnM base e w v bs) (k : Nat) (hk : v.ownBlock = some k) : base ≤ k ∧ k < w.heap.size := by
  obtain ⟨g, cap, cur, fr, rfl, hb, hg, _⟩ := h
  simp [Value.ownBlock] at hk
  subst hk
  exact ⟨hb, lt_of_block hg⟩
/-- What is read of it. -/
theorem OwnM.read {base : Nat} {e : TypeId} {w : World} {v : Value} {bs : List UInt8} (h : OwnM base e w v bs) : ∃ g cap, v = .slice (some ⟨g, 0, none⟩) bs.length cap ∧ base ≤ g ∧ g < w.heap.size ∧ bs.length ≤ cap ∧ ∀ j (hj : j < bs.length), w.cell? ⟨g, j, none⟩ = some (bv bs[j]) := by
  obtain ⟨g, cap, cur, fr, rfl, hb, hg, h1, h2, h3, h4⟩ := h
  refine ⟨g, cap, rfl, hb, lt_of_block hg, h2, fun j hj => ?_⟩
  have e1 : (cur.toList.take bs.length)[j]? = (bs.map bv)[j]? := by rw [h1]
  rw [List.getElem?_take_of_lt hj] at e1
  have : cur[j]? = some (bv bs[j]) := by simpa [hj] using e1
  simp [World.cell?, hg, this]
/-- What a conversion makes. -/
theorem OwnM.conv (w : World) (e : TypeId) (l : List UInt8) : OwnM w.heap.size e (Lib.bytesWorld w e (str l)) (.slice (some ⟨w.heap.size, 0, none⟩) (str l).size (grownCap w (str l).size 0 e)) l := by
  have hge := grownCap_ge w (str l).size 0 e
  have hs : (Lib.bytesCells w e (str l)).size = grownCap w (str l).size 0 e := by
    simp only [Lib.bytesCells, Array.size_append, Array.size_map, Array.size_replicate]
    rw [show (str l).data.size = (str l).size from rfl]; omega
  refine ⟨w.heap.size, _, _, _, by rw [str_size], Nat.le_refl _, Lib.bytesWorld_at_new w e (str l), ?_, by rw [str_size] at hge ⊢; exact hge, hs.symm, fun j hj => by rw [hs]; simp; omega⟩
  simp only [Lib.bytesCells, Array.toList_append, Array.toList_map]
  rw [str_data, List.take_append_of_le_length (by simp), List.take_of_length_le (by simp)]
  rfl
theorem OwnM.conv_below (w : World) (e : TypeId) (l : List UInt8) : Below w.heap.size w (Lib.bytesWorld w e (str l)) := by
  refine ⟨rfl, rfl, rfl, by rw [Lib.bytesWorld_size]; omega, fun k hk => Lib.bytesWorld_at_old w e (str l) k hk⟩

/-- One byte more. -/
theorem wpList_append_byte {P : Program} (w : World) {ops : Array Oper} {rest : List Oper} {o : Oper} {a : Act} {Q : Exit → Act → World → Prop}
    (hg : o.guard = none) (s x : Operand) (t : TypeId) (hop : o.op = Op.call { callee := Callee.builtin Builtin.append, args := #[s, x], argTypes := #[t, t] })
    (e : TypeId) (i : TypeInfo) (z : Value) (h1 : P.underlying t = some (.slice e)) (h2 : P.info? e = some i) (h3 : i.zero = some z) (h4 : i.size = 1) (h5 : i.bytes = 1) (h6 : z.cells.size = 1)
    (base : Nat) (v : Value) (bs : List UInt8) (hs : a.eval s = v) (hown : OwnM base e w v bs) (hlen : bs.length ≤ 1099511627776) (hbase : base ≤ w.heap.size)
    (N c : Nat) (b : UInt8) (hx : a.eval x = .slice (some ⟨N, 0, none⟩) 1 c) (hc : w.cell? ⟨N, 0, none⟩ = some (bv b))
    (h : ∀ v' w', OwnM base e w' v' (bs ++ [b]) → w.grownBy w' v.ownBlock → wpList P ops Q rest (a.put o.dst v') w') : wpList P ops Q (o :: rest) a w := by
  have hr := hown.read
  obtain ⟨g, cap, cur, fr, rfl, hb, hgg, e1, e2, e3, e4⟩ := hown
  obtain ⟨g', cap', he, _, _, _, hcell⟩ := hr
  have hg' : g = g' := by have h0 := congrArg Value.ownBlock he; simpa [Value.ownBlock] using h0
  subst hg'
  refine wpList_append_arg w hg s x t hop e i z 1 1 h1 h2 h3 h4 h5 h6 (by omega) g 0 bs.length cap (bs.map bv) hs (by simp) ?_ ⟨N, 0, none⟩ 1 c [bv b] hx rfl ?_ (by intro u hu; simp at hu; subst hu; rfl) ?_ (by unfold maxLen; omega) (by omega) ?_ ?_
  · intro j u hu
    have hj : j < bs.length := by have := (List.getElem?_eq_some_iff.1 hu).1; simpa using this
    rw [Nat.zero_add, hcell j hj]
    rw [List.getElem?_map, List.getElem?_eq_getElem hj] at hu
    simpa using hu
  · intro j u hu
    have hj : j = 0 := by have := (List.getElem?_eq_some_iff.1 hu).1; simp at this; omega
    subst hj
    simp at hu
    subst hu
    rw [Addr.add_mid]
    exact hc
  · intro hle j hj
    have hj0 : j = 0 := by simp at hj; omega
    subst hj0
    have hlt : bs.length < cur.size := by omega
    refine ⟨?_, ?_⟩
    · simp [World.cell?, hgg, hlt]
    · have := e4 bs.length (by omega)
      simp only [World.frozen?, hgg]
      simp
      omega
  · intro hle
    have hlt : bs.length < cur.size := by omega
    have hset : w.setCells g (0 + bs.length * 1) [bv b] = w.setCell ⟨g, bs.length, none⟩ (bv b) := by simp [World.setCells]
    rw [hset]
    refine h _ _ ⟨g, cap, cur.setIfInBounds bs.length (bv b), fr, by simp, hb, ?_, ?_, by simp; omega, by simpa using e3, e4⟩ (grown_set (World.grownBy.refl _ _) _ _)
    · show (w.heap.modify g _)[g]? = _
      have hl := lt_of_block hgg
      rw [Array.getElem?_eq_getElem (by simpa using hl), Array.getElem_modify_self]
      have h' : w.heap[g] = .cells cur e fr := by simpa [Array.getElem?_eq_getElem hl] using hgg
      rw [h']; rfl
    · rw [Array.toList_setIfInBounds, List.length_append, List.length_singleton, List.map_append, ← e1]
      rw [List.take_succ_eq_append_getElem (by simp; omega), List.getElem_set_self, List.take_set_of_le (by omega)]
      rfl
  · intro hgt v' w' hown' hgr
    obtain ⟨hlen', hown'⟩ := hown'
    rcases hown' with ⟨_, h0⟩ | ⟨g2, cap2, cur2, rfl, hb2, hg2, hn2, hm2, hs2, ht2⟩
    · omega
    · refine h _ _ ⟨g2, cap2, cur2, (0, 0), by simp, by omega, hg2, ?_, by simp; omega, by omega, by simp⟩ ⟨hgr.os, hgr.tape, hgr.output, hgr.size, fun k hk _ => hgr.block k hk (by simp)⟩
      rw [Nat.mul_one] at ht2
      rw [List.length_append, List.length_singleton, ht2, List.map_append]; rfl
end Go.Proofs.YtjlpdbaknhbgdaaGreat
set_option linter.unusedSimpArgs false
set_option linter.unusedVariables false
namespace Go.Proofs.YtjlpdbaknhbgdaaGreat
open Go.RowKit

theorem run_items_bytes {P : Program} (w : World) (d : Nat) (e : TypeId) (he : P.underlying e = some (.int .u8)) (hp : P.plainKey e = true) (a b : List UInt8) : ∀ (is : List Nat), (∀ i ∈ is, i < a.length ∧ i < b.length) →
    (Op.eqItems (d + 1) e 1 (a.map bv).toArray (b.map bv).toArray is).run P w = .ok (is.all fun i => a[i]? == b[i]?) w
  | [], _ => by simp [Op.eqItems]
  | i :: is, h => by
    obtain ⟨ha, hb⟩ := h i (by simp)
    have h1 : (a.map bv).toArray[i * 1]? = some (bv a[i]) := by simp [ha]
    have h2 : (b.map bv).toArray[i * 1]? = some (bv b[i]) := by simp [hb]
    have hq : (Op.equalIn (d + 1) e (bv a[i]) (bv b[i])).run P w = .ok (a[i] == b[i]) w := by
      unfold bv
      rw [run_equalIn_int _ _ _ _ .u8 _ _ he]
      congr 1
      by_cases hh : a[i] = b[i]
      · simp [hh]
      · have : (a[i].toNat : Int) ≠ b[i].toNat := fun e => hh (UInt8.toNat_inj.1 (by omega))
        rw [beq_eq_false_iff_ne.2 this, beq_eq_false_iff_ne.2 hh]
    have ih := run_items_bytes w d e he hp a b is (fun j hj => h j (by simp [hj]))
    simp only [Op.eqItems, Sem.run_bind, run_part_plain w hp h1, run_part_plain w hp h2, Result.andThen_ok, hq, List.all_cons]
    rw [List.getElem?_eq_getElem ha, List.getElem?_eq_getElem hb]
    cases hc : a[i] == b[i]
    · have : (some a[i] == some b[i]) = false := by simpa using hc
      simp [this]
    · have : (some a[i] == some b[i]) = true := by simpa using hc
      simp [this, ih]

theorem all_range (a b : List UInt8) (n : Nat) (ha : a.length = n) (hb : b.length = n) : ((List.range n).all fun i => a[i]? == b[i]?) = (a == b) := by
  rw [Bool.eq_iff_iff, List.all_eq_true, beq_iff_eq]
  constructor
  · intro h
    apply List.ext_getElem?
    intro i
    by_cases hi : i < n
    · exact beq_iff_eq.1 (h i (by simpa using hi))
    · rw [List.getElem?_eq_none (by omega), List.getElem?_eq_none (by omega)]
  · rintro rfl i _
    simp

theorem run_eq_bytes {P : Program} (w : World) (d n : Nat) (t e : TypeId) (i : TypeInfo) (ht : P.underlying t = some (.array n e)) (he : P.underlying e = some (.int .u8)) (hp : P.plainKey e = true) (hi : P.info? e = some i) (hc : P.cellsOf e = 1) (a b : List UInt8) (ha : a.length = n) (hb : b.length = n) :
    (Op.equalIn (d + 2) t (.agg (a.map bv).toArray) (.agg (b.map bv).toArray)).run P w = .ok (a == b) w := by
  rw [run_equalIn_array w (d + 1) _ _ ht hi, hc, run_items_bytes w d e he hp a b _ (fun i hi => by simp at hi; omega), all_range a b n ha hb]
end Go.Proofs.YtjlpdbaknhbgdaaGreat
set_option linter.unusedSimpArgs false
set_option linter.unusedVariables false
namespace Go.Proofs.YtjlpdbaknhbgdaaGreat
open Go.RowKit

/-- The bytes of a number: in 1, 2, 4 or 8 of them. -/
def numB (n : Nat) : List UInt8 :=
  if n < 64 then [UInt8.ofNat n]
  else if n < 16384 then [UInt8.ofNat (64 + n / 256), UInt8.ofNat (n % 256)]
  else if n < 1073741824 then [UInt8.ofNat (128 + n / 16777216), UInt8.ofNat (n / 65536 % 256), UInt8.ofNat (n / 256 % 256), UInt8.ofNat (n % 256)]
  else [UInt8.ofNat (192 + n / 72057594037927936), UInt8.ofNat (n / 281474976710656 % 256), UInt8.ofNat (n / 1099511627776 % 256), UInt8.ofNat (n / 4294967296 % 256),
        UInt8.ofNat (n / 16777216 % 256), UInt8.ofNat (n / 65536 % 256), UInt8.ofNat (n / 256 % 256), UInt8.ofNat (n % 256)]

theorem numB_len (n : Nat) : (numB n).length ≤ 8 := by
  unfold numB; split
  · simp
  · split
    · simp
    · split <;> simp

/-- Byte k of S bytes of kind K, as the program reckons it. -/
def kb (K S : Nat) (n : Int) (k : Nat) : Int := if k = 0 then bits BinOp.or IntKind.u8 (n / 2 ^ (8 * (S - 1 - k)) % 256) (64 * (K : Int)) else n / 2 ^ (8 * (S - 1 - k)) % 256
def kbs (K S : Nat) (n : Int) (k : Nat) : List Value := (List.range k).map fun i => Value.int .u8 (kb K S n i)
theorem kbs_succ (K S : Nat) (n : Int) (k : Nat) : kbs K S n (k + 1) = kbs K S n k ++ [Value.int .u8 (kb K S n k)] := by simp [kbs, List.range_succ]
theorem kbs_len (K S : Nat) (n : Int) (k : Nat) : (kbs K S n k).length = k := by simp [kbs]

theorem or_u8_0 (a : Int) (h0 : 0 ≤ a) (h1 : a < 256) : bits BinOp.or IntKind.u8 a 0 = a := by
  obtain ⟨n, rfl⟩ := Int.eq_ofNat_of_zero_le h0
  have : ∀ m : Fin 256, bits BinOp.or IntKind.u8 (m.val : Int) 0 = (m.val : Int) := by decide +kernel
  exact this ⟨n, by omega⟩
theorem or_u8_64 (a : Int) (h0 : 0 ≤ a) (h1 : a < 64) : bits BinOp.or IntKind.u8 a 64 = 64 + a := by
  obtain ⟨n, rfl⟩ := Int.eq_ofNat_of_zero_le h0
  have : ∀ m : Fin 64, bits BinOp.or IntKind.u8 (m.val : Int) 64 = 64 + (m.val : Int) := by decide +kernel
  exact this ⟨n, by omega⟩
theorem or_u8_128 (a : Int) (h0 : 0 ≤ a) (h1 : a < 64) : bits BinOp.or IntKind.u8 a 128 = 128 + a := by
  obtain ⟨n, rfl⟩ := Int.eq_ofNat_of_zero_le h0
  have : ∀ m : Fin 64, bits BinOp.or IntKind.u8 (m.val : Int) 128 = 128 + (m.val : Int) := by decide +kernel
  exact this ⟨n, by omega⟩
theorem or_u8_192 (a : Int) (h0 : 0 ≤ a) (h1 : a < 64) : bits BinOp.or IntKind.u8 a 192 = 192 + a := by
  obtain ⟨n, rfl⟩ := Int.eq_ofNat_of_zero_le h0
  have : ∀ m : Fin 64, bits BinOp.or IntKind.u8 (m.val : Int) 192 = 192 + (m.val : Int) := by decide +kernel
  exact this ⟨n, by omega⟩

theorem bv_ofNat (m : Nat) (h : m < 256) (a : Int) (ha : a = (m : Int)) : Value.int .u8 a = bv (UInt8.ofNat m) := by
  subst ha
  simp only [bv, UInt8.toNat_ofNat']
  rw [Nat.mod_eq_of_lt (by omega)]

theorem kbs_1 (n : Nat) (h : n < 64) : kbs 0 1 n 1 = (numB n).map bv := by
  simp only [kbs, numB, if_pos h, List.range_succ, List.range_zero, List.map_cons, List.map_nil, List.nil_append, kb]
  congr 1
  refine bv_ofNat n (by omega) _ ?_
  simp only [if_true]
  rw [show (64 * ((0 : Nat) : Int)) = 0 from rfl, or_u8_0] <;> simp <;> omega
theorem kbs_2 (n : Nat) (h0 : 64 ≤ n) (h : n < 16384) : kbs 1 2 n 2 = (numB n).map bv := by
  simp only [kbs, numB, if_neg (show ¬ n < 64 by omega), if_pos h, List.range_succ, List.range_zero, List.map_cons, List.map_nil, List.nil_append, List.map_append, List.cons_append, kb]
  congr 1
  · refine bv_ofNat _ (by omega) _ ?_
    simp only [if_true]
    rw [show (64 * ((1 : Nat) : Int)) = 64 from rfl, or_u8_64] <;> simp <;> omega
  congr 1
  · refine bv_ofNat _ (by omega) _ ?_
    simp
theorem kbs_4 (n : Nat) (h0 : 16384 ≤ n) (h : n < 1073741824) : kbs 2 4 n 4 = (numB n).map bv := by
  simp only [kbs, numB, if_neg (show ¬ n < 64 by omega), if_neg (show ¬ n < 16384 by omega), if_pos h, List.range_succ, List.range_zero, List.map_cons, List.map_nil, List.nil_append, List.map_append, List.cons_append, kb]
  congr 1
  · refine bv_ofNat _ (by omega) _ ?_
    simp only [if_true]
    rw [show (64 * ((2 : Nat) : Int)) = 128 from rfl, or_u8_128] <;> simp <;> omega
  congr 1
  · exact bv_ofNat _ (by omega) _ (by simp)
  congr 1
  · exact bv_ofNat _ (by omega) _ (by simp)
  congr 1
  · exact bv_ofNat _ (by omega) _ (by simp)
theorem kbs_8 (n : Nat) (h0 : 1073741824 ≤ n) (h : n ≤ 4611686018427387903) : kbs 3 8 n 8 = (numB n).map bv := by
  simp only [kbs, numB, if_neg (show ¬ n < 64 by omega), if_neg (show ¬ n < 16384 by omega), if_neg (show ¬ n < 1073741824 by omega), List.range_succ, List.range_zero, List.map_cons, List.map_nil, List.nil_append, List.map_append, List.cons_append, kb]
  congr 1
  · refine bv_ofNat _ (by omega) _ ?_
    simp only [if_true]
    rw [show (64 * ((3 : Nat) : Int)) = 192 from rfl, or_u8_192] <;> simp <;> omega
  congr 1
  · exact bv_ofNat _ (by omega) _ (by simp)
  congr 1
  · exact bv_ofNat _ (by omega) _ (by simp)
  congr 1
  · exact bv_ofNat _ (by omega) _ (by simp)
  congr 1
  · exact bv_ofNat _ (by omega) _ (by simp)
  congr 1
  · exact bv_ofNat _ (by omega) _ (by simp)
  congr 1
  · exact bv_ofNat _ (by omega) _ (by simp)
  congr 1
  · exact bv_ofNat _ (by omega) _ (by simp)
end Go.Proofs.YtjlpdbaknhbgdaaGreat
set_option linter.unusedSimpArgs false
set_option linter.unusedVariables false
namespace Go.Proofs.YtjlpdbaknhbgdaaGreat
open Go.RowKit

/-- What a word is in memory. -/
def uv (x : UInt32) : Value := .int .u32 (x.toNat : Int)
def rotr (x : UInt32) (n : Nat) : UInt32 := (x >>> UInt32.ofNat n) ||| (x <<< UInt32.ofNat (32 - n))

theorem u32_lt (x : UInt32) : x.toNat < 4294967296 := x.toNat_lt
theorem uxor (x y : UInt32) : bits BinOp.xor IntKind.u32 (x.toNat : Int) (y.toNat : Int) = ((x ^^^ y).toNat : Int) := by
  rw [u32_xor_nat _ _ (u32_lt x) (u32_lt y), UInt32.toNat_xor]
theorem uand (x y : UInt32) : bits BinOp.and IntKind.u32 (x.toNat : Int) (y.toNat : Int) = ((x &&& y).toNat : Int) := by
  rw [u32_and_nat _ _ (u32_lt x) (u32_lt y), UInt32.toNat_and]
theorem uor (x y : UInt32) : bits BinOp.or IntKind.u32 (x.toNat : Int) (y.toNat : Int) = ((x ||| y).toNat : Int) := by
  rw [u32_or_nat _ _ (u32_lt x) (u32_lt y), UInt32.toNat_or]
theorem ushr (x : UInt32) (n : Nat) (hn : n < 32) : (x.toNat : Int) / ((2 ^ n : Nat) : Int) = ((x >>> UInt32.ofNat n).toNat : Int) := by
  rw [UInt32.toNat_shiftRight]
  have : (UInt32.ofNat n).toNat % 32 = n := by rw [UInt32.toNat_ofNat']; omega
  rw [this, Nat.shiftRight_eq_div_pow]
  rfl
theorem ushl (x : UInt32) (n : Nat) (hn : n < 32) : (x.toNat : Int) * ((2 ^ n : Nat) : Int) % 4294967296 = ((x <<< UInt32.ofNat n).toNat : Int) := by
  rw [UInt32.toNat_shiftLeft]
  have : (UInt32.ofNat n).toNat % 32 = n := by rw [UInt32.toNat_ofNat']; omega
  rw [this, Nat.shiftLeft_eq]
  rfl
theorem urot (x : UInt32) (n : Nat) (h0 : 0 < n) (hn : n < 32) : bits BinOp.or IntKind.u32 ((x.toNat : Int) * ((2 ^ (32 - n) : Nat) : Int) % 4294967296) ((x.toNat : Int) / ((2 ^ n : Nat) : Int)) = ((rotr x n).toNat : Int) := by
  rw [ushl x _ (by omega), ushr x n hn, uor, rotr]
  congr 2
  exact UInt32.or_comm _ _
theorem urot' (x : UInt32) (n : Nat) (h0 : 0 < n) (hn : n < 32) : bits BinOp.or IntKind.u32 ((x.toNat : Int) / ((2 ^ n : Nat) : Int)) ((x.toNat : Int) * ((2 ^ (32 - n) : Nat) : Int) % 4294967296) = ((rotr x n).toNat : Int) := by
  rw [ushl x _ (by omega), ushr x n hn, uor, rotr]

/-- Four bytes, the greatest first. -/
def word4 (a b c d : UInt8) : UInt32 := UInt32.ofNat (((a.toNat * 256 + b.toNat) * 256 + c.toNat) * 256 + d.toNat)
theorem word4_toNat (a b c d : UInt8) : (word4 a b c d).toNat = ((a.toNat * 256 + b.toNat) * 256 + c.toNat) * 256 + d.toNat := by
  have h1 := a.toNat_lt; have h2 := b.toNat_lt; have h3 := c.toNat_lt; have h4 := d.toNat_lt
  unfold word4
  rw [UInt32.toNat_ofNat']
  omega
theorem uword (a b c d : UInt8) : bits BinOp.or IntKind.u32 (bits BinOp.or IntKind.u32 (bits BinOp.or IntKind.u32 ((a.toNat : Int) * 16777216) ((b.toNat : Int) * 65536)) ((c.toNat : Int) * 256)) (d.toNat : Int) = ((word4 a b c d).toNat : Int) := by
  have h1 := a.toNat_lt; have h2 := b.toNat_lt; have h3 := c.toNat_lt; have h4 := d.toNat_lt
  rw [show ((a.toNat : Int) * 16777216) = ((a.toNat * 16777216 : Nat) : Int) by omega, show ((b.toNat : Int) * 65536) = ((b.toNat * 65536 : Nat) : Int) by omega, show ((c.toNat : Int) * 256) = ((c.toNat * 256 : Nat) : Int) by omega]
  rw [u32_or_nat _ _ (by omega) (by omega), nat_join 24 _ _ (by omega) (by omega)]
  rw [u32_or_nat _ _ (by omega) (by omega), nat_join 16 _ _ (by omega) (by omega)]
  rw [u32_or_nat _ _ (by omega) (by omega), nat_join 8 _ _ (by omega) (by omega)]
  rw [word4_toNat]
  omega

/-- The words of the sixty-four rounds. -/
def shaK : List UInt32 := [
  0x428a2f98, 0x71374491, 0xb5c0fbcf, 0xe9b5dba5, 0x3956c25b, 0x59f111f1, 0x923f82a4, 0xab1c5ed5,
  0xd807aa98, 0x12835b01, 0x243185be, 0x550c7dc3, 0x72be5d74, 0x80deb1fe, 0x9bdc06a7, 0xc19bf174,
  0xe49b69c1, 0xefbe4786, 0x0fc19dc6, 0x240ca1cc, 0x2de92c6f, 0x4a7484aa, 0x5cb0a9dc, 0x76f988da,
  0x983e5152, 0xa831c66d, 0xb00327c8, 0xbf597fc7, 0xc6e00bf3, 0xd5a79147, 0x06ca6351, 0x14292967,
  0x27b70a85, 0x2e1b2138, 0x4d2c6dfc, 0x53380d13, 0x650a7354, 0x766a0abb, 0x81c2c92e, 0x92722c85,
  0xa2bfe8a1, 0xa81a664b, 0xc24b8b70, 0xc76c51a3, 0xd192e819, 0xd6990624, 0xf40e3585, 0x106aa070,
  0x19a4c116, 0x1e376c08, 0x2748774c, 0x34b0bcb5, 0x391c0cb3, 0x4ed8aa4a, 0x5b9cca4f, 0x682e6ff3,
  0x748f82ee, 0x78a5636f, 0x84c87814, 0x8cc70208, 0x90befffa, 0xa4506ceb, 0xbef9a3f7, 0xc67178f2]

/-- The first sixteen words of a block (as many of them as k). -/
def w16 (blk : List UInt8) (k : Nat) : List UInt32 := (List.range k).map fun i => word4 (blk.getD (4 * i) 0) (blk.getD (4 * i + 1) 0) (blk.getD (4 * i + 2) 0) (blk.getD (4 * i + 3) 0)
/-- The word behind those that are there. -/
def wnext (l : List UInt32) : UInt32 :=
  let x := l.getD (l.length - 15) 0; let y := l.getD (l.length - 2) 0
  l.getD (l.length - 16) 0 + l.getD (l.length - 7) 0 + (rotr x 7 ^^^ rotr x 18 ^^^ (x >>> 3)) + (rotr y 17 ^^^ rotr y 19 ^^^ (y >>> 10))
def wgrow : Nat → List UInt32 → List UInt32
  | 0, l => l
  | n + 1, l => wgrow n (l ++ [wnext l])
def sched (blk : List UInt8) : List UInt32 := wgrow 48 (w16 blk 16)

def wl (l : List UInt32) : Nat → List UInt32
  | 0 => l
  | k + 1 => wl l k ++ [wnext (wl l k)]
theorem wl_len (l : List UInt32) (k : Nat) : (wl l k).length = l.length + k := by
  induction k with
  | zero => rfl
  | succ k ih => simp [wl, ih]; omega
theorem wl_step (l : List UInt32) (k : Nat) : wl (l ++ [wnext l]) k = wl l (k + 1) := by
  induction k with
  | zero => rfl
  | succ k ih => rw [wl, ih]; rfl
theorem wgrow_wl (n : Nat) (l : List UInt32) : wgrow n l = wl l n := by
  induction n generalizing l with
  | zero => rfl
  | succ n ih => rw [wgrow, ih, wl_step]
theorem sched_wl (blk : List UInt8) : sched blk = wl (w16 blk 16) 48 := wgrow_wl _ _

/-- Eight words. -/
structure S8 where
  a : UInt32
  b : UInt32
  c : UInt32
  d : UInt32
  e : UInt32
  f : UInt32
  g : UInt32
  h : UInt32
def S8.list (s : S8) : List UInt32 := [s.a, s.b, s.c, s.d, s.e, s.f, s.g, s.h]
def t1 (s : S8) (k w : UInt32) : UInt32 := s.h + (rotr s.e 6 ^^^ rotr s.e 11 ^^^ rotr s.e 25) + (s.e &&& s.f ^^^ ~~~s.e &&& s.g) + k + w
def t2 (s : S8) : UInt32 := (rotr s.a 2 ^^^ rotr s.a 13 ^^^ rotr s.a 22) + (s.a &&& s.b ^^^ s.a &&& s.c ^^^ s.b &&& s.c)
def turnS (s : S8) (k w : UInt32) : S8 := ⟨t1 s k w + t2 s, s.a, s.b, s.c, s.d + t1 s k w, s.e, s.f, s.g⟩
def turns : List (UInt32 × UInt32) → S8 → S8
  | [], s => s
  | (k, w) :: l, s => turns l (turnS s k w)
def addS (s t : S8) : S8 := ⟨s.a + t.a, s.b + t.b, s.c + t.c, s.d + t.d, s.e + t.e, s.f + t.f, s.g + t.g, s.h + t.h⟩
def compS (s : S8) (blk : List UInt8) : S8 := addS s (turns (shaK.zip (sched blk)) s)
def blocksF (f : S8 → List UInt8 → S8) : Nat → List UInt8 → S8 → S8
  | 0, _, s => s
  | n + 1, m, s => blocksF f n (m.drop 64) (f s (m.take 64))
theorem blocksF_app (f : S8 → List UInt8 → S8) (q : Nat) (m x : List UInt8) (s : S8) (h : 64 * q ≤ m.length) : blocksF f q (m ++ x) s = blocksF f q m s := by
  induction q generalizing m s with
  | zero => rfl
  | succ q ih =>
    rw [blocksF, blocksF, List.take_append_of_le_length (by omega), List.drop_append_of_le_length (by omega), ih _ _ (by rw [List.length_drop]; omega)]
theorem blocksF_succ (f : S8 → List UInt8 → S8) (q : Nat) (m : List UInt8) (s : S8) : blocksF f (q + 1) m s = f (blocksF f q m s) ((m.drop (64 * q)).take 64) := by
  induction q generalizing m s with
  | zero => simp [blocksF]
  | succ q ih =>
    rw [blocksF, ih, List.drop_drop, blocksF, show 64 + 64 * q = 64 * (q + 1) by omega]
def blocksS (n : Nat) (m : List UInt8) (s : S8) : S8 := blocksF compS n m s
theorem blocksS_app (q : Nat) (m x : List UInt8) (s : S8) (h : 64 * q ≤ m.length) : blocksS q (m ++ x) s = blocksS q m s := blocksF_app compS q m x s h
theorem blocksS_succ (q : Nat) (m : List UInt8) (s : S8) : blocksS (q + 1) m s = compS (blocksS q m s) ((m.drop (64 * q)).take 64) := blocksF_succ compS q m s
def s0 : S8 := ⟨0x6a09e667, 0xbb67ae85, 0x3c6ef372, 0xa54ff53a, 0x510e527f, 0x9b05688c, 0x1f83d9ab, 0x5be0cd19⟩
/-- A number in eight bytes. -/
def be8 (n : Nat) : List UInt8 := (List.range 8).map fun i => UInt8.ofNat (n / 2 ^ (56 - 8 * i))
def tailS (n : Nat) : List UInt8 := 128 :: List.replicate (63 - (n + 8) % 64) 0 ++ be8 (n * 8)
/-- A word's four bytes. -/
def out4 (x : UInt32) : List UInt8 := [UInt8.ofNat (x.toNat / 16777216), UInt8.ofNat (x.toNat / 65536), UInt8.ofNat (x.toNat / 256), UInt8.ofNat x.toNat]
def sha (m : List UInt8) : List UInt8 := (blocksS ((m.length + 72) / 64) (m ++ tailS m.length) s0).list.flatMap out4
theorem sha_len (m : List UInt8) : (sha m).length = 32 := by simp [sha, S8.list, out4]
end Go.Proofs.YtjlpdbaknhbgdaaGreat
set_option linter.unusedSimpArgs false
set_option linter.unusedVariables false
namespace Go.Proofs.YtjlpdbaknhbgdaaGreat
open Go.RowKit Go.ChangeShapes Go.WideShapes

section
variable {H : Type} {enc : TypeId × Value → H} {w : World} {base : Nat} {spare : Nat → Bool} {held : Bool} {fuel : Nat} {x : DataW H × List MemPlace}
theorem trod_u8 {l : List Value} (h : DataW.trod enc Tryz.prog w base spare held fuel 5 l = some x) : ∃ c : UInt8, l = [bv c] := by
  obtain ⟨n, e1, e2, wf⟩ := DataW.trod_int Tryz.underlying5 h
  have hb := bounds_u8 wf
  refine ⟨UInt8.ofNat n.toNat, ?_⟩
  rw [e1]
  simp [bv]
  omega
theorem cells_bytes : ∀ (n : Nat) (l : List Value), l.length = n → (∀ i, i < n → ∃ c : UInt8, (l.drop i).take 1 = [bv c]) → ∃ h : List UInt8, h.length = n ∧ l = h.map bv
  | 0, l, hl, _ => ⟨[], rfl, by simpa using hl⟩
  | n + 1, [], hl, _ => by simp at hl
  | n + 1, v :: l, hl, hc => by
    obtain ⟨c, h0⟩ := hc 0 (by omega)
    obtain ⟨h, h1, h2⟩ := cells_bytes n l (by simpa using hl) (fun i hi => hc (i + 1) (by omega))
    simp at h0
    exact ⟨c :: h, by simp [h1], by simp [h0, h2]⟩
theorem Tryz.cellsU8 : Tryz.prog.cellsOf 5 = 1 := by kernel_rfl
theorem Tryz.cellsHash : Tryz.prog.cellsOf 23 = 32 := by kernel_rfl
theorem trod_hash {l : List Value} (h : DataW.trod enc Tryz.prog w base spare held fuel 23 l = some x) : ∃ hs : List UInt8, hs.length = 32 ∧ l = hs.map bv := by
  obtain ⟨xs, m, _, _, hl, hx, hi⟩ := DataW.trod_array Tryz.underlying23 h
  rw [Tryz.cellsHash] at hl
  refine cells_bytes 32 l hl fun i hlt => ?_
  have := hi i hlt
  rw [Tryz.cellsU8, Nat.mul_one, List.getElem?_eq_getElem (by omega)] at this
  exact trod_u8 this
set_option maxRecDepth 100000 in
theorem open_hash {v : Value} {d : DataW H} {p : List MemPlace} {r : Reach} {b0 : Nat} (hv : Value.okWide Tryz.prog w r b0 23 v) (h : DataW.Trod enc Tryz.prog w base spare held 23 v d p) : ∃ a : List UInt8, a.length = 32 ∧ v = .agg (a.map bv).toArray := by
  obtain ⟨m, hm⟩ := h
  obtain ⟨a, h1, h2⟩ := trod_hash hm
  simp only [Value.okWide, Tryz.underlying23] at hv
  obtain ⟨cs, rfl, h4, _⟩ := hv
  refine ⟨a, h1, ?_⟩
  simp only [Value.cells] at h2
  rw [← h2]
end
end Go.Proofs.YtjlpdbaknhbgdaaGreat
set_option linter.unusedSimpArgs false
set_option linter.unusedVariables false
namespace Go.Proofs.YtjlpdbaknhbgdaaGreat
open Go.RowKit Go.ChangeShapes Go.WideShapes

section
variable {H : Type} {enc : TypeId × Value → H} {w : World} {base : Nat} {spare : Nat → Bool} {held : Bool} {fuel : Nat} {x : DataW H × List MemPlace}
/-- Cells of a slice, element by element: whatever the elements are. -/
def Elems {α : Type} (cells : α → List Value) (size : Nat) (w : World) (ao : Option Addr) (len : Nat) (xs : List α) : Prop :=
  xs.length = len ∧ (len = 0 ∨ ∃ b off, ao = some ⟨b, off, none⟩ ∧ b < w.heap.size ∧ ∀ i (hi : i < xs.length), w.rangeAt b (off + i * size) (cells xs[i]))
theorem Elems.below {α : Type} {cells : α → List Value} {size : Nat} {w w' : World} {ao : Option Addr} {len : Nat} {xs : List α} (h : Elems cells size w ao len xs) (hb : Below w.heap.size w w') : Elems cells size w' ao len xs := by
  refine ⟨h.1, ?_⟩
  rcases h.2 with h0 | ⟨b, off, rfl, hlt, hc⟩
  · exact .inl h0
  · right
    exact ⟨b, off, rfl, Nat.lt_of_lt_of_le hlt hb.size, fun i hi j v hj => (hb.cell (p := ⟨b, off + i * size + j, none⟩) hlt).trans (hc i hi j v hj)⟩
/-- Where the element k lies. -/
theorem Elems.at {α : Type} {cells : α → List Value} {size : Nat} {ao : Option Addr} {len : Nat} {xs : List α} (h : Elems cells size w ao len xs) (k : Nat) (hk : k < len) :
    ∃ b off a, ao = some ⟨b, off, none⟩ ∧ xs[k]? = some a ∧ w.rangeAt b (off + k * size) (cells a) := by
  rcases h.2 with h0 | ⟨b, off, rfl, hlt, hc⟩
  · omega
  · have hk' : k < xs.length := by rw [h.1]; exact hk
    exact ⟨b, off, xs[k], rfl, List.getElem?_eq_getElem hk', hc k hk'⟩
theorem Elems.at' {α : Type} {cells : α → List Value} {size : Nat} {b off : Nat} {len : Nat} {xs : List α} (h : Elems cells size w (some ⟨b, off, none⟩) len xs) (k : Nat) (a : α) (hk : xs[k]? = some a) :
    w.rangeAt b (off + k * size) (cells a) := by
  have hk' := (List.getElem?_eq_some_iff.1 hk).1
  obtain ⟨b', off', a', he, ha, hr⟩ := h.at k (by rw [← h.1]; exact hk')
  simp only [Option.some.injEq, Addr.mk.injEq] at he
  obtain ⟨rfl, rfl, _⟩ := he
  rw [hk] at ha
  cases ha
  exact hr
end
end Go.Proofs.YtjlpdbaknhbgdaaGreat
namespace Go.Proofs.YtjlpdbaknhbgdaaGreat
theorem Tryz.plainU8 : Tryz.prog.plainKey 5 = true := by kernel_rfl
theorem Tryz.infoU8h : ∃ i, Tryz.prog.info? 5 = some i := by
  have h : (Tryz.prog.info? 5).isSome = true := by kernel_rfl
  exact Option.isSome_iff_exists.1 h
theorem Tryz.cellsU8e : Tryz.prog.cellsOf 5 = 1 := by kernel_rfl
theorem run_eq_hash (w : World) (a b : List UInt8) (ha : a.length = 32) (hb : b.length = 32) :
    (Op.equalIn 10000 23 (.agg (a.map bv).toArray) (.agg (b.map bv).toArray)).run Tryz.prog w = .ok (a == b) w := by
  obtain ⟨i, hi⟩ := Tryz.infoU8h
  exact run_eq_bytes w 9998 32 23 5 i Tryz.underlying23 Tryz.underlying5 Tryz.plainU8 hi Tryz.cellsU8e a b ha hb
end Go.Proofs.YtjlpdbaknhbgdaaGreat
set_option linter.unusedSimpArgs false
set_option linter.unusedVariables false
namespace Go.Proofs.YtjlpdbaknhbgdaaGreat
open Go.RowKit
theorem wpList_allocZ {P : Program} {ops : Array Oper} {rest : List Oper} {o : Oper} {a : Act} {w : World} {Q : Exit → Act → World → Prop} (hg : o.guard = none) (ty : TypeId) (ho : o.op = .alloc ty)
    (cs : Array Value) (hz : (P.info? ty).bind (·.zero) = some (.agg cs)) (h : ∀ w', w'.heap.size = w.heap.size + 1 → Below w.heap.size w w' → Blk w' w.heap.size cs ty → wpList P ops Q rest (a.put o.dst (.pointer (some ⟨w.heap.size, 0, none⟩))) w') : wpList P ops Q (o :: rest) a w := by
  refine wpList_plain hg fun _ hK => wp_allocZ ty ho cs hz ?_
  intro g w' hg2 hs hb hk
  subst hg2
  exact hK _ _ (h w' hs hb hk)
theorem blk_rangeP {w : World} {b : Nat} {cs : List Value} {t : TypeId} (h : Blk w b cs.toArray t) : w.rangeAt b 0 cs := fun j v hj => by
  rw [Nat.zero_add]
  exact h.cell j v (by rw [List.getElem?_toArray]; exact hj)
theorem run_storeV {P : Program} {w : World} {g off : Nat} {ty t : TypeId} {cs A B C vs : List Value} {u : Value} (hg : Blk w g cs.toArray t) (hl : cs = A ++ (B ++ C)) (hoff : A.length = off) (hB : B.length = vs.length) (hu : u.cells = vs.toArray) (h1 : ∀ x ∈ vs, x.oneCell' = true) (hi : (P.info? ty).map (·.size) = some vs.length) :
    (storeVar ty ⟨g, off, none⟩ u).run P w = .ok () (w.setRow g (A ++ (vs ++ C)).toArray) := by
  have hfit : off + 0 + vs.length ≤ cs.toArray.size := by rw [hl]; simp; omega
  have hr := run_storeCells_at (P := P) g off t vs 0 cs.toArray w hg hfit h1
  have e : (cs.toArray.toList.take (off + 0) ++ vs ++ cs.toArray.toList.drop (off + 0 + vs.length)) = A ++ (vs ++ C) := by
    rw [hl]
    subst hoff
    have e1 : (A ++ (B ++ C)).take (A.length + 0) = A := by rw [Nat.add_zero, List.take_left]
    have e2 : (A ++ (B ++ C)).drop (A.length + 0 + vs.length) = C := by
      rw [← List.append_assoc, show A.length + 0 + vs.length = (A ++ B).length by simp [hB], List.drop_left]
    show List.take _ (A ++ (B ++ C)) ++ _ ++ List.drop _ (A ++ (B ++ C)) = _
    rw [e1, e2]
    simp
  rw [e] at hr
  cases hq : P.info? ty with
  | none => simp [hq] at hi
  | some it =>
    have hs1 : it.size = vs.length := by simpa [hq] using hi
    simp [storeVar, sizeOf, typeInfo, hq, hu, hs1, hr]
theorem wpList_storeV {P : Program} {ops : Array Oper} {rest : List Oper} {o : Oper} {a : Act} {w : World} {Q : Exit → Act → World → Prop} (hgd : o.guard = none) (ty : TypeId) (x y : Operand) (ho : o.op = .store ty x y)
    (g off : Nat) (u : Value) (hx : a.eval x = .pointer (some ⟨g, off, none⟩)) (hy : a.eval y = u) (t : TypeId) (cs A B C vs : List Value) (hg : Blk w g cs.toArray t) (hl : cs = A ++ (B ++ C)) (hoff : A.length = off) (hB : B.length = vs.length) (hu : u.cells = vs.toArray) (h1 : ∀ x ∈ vs, x.oneCell' = true) (hi : (P.info? ty).map (·.size) = some vs.length)
    (h : ∀ w', Blk w' g (A ++ (vs ++ C)).toArray t → w.grownBy w' (some g) → wpList P ops Q rest (a.put o.dst undef) w') : wpList P ops Q (o :: rest) a w := by
  refine wpList_plain hgd fun K hK => ?_
  have hr := run_storeV (P := P) hg hl hoff hB hu h1 hi
  unfold Oper.wp execOp
  simp only [ho, hx, hy, Instr.storeAt, Instr.sureAddr, Sem.run_bind, Sem.run_pure, Result.andThen_ok, hr]
  exact hK _ _ (h _ (hg.setRow _) (grown_row _ _ _))
theorem run_load1 {P : Program} {w : World} {b o : Nat} {ty : TypeId} {v : Value} {d : TypeDesc} (hc : w.cell? ⟨b, o, none⟩ = some v) (hu : P.underlying ty = some d) (hd : d.isRow = false) : (loadVar ty ⟨b, o, none⟩).run P w = .ok v w := by
  have hagg : (isAgg ty).run P w = .ok false w := by
    unfold isAgg
    rw [Sem.run_bind, run_underlying hu w]
    cases d <;> simp_all
  simp [loadVar, Sem.run_bind, hagg, hc]
theorem wp_load1 {P : Program} {o : Oper} {a : Act} {w : World} {K : Act → World → Prop} {Q : Exit → Act → World → Prop} (ty : TypeId) (x : Operand) (ho : o.op = .load ty x) (b off : Nat) (hx : a.eval x = .pointer (some ⟨b, off, none⟩)) (v : Value) (d : TypeDesc)
    (hc : w.cell? ⟨b, off, none⟩ = some v) (hu : P.underlying ty = some d) (hd : d.isRow = false) (h : K (a.put o.dst v) w) : o.wp P a w K Q := by
  unfold Oper.wp execOp
  simp only [ho, hx, Instr.loadAt, Instr.sureAddr, Sem.run_bind, Sem.run_pure, Result.andThen_ok, run_load1 (P := P) hc hu hd]
  exact h
/-- A variable of one cell is read. -/
theorem wpList_load1 {P : Program} {ops : Array Oper} {rest : List Oper} {o : Oper} {a : Act} {w : World} {Q : Exit → Act → World → Prop} (hgd : o.guard = none) (ty : TypeId) (x : Operand) (ho : o.op = .load ty x) (b off : Nat) (hx : a.eval x = .pointer (some ⟨b, off, none⟩)) (v : Value) (d : TypeDesc)
    (hc : w.cell? ⟨b, off, none⟩ = some v) (hu : P.underlying ty = some d) (hd : d.isRow = false) (h : wpList P ops Q rest (a.put o.dst v) w) : wpList P ops Q (o :: rest) a w :=
  wpList_plain hgd fun _ hK => wp_load1 ty x ho b off hx v d hc hu hd (hK _ _ h)
end Go.Proofs.YtjlpdbaknhbgdaaGreat
set_option linter.unusedSimpArgs false
set_option linter.unusedVariables false
namespace Go.Proofs.YtjlpdbaknhbgdaaGreat
open Go.RowKit

theorem run_store1 {P : Program} {w : World} {g i : Nat} {ty t : TypeId} {cs : Array Value} {u : Value} (hg : Blk w g cs t) (hi : i < cs.size) (hs : (P.info? ty).map (·.size) = some 1) (hu : u.cells = #[u]) (h1 : u.oneCell' = true) :
    (storeVar ty ⟨g, i, none⟩ u).run P w = .ok () (w.setRow g (cs.setIfInBounds i u)) := by
  have hr := run_storeCells_at (P := P) g i t [u] 0 cs w hg (by simp; omega) (by simpa using h1)
  have e : (cs.toList.take (i + 0) ++ [u] ++ cs.toList.drop (i + 0 + [u].length)).toArray = cs.setIfInBounds i u := by
    apply Array.ext'
    rw [Array.toList_setIfInBounds, List.set_eq_take_append_cons_drop, if_pos (by simpa using hi)]
    simp
  rw [e] at hr
  cases hq : P.info? ty with
  | none => simp [hq] at hs
  | some it =>
    have hs1 : it.size = 1 := by simpa [hq] using hs
    simp [storeVar, sizeOf, typeInfo, hq, hu, hs1, hr]
theorem wp_store1 {P : Program} {o : Oper} {a : Act} {w : World} {K : Act → World → Prop} {Q : Exit → Act → World → Prop} (ty : TypeId) (x y : Operand) (ho : o.op = .store ty x y)
    (g i : Nat) (u : Value) (hx : a.eval x = .pointer (some ⟨g, i, none⟩)) (hy : a.eval y = u) (t : TypeId) (cs : Array Value) (hg : Blk w g cs t) (hi : i < cs.size) (hs : (P.info? ty).map (·.size) = some 1) (hu : u.cells = #[u]) (h1 : u.oneCell' = true)
    (h : ∀ w', Blk w' g (cs.setIfInBounds i u) t → w.grownBy w' (some g) → K (a.put o.dst undef) w') : o.wp P a w K Q := by
  have hr := run_store1 (P := P) (ty := ty) hg hi hs hu h1
  unfold Oper.wp execOp
  simp only [ho, hx, hy, Instr.storeAt, Instr.sureAddr, Sem.run_bind, Sem.run_pure, Result.andThen_ok, hr]
  exact h _ (hg.setRow _) (grown_row _ _ _)
theorem wpList_store1 {P : Program} {ops : Array Oper} {rest : List Oper} {o : Oper} {a : Act} {w : World} {Q : Exit → Act → World → Prop} (hgd : o.guard = none) (ty : TypeId) (x y : Operand) (ho : o.op = .store ty x y)
    (g i : Nat) (u : Value) (hx : a.eval x = .pointer (some ⟨g, i, none⟩)) (hy : a.eval y = u) (t : TypeId) (cs : Array Value) (hg : Blk w g cs t) (hi : i < cs.size) (hs : (P.info? ty).map (·.size) = some 1) (hu : u.cells = #[u]) (h1 : u.oneCell' = true)
    (h : ∀ w', Blk w' g (cs.setIfInBounds i u) t → w.grownBy w' (some g) → wpList P ops Q rest (a.put o.dst undef) w') : wpList P ops Q (o :: rest) a w :=
  wpList_plain hgd fun _ hK => wp_store1 ty x y ho g i u hx hy t cs hg hi hs hu h1 fun w' h2 h3 => hK _ _ (h w' h2 h3)
end Go.Proofs.YtjlpdbaknhbgdaaGreat
set_option linter.unusedSimpArgs false
set_option linter.unusedVariables false
namespace Go.Proofs.YtjlpdbaknhbgdaaGreat
open Go.RowKit

theorem Tryz.infoU8 : (Tryz.prog.info? 5).map (fun i => (i.zero, i.size, i.bytes)) = some (some (.int .u8 0), 1, 1) := by kernel_rfl
theorem Tryz.sizeA32 : (Tryz.prog.info? 22).map (·.size) = some 32 := by kernel_rfl
theorem Tryz.sizeHash : (Tryz.prog.info? 23).map (·.size) = some 32 := by kernel_rfl
theorem Tryz.zeroHash : (Tryz.prog.info? 23).bind (·.zero) = some (.agg Z32) := by kernel_rfl
end Go.Proofs.YtjlpdbaknhbgdaaGreat
set_option linter.unusedSimpArgs false
set_option linter.unusedVariables false
namespace Go.Proofs.YtjlpdbaknhbgdaaGreat
open Go.RowKit

theorem flat_len {α : Type} {cells : α → List Value} {size : Nat} : ∀ (l : List α), (∀ x ∈ l, (cells x).length = size) → (l.flatMap cells).length = l.length * size
  | [], _ => by simp
  | x :: l, h => by rw [List.flatMap_cons, List.length_append, h x List.mem_cons_self, flat_len l (fun y hy => h y (List.mem_cons_of_mem _ hy)), List.length_cons, Nat.succ_mul]; omega
theorem flat_take {α : Type} {cells : α → List Value} {size : Nat} (l : List α) (hl : ∀ x ∈ l, (cells x).length = size) (k : Nat) (hk : k ≤ l.length) : (l.take k).flatMap cells = (l.flatMap cells).take (k * size) := by
  have e0 : l.flatMap cells = (l.take k).flatMap cells ++ (l.drop k).flatMap cells := by rw [← List.flatMap_append, List.take_append_drop]
  have e : ((l.take k).flatMap cells).length = k * size := by rw [flat_len _ (fun x hx => hl x (List.mem_of_mem_take hx)), List.length_take, Nat.min_eq_left hk]
  rw [e0, List.take_append_of_le_length (by omega)]
  exact (List.take_of_length_le (by omega)).symm
theorem flat_drop {α : Type} {cells : α → List Value} {size : Nat} (l : List α) (hl : ∀ x ∈ l, (cells x).length = size) (k : Nat) (hk : k ≤ l.length) : (l.drop k).flatMap cells = (l.flatMap cells).drop (k * size) := by
  have e0 : l.flatMap cells = (l.take k).flatMap cells ++ (l.drop k).flatMap cells := by rw [← List.flatMap_append, List.take_append_drop]
  have e : ((l.take k).flatMap cells).length = k * size := by rw [flat_len _ (fun x hx => hl x (List.mem_of_mem_take hx)), List.length_take, Nat.min_eq_left hk]
  rw [e0, List.drop_append, e]
  simp [e]
theorem flat_set {α : Type} {cells : α → List Value} {size : Nat} (l : List α) (hl : ∀ x ∈ l, (cells x).length = size) (k : Nat) (hk : k < l.length) (x : α) : (l.set k x).flatMap cells = (l.flatMap cells).take (k * size) ++ (cells x ++ (l.flatMap cells).drop ((k + 1) * size)) := by
  rw [List.set_eq_take_append_cons_drop, if_pos hk, List.flatMap_append, List.flatMap_cons, flat_take l hl k (by omega), flat_drop l hl (k + 1) (by omega)]
end Go.Proofs.YtjlpdbaknhbgdaaGreat
set_option linter.unusedSimpArgs false
set_option linter.unusedVariables false
namespace Go.Proofs.YtjlpdbaknhbgdaaGreat
open Go.RowKit

section
variable {α : Type} {cells : α → List Value} {size : Nat}
/-- A slice of elements, read. -/
def RAt (cells : α → List Value) (w : World) (v : Value) (l : List α) : Prop :=
  (l = [] ∧ ∃ ao c, v = .slice ao 0 c) ∨ ∃ g o c, v = .slice (some ⟨g, o, none⟩) l.length c ∧ g < w.heap.size ∧ ∀ j u, (l.flatMap cells)[j]? = some u → w.cell? ⟨g, o + j, none⟩ = some u
theorem RAt.below {w w' : World} {v : Value} {l : List α} (h : RAt cells w v l) (b : Below w.heap.size w w') : RAt cells w' v l := by
  rcases h with h0 | ⟨g, o, c, rfl, hlt, hcell⟩
  · exact .inl h0
  · exact .inr ⟨g, o, c, rfl, Nat.lt_of_lt_of_le hlt b.size, fun j u hj => (b.cell (p := ⟨g, o + j, none⟩) hlt).trans (hcell j u hj)⟩
theorem RAt.slice {w : World} {v : Value} {l : List α} (h : RAt cells w v l) : ∃ ao c, v = .slice ao l.length c := by
  rcases h with ⟨rfl, ao, c, rfl⟩ | ⟨g, o, c, rfl, _⟩
  · exact ⟨_, _, rfl⟩
  · exact ⟨_, _, rfl⟩
theorem flatR_at (hs : ∀ x, (cells x).length = size) : ∀ (l : List α) (i : Nat) (s : α) (j : Nat), l[i]? = some s → j < size → (l.flatMap cells)[i * size + j]? = (cells s)[j]?
  | [], i, s, j, h, _ => by simp at h
  | t :: l, 0, s, j, h, hj => by
    obtain rfl : t = s := by simpa using h
    rw [List.flatMap_cons, List.getElem?_append_left (by rw [hs]; omega), Nat.zero_mul, Nat.zero_add]
  | t :: l, i + 1, s, j, h, hj => by
    rw [List.flatMap_cons, List.getElem?_append_right (by rw [hs, Nat.succ_mul]; omega), hs, show (i + 1) * size + j - size = i * size + j by rw [Nat.succ_mul]; omega]
    exact flatR_at hs l i s j (by simpa using h) hj
/-- Where element i lies. -/
theorem RAt.range (hs : ∀ x, (cells x).length = size) {w : World} {ao : Option Addr} {n c : Nat} {l : List α} (h : RAt cells w (.slice ao n c) l) (i : Nat) (s : α) (hi : l[i]? = some s) : ∃ g o, ao = some ⟨g, o, none⟩ ∧ w.rangeAt g (o + i * size) (cells s) := by
  rcases h with ⟨rfl, h0⟩ | ⟨g, o, c', he, hlt, hcell⟩
  · simp at hi
  · simp only [Value.slice.injEq] at he
    refine ⟨g, o, he.1, fun j u hj => ?_⟩
    have hj32 : j < size := by have := (List.getElem?_eq_some_iff.1 hj).1; rw [hs s] at this; exact this
    have := hcell (i * size + j) u (by rw [flatR_at hs l i s j hi hj32]; exact hj)
    rwa [show o + (i * size + j) = o + i * size + j by omega] at this
theorem RAt.range' (hs : ∀ x, (cells x).length = size) {w : World} {g o n c : Nat} {l : List α} (h : RAt cells w (.slice (some ⟨g, o, none⟩) n c) l) (i : Nat) (s : α) (hi : l[i]? = some s) : w.rangeAt g (o + i * size) (cells s) := by
  obtain ⟨g', o', he, hr⟩ := h.range hs i s hi
  simp only [Option.some.injEq, Addr.mk.injEq] at he
  obtain ⟨rfl, rfl, _⟩ := he
  exact hr
theorem RAt.lt {w : World} {g o n c : Nat} {l : List α} (h : RAt cells w (.slice (some ⟨g, o, none⟩) n c) l) (h0 : 0 < l.length) : g < w.heap.size := by
  rcases h with ⟨rfl, _⟩ | ⟨g', o', c', he, hlt, _⟩
  · simp at h0
  · simp only [Value.slice.injEq, Option.some.injEq, Addr.mk.injEq] at he
    rw [he.1.1]; exact hlt
theorem RAt.take (hs : ∀ x, (cells x).length = size) {w : World} {ao : Option Addr} {n c k : Nat} {l : List α} (h : RAt cells w (.slice ao n c) l) (hk : k ≤ l.length) : RAt cells w (.slice ao k c) (l.take k) := by
  rcases h with ⟨rfl, h0⟩ | ⟨g, o, c', he, hlt, hcell⟩
  · obtain rfl : k = 0 := by simpa using hk
    exact .inl ⟨rfl, _, _, rfl⟩
  · simp only [Value.slice.injEq] at he
    obtain ⟨rfl, _, rfl⟩ := he
    refine .inr ⟨g, o, c, by rw [List.length_take, Nat.min_eq_left hk], hlt, fun j u hj => hcell j u ?_⟩
    have hlt := (List.getElem?_eq_some_iff.1 hj).1
    rw [flat_take l (fun x _ => hs x) k hk] at hj hlt
    rw [List.length_take] at hlt
    rwa [List.getElem?_take_of_lt (by omega)] at hj
theorem RAt.drop (hs : ∀ x, (cells x).length = size) {w : World} {g o n c k c' : Nat} {l : List α} (h : RAt cells w (.slice (some ⟨g, o, none⟩) n c) l) (hk : k < l.length) : RAt cells w (.slice (some ⟨g, o + k * size, none⟩) (l.length - k) c') (l.drop k) := by
  rcases h with ⟨rfl, h0⟩ | ⟨g, o, c', he, hlt, hcell⟩
  · simp at hk
  · simp only [Value.slice.injEq, Option.some.injEq, Addr.mk.injEq] at he
    obtain ⟨⟨rfl, rfl, _⟩, _, rfl⟩ := he
    refine .inr ⟨_, _, _, by rw [List.length_drop], hlt, fun j u hj => ?_⟩
    rw [Nat.add_assoc]
    refine hcell _ u ?_
    rwa [flat_drop l (fun x _ => hs x) k (by omega), List.getElem?_drop] at hj
/-- A row of one's own. -/
def ROwn (cells : α → List Value) (size : Nat) (w : World) (base : Nat) (e : TypeId) (v : Value) (l : List α) : Prop := w.ownsRow base e size v l.length (l.flatMap cells)
theorem ROwn.below {w w' : World} {base : Nat} {e : TypeId} {v : Value} {l : List α} (h : ROwn cells size w base e v l) (b : Below w.heap.size w w') : ROwn cells size w' base e v l := own_below h b
theorem ROwn.drew {w : World} {base : Nat} {e : TypeId} {v : Value} {l : List α} (h : ROwn cells size w base e v l) : ROwn cells size w.drew base e v l := h.below (below_drewN (Below.refl _ _) 1)
theorem ROwn.kept {w w' : World} {base : Nat} {e : TypeId} {v : Value} {l : List α} {row : Option Nat} (h : ROwn cells size w base e v l) (gr : w.grownBy w' row) (hr : v.ownBlock = none ∨ v.ownBlock ≠ row) : ROwn cells size w' base e v l := World.ownsRow.kept h gr hr
theorem ROwn.lt {w : World} {base : Nat} {e : TypeId} {v : Value} {l : List α} (h : ROwn cells size w base e v l) : ∀ q, v.ownBlock = some q → base ≤ q ∧ q < w.heap.size := fun q hq => World.ownsRow.lt h q hq
theorem ROwn.nil (w : World) (base : Nat) (e : TypeId) : ROwn cells size w base e (.slice none 0 0) [] := World.ownsRow_nil _ _ _ _
theorem ROwn.slice {w : World} {base : Nat} {e : TypeId} {v : Value} {l : List α} (h : ROwn cells size w base e v l) : ∃ ao c, v = .slice ao l.length c := own_slice h
theorem ROwn.low {w : World} {b1 b2 : Nat} {e : TypeId} {v : Value} {l : List α} (h : ROwn cells size w b1 e v l) (hb : b2 ≤ b1) : ROwn cells size w b2 e v l :=
  ⟨h.1, h.2.imp id fun ⟨g, cap, cur, h1, h2, h3⟩ => ⟨g, cap, cur, h1, Nat.le_trans hb h2, h3⟩⟩
theorem ROwn.at {w : World} {base : Nat} {e : TypeId} {v : Value} {l : List α} (h : ROwn cells size w base e v l) : RAt cells w v l := by
  rcases h.2 with ⟨h0, h1⟩ | ⟨g, cap, cur, rfl, hb, hg, h1, h2, h3, h4⟩
  · exact .inl ⟨List.eq_nil_of_length_eq_zero h1, none, _, h0⟩
  · refine .inr ⟨g, 0, cap, rfl, lt_of_block hg, fun j u hj => ?_⟩
    have hlt : j < l.length * size := by
      have := (List.getElem?_eq_some_iff.1 hj).1
      rw [h.1] at this; exact this
    have e : (cur.toList.take (l.length * size))[j]? = some u := by rw [h4]; exact hj
    rw [List.getElem?_take_of_lt hlt] at e
    have : cur[j]? = some u := by simpa using e
    simp [World.cell?, hg, this]
theorem ROwn.cap {w : World} {base : Nat} {e : TypeId} {n c : Nat} {ao : Option Addr} {l : List α} (h : ROwn cells size w base e (.slice ao n c) l) : l.length ≤ c := by
  rcases h.2 with ⟨h0, h1⟩ | ⟨g, cap, cur, e1, hb, hg, h1, _⟩
  · injection h0 with _ h2 h3; omega
  · injection e1 with _ _ h3; omega
/-- A block of elements is a row that is read. -/
theorem RAt.blk {w : World} {q : Nat} {x : α} {t : TypeId} (h : Blk w q (cells x).toArray t) : RAt cells w (.slice (some ⟨q, 0, none⟩) 1 1) [x] :=
  .inr ⟨q, 0, 1, rfl, h.lt, fun j u hj => by
    rw [Nat.zero_add]
    refine h.cell j u ?_
    rw [List.flatMap_cons, List.flatMap_nil, List.append_nil] at hj
    rwa [List.getElem?_toArray]⟩
theorem RAt.drew {w : World} {v : Value} {l : List α} (h : RAt cells w v l) : RAt cells w.drew v l := h.below (below_drewN (Below.refl _ _) 1)
/-- append of a slice to a row of one's own. -/
theorem wp_append_R {P : Program} {o : Oper} {a : Act} {w : World} {K : Act → World → Prop} {Q : Exit → Act → World → Prop} (s x : Operand) (t : TypeId)
    (ho : o.op = .call { callee := .builtin .append, args := #[s, x], argTypes := #[t, t] }) (hs : ∀ x, (cells x).length = size) (h1 : ∀ x, ∀ u ∈ cells x, u.oneCell' = true) (base : Nat) (e : TypeId) (z : Value) (by' : Nat) (ht : P.underlying t = some (.slice e)) (hi : (P.info? e).map (fun i => (i.zero, i.size, i.bytes)) = some (some z, size, by')) (hzs : z.cells.size = size) (h0 : 0 < size) (hby : by' ≤ 1000000)
    (v : Value) (L L2 : List α) (hv : a.eval s = v) (hown : ROwn cells size w base e v L) (v2 : Value) (hx : a.eval x = v2) (h2 : RAt cells w v2 L2) (hnc : ∀ c, v2 = .slice none 0 c → c = 0) (hn : L.length + L2.length ≤ 1000000) (hbase : base ≤ w.heap.size)
    (hK : ∀ v' w', ROwn cells size w' base e v' (L ++ L2) → w.grownBy w' v.ownBlock → K (a.put o.dst v') w') : o.wp P a w K Q := by
  obtain ⟨i, hi1, hz, hsz, hby'⟩ := info_parts hi
  have e1 : (L ++ L2).flatMap cells = L.flatMap cells ++ L2.flatMap cells := by simp
  have hone : ∀ u ∈ L2.flatMap cells, u.oneCell' = true := fun u hu => by
    obtain ⟨q, _, hq⟩ := List.mem_flatMap.1 hu
    exact h1 q u hq
  have hbb : (L.length + L2.length) * by' ≤ 140737488355328 := Nat.le_trans (Nat.mul_le_mul hn hby) (by decide)
  rcases h2 with ⟨rfl, ao, c, rfl⟩ | ⟨g, o', c, rfl, hlt, hcell⟩
  · have hbb0 : (L.length + 0) * by' ≤ 140737488355328 := by simpa using hbb
    have hm0 : L.length + 0 ≤ maxLen := by simp at hn; unfold maxLen; omega
    cases ao with
    | none =>
      obtain rfl := hnc c rfl
      have hrun := run_append_owned_none (P := P) (w := w) base t o.type e i size ht hi1 v _ _ hown
      unfold Oper.wp
      simp [execOp, ho, resolve, invoke, builtin, hv, hx, hrun, Result.andThen]
      exact hK v w (by rw [List.append_nil]; exact hown) (World.grownBy.refl _ _)
    | some ad =>
      refine wp_append_own w s x t ho base e i z size by' ht hi1 hz hsz hby' hzs h0 v _ _ hv hown ad 0 c [] hx (by simp) (fun j u hj => by simp at hj) (fun u hu => by cases hu) hm0 hbb0 hbase fun v' w' g2 g3 _ => hK v' w' ?_ g3
      rw [List.append_nil] at g2 ⊢
      exact g2
  · refine wp_append_own w s x t ho base e i z size by' ht hi1 hz hsz hby' hzs h0 v _ _ hv hown ⟨g, o', none⟩ L2.length c (L2.flatMap cells) hx (by rw [flat_len _ (fun x _ => hs x)]) (fun j u hj => by rw [Addr.add_mid]; exact hcell j u hj) hone (by unfold maxLen; omega) hbb hbase fun v' w' g2 g3 _ => hK v' w' ?_ g3
    unfold ROwn
    rw [e1, List.length_append]
    exact g2
theorem wpList_append_R {P : Program} {ops : Array Oper} {rest : List Oper} {o : Oper} {a : Act} {w : World} {Q : Exit → Act → World → Prop} (hgd : o.guard = none) (s x : Operand) (t : TypeId)
    (ho : o.op = .call { callee := .builtin .append, args := #[s, x], argTypes := #[t, t] }) (hs : ∀ x, (cells x).length = size) (h1 : ∀ x, ∀ u ∈ cells x, u.oneCell' = true) (base : Nat) (e : TypeId) (z : Value) (by' : Nat) (ht : P.underlying t = some (.slice e)) (hi : (P.info? e).map (fun i => (i.zero, i.size, i.bytes)) = some (some z, size, by')) (hzs : z.cells.size = size) (h0 : 0 < size) (hby : by' ≤ 1000000)
    (v : Value) (L L2 : List α) (hv : a.eval s = v) (hown : ROwn cells size w base e v L) (v2 : Value) (hx : a.eval x = v2) (h2 : RAt cells w v2 L2) (hnc : ∀ c, v2 = .slice none 0 c → c = 0) (hn : L.length + L2.length ≤ 1000000) (hbase : base ≤ w.heap.size)
    (hK : ∀ v' w', ROwn cells size w' base e v' (L ++ L2) → w.grownBy w' v.ownBlock → wpList P ops Q rest (a.put o.dst v') w') : wpList P ops Q (o :: rest) a w :=
  wpList_plain hgd fun K hk => wp_append_R s x t ho hs h1 base e z by' ht hi hzs h0 hby v L L2 hv hown v2 hx h2 hnc hn hbase fun v' w' a1 a2 => hk _ _ (hK v' w' a1 a2)
end
theorem Elems.flat {α : Type} {cells : α → List Value} {size : Nat} {w : World} {ao : Option Addr} {n : Nat} {l : List α} (hs : ∀ x, (cells x).length = size) (h : Elems cells size w ao n l) (c : Nat) : RAt cells w (.slice ao n c) l := by
  rcases h.2 with h0 | ⟨b, off, rfl, hlt, hc⟩
  · subst h0
    exact .inl ⟨List.eq_nil_of_length_eq_zero h.1, _, _, rfl⟩
  · refine .inr ⟨b, off, c, by rw [h.1], hlt, fun j u hj => ?_⟩
    have hj2 := (List.getElem?_eq_some_iff.1 hj).1
    rw [flat_len l (fun x _ => hs x)] at hj2
    have hsz : 0 < size := by rcases Nat.eq_zero_or_pos size with e | e; rw [e] at hj2; omega; exact e
    have hi : j / size < l.length := (Nat.div_lt_iff_lt_mul hsz).2 hj2
    have hm : j % size < size := Nat.mod_lt _ hsz
    have e : j / size * size + j % size = j := by rw [Nat.mul_comm]; exact Nat.div_add_mod j size
    have := hc (j / size) hi (j % size) u (by rw [← flatR_at hs l (j / size) _ (j % size) (List.getElem?_eq_getElem hi) hm, e]; exact hj)
    rwa [Nat.add_assoc, e] at this
theorem RAt.elems {α : Type} {cells : α → List Value} {size : Nat} {w : World} {ao : Option Addr} {n c : Nat} {l : List α} (hs : ∀ x, (cells x).length = size) (h : RAt cells w (.slice ao n c) l) : Elems cells size w ao n l := by
  rcases h with ⟨rfl, ao', c', e⟩ | ⟨g, o, c', e, hlt, hcell⟩
  · simp only [Value.slice.injEq] at e
    exact ⟨by rw [e.2.1]; rfl, .inl e.2.1⟩
  · simp only [Value.slice.injEq] at e
    obtain ⟨rfl, rfl, rfl⟩ := e
    refine ⟨rfl, .inr ⟨g, o, rfl, hlt, fun i hi j u hj => ?_⟩⟩
    have hj2 : j < size := by have := (List.getElem?_eq_some_iff.1 hj).1; rwa [hs] at this
    have := hcell (i * size + j) u (by rw [flatR_at hs l i _ j (List.getElem?_eq_getElem hi) hj2]; exact hj)
    rwa [← Nat.add_assoc] at this
/-- One cell of a row of one's own set. -/
theorem own_set1 {P : Program} {w : World} {base : Nat} {e ty : TypeId} {size g n c j : Nat} {xs : List Value} {u : Value} (h : w.ownsRow base e size (.slice (some ⟨g, 0, none⟩) n c) n xs) (hj : j < n * size) (hs : (P.info? ty).map (·.size) = some 1) (hu : u.cells = #[u]) (h1 : u.oneCell' = true) :
    ∃ w', (storeVar ty ⟨g, j, none⟩ u).run P w = .ok () w' ∧ w'.ownsRow base e size (.slice (some ⟨g, 0, none⟩) n c) n (xs.set j u) ∧ w.grownBy w' (some g) := by
  rcases h.2 with ⟨h0, _⟩ | ⟨g', cap, cur, e1, hb, hg, hnc, hcm, hcs, htk⟩
  · injection h0 with h2; cases h2
  · injection e1 with e2 e3 e4
    simp only [Option.some.injEq, Addr.mk.injEq] at e2
    obtain ⟨rfl, -, -⟩ := e2
    subst e4
    have hle : n * size ≤ c * size := Nat.mul_le_mul_right _ hnc
    have hB : Blk w g cur e := hg
    refine ⟨_, run_store1 hB (by omega) hs hu h1, ⟨by rw [List.length_set]; exact h.1, .inr ⟨g, c, _, rfl, hb, hB.setRow _, hnc, hcm, by rw [Array.size_setIfInBounds]; exact hcs, ?_⟩⟩, grown_row _ _ _⟩
    rw [Array.toList_setIfInBounds, List.take_set, htk]
theorem wp_storeRow1 {P : Program} {o : Oper} {a : Act} {w : World} {K : Act → World → Prop} {Q : Exit → Act → World → Prop} (ty : TypeId) (x y : Operand) (ho : o.op = .store ty x y)
    (g j : Nat) (u : Value) (hx : a.eval x = .pointer (some ⟨g, j, none⟩)) (hy : a.eval y = u) (base : Nat) (e : TypeId) (size n c : Nat) (xs : List Value) (h : w.ownsRow base e size (.slice (some ⟨g, 0, none⟩) n c) n xs) (hj : j < n * size) (hs : (P.info? ty).map (·.size) = some 1) (hu : u.cells = #[u]) (h1 : u.oneCell' = true)
    (hK : ∀ w', w'.ownsRow base e size (.slice (some ⟨g, 0, none⟩) n c) n (xs.set j u) → w.grownBy w' (some g) → K (a.put o.dst undef) w') : o.wp P a w K Q := by
  obtain ⟨w', hr, h2, h3⟩ := own_set1 (P := P) (ty := ty) h hj hs hu h1
  unfold Oper.wp execOp
  simp only [ho, hx, hy, Instr.storeAt, Instr.sureAddr, Sem.run_bind, Sem.run_pure, Result.andThen_ok, hr]
  exact hK _ h2 h3
/-- A cell set in an element. -/
theorem flat_set1 {α : Type} {cells : α → List Value} {size : Nat} (hs : ∀ x, (cells x).length = size) (l : List α) (k j : Nat) (x y : α) (v : Value) (hk : l[k]? = some x) (hj : j < size) (hy : cells y = (cells x).set j v) : (l.flatMap cells).set (k * size + j) v = (l.set k y).flatMap cells := by
  obtain ⟨hk2, rfl⟩ := List.getElem?_eq_some_iff.1 hk
  have e := flat_set l (fun x _ => hs x) k hk2 (l[k])
  rw [List.set_getElem_self] at e
  rw [flat_set l (fun x _ => hs x) k hk2 y, hy]
  conv => lhs; rw [e]
  have hl : ((l.flatMap cells).take (k * size)).length = k * size := by
    rw [List.length_take, flat_len l (fun x _ => hs x)]
    exact Nat.min_eq_left (Nat.mul_le_mul_right _ (by omega))
  rw [List.set_append_right _ _ (by omega), hl, Nat.add_sub_cancel_left, List.set_append_left _ _ (by rw [hs]; exact hj)]
end Go.Proofs.YtjlpdbaknhbgdaaGreat
set_option linter.unusedSimpArgs false
set_option linter.unusedVariables false
namespace Go.Proofs.YtjlpdbaknhbgdaaGreat
open Go.RowKit

theorem wp_boxZ {P : Program} {o : Oper} {a : Act} {w : World} {K : Act → World → Prop} {Q : Exit → Act → World → Prop} (t : TypeId) (x : Operand) (ho : o.op = .box t x) (cs : Array Value) (hx : a.eval x = .agg cs)
    (h : ∀ g w', g = w.heap.size → w'.heap.size = g + 1 → Below w.heap.size w w' → Blk w' g cs t → K (a.put o.dst (.pointer (some ⟨g, 0, none⟩))) w') : o.wp P a w K Q := by
  unfold Oper.wp execOp
  simp [ho, hx, newVar, newRow, Value.cells, Result.andThen]
  exact h _ _ rfl (by simp) (below_alloc1 _ _) (Blk.new _ _ _)
end Go.Proofs.YtjlpdbaknhbgdaaGreat
set_option linter.unusedSimpArgs false
set_option linter.unusedVariables false
namespace Go.Proofs.YtjlpdbaknhbgdaaGreat
open Go.RowKit

/-- A slice literal of one element. -/
theorem wp_bsV {P : Program} {o : Oper} {a : Act} {w : World} {K : Act → World → Prop} {Q : Exit → Act → World → Prop} (t e : TypeId) (x : Operand) (ho : o.op = .buildSlice t 1 #[(0, x)])
    (u : Value) (hx : a.eval x = u) (hu : P.underlying t = some (.slice e)) (z : Value) (n : Nat) (hz : (P.info? e).map (fun i => (i.zero, i.size)) = some (some z, n)) (hn : u.cells.size = n) (h0 : 0 < n) (hb : n ≤ 16777216)
    (h : ∀ w', w'.heap.size = w.heap.size + 1 → Below w.heap.size w w' → Blk w' w.heap.size u.cells e → K (a.put o.dst (.slice (some ⟨w.heap.size, 0, none⟩) 1 1)) w') : o.wp P a w K Q := by
  cases hi : P.info? e with
  | none => simp [hi] at hz
  | some ie =>
    simp [hi] at hz
    obtain ⟨hz1, hz2⟩ := hz
    refine Go.wp_buildSlice t e 1 #[(0, x)] ho u.cells ie z hu hi hz1 (by rw [hz2]; omega) (by rw [hz2]; omega) ?_ (h _ (by simp) (below_alloc1 _ _) (Blk.new _ _ _))
    have e1 : (#[(0, x)].map fun (i, x) => (i, a.eval x)).toList = (([u].zipIdx 0).map fun x => (x.2, x.1)) := by simp [hx]
    rw [e1, hz2, Go.Great.fill_whole h0 [u] _ (by simp [hn]) (by simp)]
    simp
theorem wpList_bsV {P : Program} {ops : Array Oper} {rest : List Oper} {o : Oper} {a : Act} {w : World} {Q : Exit → Act → World → Prop} (hgd : o.guard = none) (t e : TypeId) (x : Operand) (ho : o.op = .buildSlice t 1 #[(0, x)])
    (u : Value) (hx : a.eval x = u) (hu : P.underlying t = some (.slice e)) (z : Value) (n : Nat) (hz : (P.info? e).map (fun i => (i.zero, i.size)) = some (some z, n)) (hn : u.cells.size = n) (h0 : 0 < n) (hb : n ≤ 16777216)
    (h : ∀ w', w'.heap.size = w.heap.size + 1 → Below w.heap.size w w' → Blk w' w.heap.size u.cells e → wpList P ops Q rest (a.put o.dst (.slice (some ⟨w.heap.size, 0, none⟩) 1 1)) w') : wpList P ops Q (o :: rest) a w :=
  wpList_plain hgd fun K hK => wp_bsV t e x ho u hx hu z n hz hn h0 hb fun w' a1 a2 a3 => hK _ _ (h w' a1 a2 a3)
theorem rows_apart {w : World} {b1 b2 n1 n2 s1 s2 : Nat} {e1 e2 : TypeId} {v1 v2 : Value} {x1 x2 : List Value} (h1 : w.ownsRow b1 e1 s1 v1 n1 x1) (h2 : w.ownsRow b2 e2 s2 v2 n2 x2) (he : e1 ≠ e2) : v1.ownBlock = none ∨ v1.ownBlock ≠ v2.ownBlock := by
  rcases h1.2 with ⟨h0, _⟩ | ⟨g, cap, cur, rfl, hb, hg, _⟩
  · left; rw [h0]; rfl
  · right
    rcases h2.2 with ⟨h0, _⟩ | ⟨g', cap', cur', rfl, hb', hg', _⟩
    · rw [h0]; intro e; cases e
    · intro e
      injection e with e
      have e2 : g = g' := e
      rw [e2, hg'] at hg
      injection hg with hg
      injection hg with _ hg
      exact he hg.symm
end Go.Proofs.YtjlpdbaknhbgdaaGreat
set_option linter.unusedSimpArgs false
set_option linter.unusedVariables false
namespace Go.Proofs.YtjlpdbaknhbgdaaGreat
open Go.RowKit

theorem wp_bsN {P : Program} {o : Oper} {a : Act} {w : World} {K : Act → World → Prop} {Q : Exit → Act → World → Prop} (t e : TypeId) (k : Nat) (parts : Array (Nat × Operand)) (ho : o.op = .buildSlice t k parts)
    (us : List Value) (hp : (parts.toList.map fun p => (p.1, a.eval p.2)) = ((us.zipIdx 0).map fun x => (x.2, x.1))) (hk : us.length = k) (hu : P.underlying t = some (.slice e)) (z : Value) (n : Nat) (hz : (P.info? e).map (fun i => (i.zero, i.size)) = some (some z, n)) (hn : ∀ u ∈ us, u.cells.size = n) (h0 : 0 < n) (hk0 : 0 < k) (hb : k * n ≤ 16777216)
    (h : ∀ w', w'.heap.size = w.heap.size + 1 → Below w.heap.size w w' → Blk w' w.heap.size (us.flatMap fun v => v.cells.toList).toArray e → K (a.put o.dst (.slice (some ⟨w.heap.size, 0, none⟩) k k)) w') : o.wp P a w K Q := by
  cases hi : P.info? e with
  | none => simp [hi] at hz
  | some ie =>
    simp [hi] at hz
    obtain ⟨hz1, hz2⟩ := hz
    have hkn : 0 < k * n := Nat.mul_pos hk0 h0
    refine Go.wp_buildSlice t e k parts ho (us.flatMap fun v => v.cells.toList).toArray ie z hu hi hz1 (by rw [hz2]; omega) (by rw [hz2]; omega) ?_ (h _ (by simp) (below_alloc1 _ _) (Blk.new _ _ _))
    rw [Array.toList_map]
    refine (congrArg (Instr.fill (fun i => some (i * ie.size, ie.size)) ((Array.range (k * ie.size)).map (z.cells[· % z.cells.size]!))) hp).trans ?_
    rw [hz2, Go.Great.fill_whole h0 us _ hn (by simp [hk])]
theorem wpList_bsN {P : Program} {ops : Array Oper} {rest : List Oper} {o : Oper} {a : Act} {w : World} {Q : Exit → Act → World → Prop} (hgd : o.guard = none) (t e : TypeId) (k : Nat) (parts : Array (Nat × Operand)) (ho : o.op = .buildSlice t k parts)
    (us : List Value) (hp : (parts.toList.map fun p => (p.1, a.eval p.2)) = ((us.zipIdx 0).map fun x => (x.2, x.1))) (hk : us.length = k) (hu : P.underlying t = some (.slice e)) (z : Value) (n : Nat) (hz : (P.info? e).map (fun i => (i.zero, i.size)) = some (some z, n)) (hn : ∀ u ∈ us, u.cells.size = n) (h0 : 0 < n) (hk0 : 0 < k) (hb : k * n ≤ 16777216)
    (h : ∀ w', w'.heap.size = w.heap.size + 1 → Below w.heap.size w w' → Blk w' w.heap.size (us.flatMap fun v => v.cells.toList).toArray e → wpList P ops Q rest (a.put o.dst (.slice (some ⟨w.heap.size, 0, none⟩) k k)) w') : wpList P ops Q (o :: rest) a w :=
  wpList_plain hgd fun K hK => wp_bsN t e k parts ho us hp hk hu z n hz hn h0 hk0 hb fun w' a1 a2 a3 => hK _ _ (h w' a1 a2 a3)
end Go.Proofs.YtjlpdbaknhbgdaaGreat
