/-
  A slice of bytes of the call's own, made by a conversion or grown by append: one more byte is put behind. No program here.
-/
import Derived.Test.YtnfegmcdljejnaaLaws
import Derived.ArgAppend
import Derived.Lib.ConvBytes
import Derived.Deep.MidRow
set_option linter.unusedSimpArgs false
set_option linter.unusedVariables false
namespace Go.Proofs.Ytnfegmcdljejnaa
open Go.RowKit

/-- The slice v holds the bytes bs, in a block from base on that nobody else has; no cell of it is frozen. -/
def OwnM (base : Nat) (e : TypeId) (w : World) (v : Value) (bs : List UInt8) : Prop :=
  ∃ (g cap : Nat) (cur : Array Value) (fr : Nat × Nat), v = .slice (some ⟨g, 0, none⟩) bs.length cap ∧ base ≤ g ∧ w.heap[g]? = some (.cells cur e fr) ∧ cur.toList.take bs.length = bs.map bv ∧ bs.length ≤ cap ∧ cap = cur.size ∧ ∀ j, j < cap → ¬ (fr.1 ≤ j ∧ j < fr.2)

theorem OwnM.kept {base : Nat} {e : TypeId} {w w' : World} {v : Value} {bs : List UInt8} (h : OwnM base e w v bs) (hk : ∀ k, base ≤ k → k < w.heap.size → v.ownBlock = some k → w'.heap[k]? = w.heap[k]?) : OwnM base e w' v bs := by
  obtain ⟨g, cap, cur, fr, rfl, hb, hg, h1, h2, h3, h4⟩ := h
  exact ⟨g, cap, cur, fr, rfl, hb, by rw [hk g hb (lt_of_block hg) rfl]; exact hg, h1, h2, h3, h4⟩
theorem OwnM.alloc {base : Nat} {e : TypeId} {w : World} {v : Value} {bs : List UInt8} (h : OwnM base e w v bs) (o : Obj) : OwnM base e (w.alloc o) v bs :=
  h.kept fun k _ hk _ => Below.heap_alloc _ _ _ hk
theorem OwnM.grown {base : Nat} {e : TypeId} {w w' : World} {v : Value} {bs : List UInt8} {row : Option Nat} (h : OwnM base e w v bs) (hg : w.grownBy w' row) (hr : ∀ k, row = some k → v.ownBlock ≠ some k) : OwnM base e w' v bs :=
  h.kept fun k _ hk hv => hg.block k hk (fun e2 => hr k e2.symm hv)
theorem OwnM.lt {base : Nat} {e : TypeId} {w : World} {v : Value} {bs : List UInt8} (h : OwnM base e w v bs) (k : Nat) (hk : v.ownBlock = some k) : base ≤ k ∧ k < w.heap.size := by
  obtain ⟨g, cap, cur, fr, rfl, hb, hg, _⟩ := h
  simp [Value.ownBlock] at hk
  subst hk
  exact ⟨hb, lt_of_block hg⟩
/-- What is read of it. -/
theorem OwnM.read {base : Nat} {e : TypeId} {w : World} {v : Value} {bs : List UInt8} (h : OwnM base e w v bs) : ∃ g cap, v = .slice (some ⟨g, 0, none⟩) bs.length cap ∧ base ≤ g ∧ g < w.heap.size ∧ bs.length ≤ cap ∧ ∀ j (hj : j < bs.length), w.cell? ⟨g, j, none⟩ = some (bv bs[j]) := by
  obtain ⟨g, cap, cur, fr, rfl, hb, hg, h1, h2, h3, h4⟩ := h
  refine ⟨g, cap, rfl, hb, lt_of_block hg, h2, fun j hj => ?_⟩
  have e1 : (cur.toList.take bs.length)[j]? = (bs.map bv)[j]? := by rw [h1]
  rw [List.getElem?_take_of_lt hj] at e1
  have : cur[j]? = some (bv bs[j]) := by simpa [hj] using e1
  simp [World.cell?, hg, this]
/-- What a conversion makes. -/
theorem OwnM.conv (w : World) (e : TypeId) (l : List UInt8) : OwnM w.heap.size e (Lib.bytesWorld w e (str l)) (.slice (some ⟨w.heap.size, 0, none⟩) (str l).size (grownCap w (str l).size 0 e)) l := by
  have hge := grownCap_ge w (str l).size 0 e
  have hs : (Lib.bytesCells w e (str l)).size = grownCap w (str l).size 0 e := by
    simp only [Lib.bytesCells, Array.size_append, Array.size_map, Array.size_replicate]
    rw [show (str l).data.size = (str l).size from rfl]; omega
  refine ⟨w.heap.size, _, _, _, by rw [str_size], Nat.le_refl _, Lib.bytesWorld_at_new w e (str l), ?_, by rw [str_size] at hge ⊢; exact hge, hs.symm, fun j hj => by rw [hs]; simp; omega⟩
  simp only [Lib.bytesCells, Array.toList_append, Array.toList_map]
  rw [str_data, List.take_append_of_le_length (by simp), List.take_of_length_le (by simp)]
  rfl
theorem OwnM.conv_below (w : World) (e : TypeId) (l : List UInt8) : Below w.heap.size w (Lib.bytesWorld w e (str l)) := by
  refine ⟨rfl, rfl, rfl, by rw [Lib.bytesWorld_size]; omega, fun k hk => Lib.bytesWorld_at_old w e (str l) k hk⟩

/-- One byte more. -/
theorem wpList_append_byte {P : Program} (w : World) {ops : Array Oper} {rest : List Oper} {o : Oper} {a : Act} {Q : Exit → Act → World → Prop}
    (hg : o.guard = none) (s x : Operand) (t : TypeId) (hop : o.op = Op.call { callee := Callee.builtin Builtin.append, args := #[s, x], argTypes := #[t, t] })
    (e : TypeId) (i : TypeInfo) (z : Value) (h1 : P.underlying t = some (.slice e)) (h2 : P.info? e = some i) (h3 : i.zero = some z) (h4 : i.size = 1) (h5 : i.bytes = 1) (h6 : z.cells.size = 1)
    (base : Nat) (v : Value) (bs : List UInt8) (hs : a.eval s = v) (hown : OwnM base e w v bs) (hlen : bs.length ≤ 1099511627776) (hbase : base ≤ w.heap.size)
    (N c : Nat) (b : UInt8) (hx : a.eval x = .slice (some ⟨N, 0, none⟩) 1 c) (hc : w.cell? ⟨N, 0, none⟩ = some (bv b))
    (h : ∀ v' w', OwnM base e w' v' (bs ++ [b]) → w.grownBy w' v.ownBlock → wpList P ops Q rest (a.put o.dst v') w') : wpList P ops Q (o :: rest) a w := by
  have hr := hown.read
  obtain ⟨g, cap, cur, fr, rfl, hb, hgg, e1, e2, e3, e4⟩ := hown
  obtain ⟨g', cap', he, _, _, _, hcell⟩ := hr
  have hg' : g = g' := by have h0 := congrArg Value.ownBlock he; simpa [Value.ownBlock] using h0
  subst hg'
  refine wpList_append_arg w hg s x t hop e i z 1 1 h1 h2 h3 h4 h5 h6 (by omega) g 0 bs.length cap (bs.map bv) hs (by simp) ?_ ⟨N, 0, none⟩ 1 c [bv b] hx rfl ?_ (by intro u hu; simp at hu; subst hu; rfl) ?_ (by unfold maxLen; omega) (by omega) ?_ ?_
  · intro j u hu
    have hj : j < bs.length := by have := (List.getElem?_eq_some_iff.1 hu).1; simpa using this
    rw [Nat.zero_add, hcell j hj]
    rw [List.getElem?_map, List.getElem?_eq_getElem hj] at hu
    simpa using hu
  · intro j u hu
    have hj : j = 0 := by have := (List.getElem?_eq_some_iff.1 hu).1; simp at this; omega
    subst hj
    simp at hu
    subst hu
    rw [Addr.add_mid]
    exact hc
  · intro hle j hj
    have hj0 : j = 0 := by simp at hj; omega
    subst hj0
    have hlt : bs.length < cur.size := by omega
    refine ⟨?_, ?_⟩
    · simp [World.cell?, hgg, hlt]
    · have := e4 bs.length (by omega)
      simp only [World.frozen?, hgg]
      simp
      omega
  · intro hle
    have hlt : bs.length < cur.size := by omega
    have hset : w.setCells g (0 + bs.length * 1) [bv b] = w.setCell ⟨g, bs.length, none⟩ (bv b) := by simp [World.setCells]
    rw [hset]
    refine h _ _ ⟨g, cap, cur.setIfInBounds bs.length (bv b), fr, by simp, hb, ?_, ?_, by simp; omega, by simpa using e3, e4⟩ (grown_set (World.grownBy.refl _ _) _ _)
    · show (w.heap.modify g _)[g]? = _
      have hl := lt_of_block hgg
      rw [Array.getElem?_eq_getElem (by simpa using hl), Array.getElem_modify_self]
      have h' : w.heap[g] = .cells cur e fr := by simpa [Array.getElem?_eq_getElem hl] using hgg
      rw [h']; rfl
    · rw [Array.toList_setIfInBounds, List.length_append, List.length_singleton, List.map_append, ← e1]
      rw [List.take_succ_eq_append_getElem (by simp; omega), List.getElem_set_self, List.take_set_of_le (by omega)]
      rfl
  · intro hgt v' w' hown' hgr
    obtain ⟨hlen', hown'⟩ := hown'
    rcases hown' with ⟨_, h0⟩ | ⟨g2, cap2, cur2, rfl, hb2, hg2, hn2, hm2, hs2, ht2⟩
    · omega
    · refine h _ _ ⟨g2, cap2, cur2, (0, 0), by simp, by omega, hg2, ?_, by simp; omega, by omega, by simp⟩ ⟨hgr.os, hgr.tape, hgr.output, hgr.size, fun k hk _ => hgr.block k hk (by simp)⟩
      rw [Nat.mul_one] at ht2
      rw [List.length_append, List.length_singleton, ht2, List.map_append]; rfl
end Go.Proofs.Ytnfegmcdljejnaa
