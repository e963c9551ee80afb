/-
  Rows of whatever elements; epochs (Known) as they lie in memory; the law's argument read.
-/
import Derived.Test.YtodnmhflafpefaaOwnSet
import Derived.Test.YtodnmhflafpefaaBookHash
import Derived.Test.YtodnmhflafpefaaBookOpen
import Derived.Test.YtodnmhflafpefaaBookClone
import Derived.Laws.AppendOwnNone
import Derived.Test.YtodnmhflafpefaaRd
set_option linter.unusedSimpArgs false
set_option linter.unusedVariables false
namespace Go.Proofs.Ytodnmhflafpefaa
open Go.RowKit

section
variable {α : Type} {cells : α → List Value} {size : Nat}
/-- A slice of elements, read. -/
def RAt (cells : α → List Value) (w : World) (v : Value) (l : List α) : Prop :=
  (l = [] ∧ ∃ ao c, v = .slice ao 0 c) ∨ ∃ g o c, v = .slice (some ⟨g, o, none⟩) l.length c ∧ g < w.heap.size ∧ ∀ j u, (l.flatMap cells)[j]? = some u → w.cell? ⟨g, o + j, none⟩ = some u
theorem RAt.below {w w' : World} {v : Value} {l : List α} (h : RAt cells w v l) (b : Below w.heap.size w w') : RAt cells w' v l := by
  rcases h with h0 | ⟨g, o, c, rfl, hlt, hcell⟩
  · exact .inl h0
  · exact .inr ⟨g, o, c, rfl, Nat.lt_of_lt_of_le hlt b.size, fun j u hj => (b.cell (p := ⟨g, o + j, none⟩) hlt).trans (hcell j u hj)⟩
theorem RAt.slice {w : World} {v : Value} {l : List α} (h : RAt cells w v l) : ∃ ao c, v = .slice ao l.length c := by
  rcases h with ⟨rfl, ao, c, rfl⟩ | ⟨g, o, c, rfl, _⟩
  · exact ⟨_, _, rfl⟩
  · exact ⟨_, _, rfl⟩
theorem flat_at (hs : ∀ x, (cells x).length = size) : ∀ (l : List α) (i : Nat) (s : α) (j : Nat), l[i]? = some s → j < size → (l.flatMap cells)[i * size + j]? = (cells s)[j]?
  | [], i, s, j, h, _ => by simp at h
  | t :: l, 0, s, j, h, hj => by
    obtain rfl : t = s := by simpa using h
    rw [List.flatMap_cons, List.getElem?_append_left (by rw [hs]; omega), Nat.zero_mul, Nat.zero_add]
  | t :: l, i + 1, s, j, h, hj => by
    rw [List.flatMap_cons, List.getElem?_append_right (by rw [hs, Nat.succ_mul]; omega), hs, show (i + 1) * size + j - size = i * size + j by rw [Nat.succ_mul]; omega]
    exact flat_at hs l i s j (by simpa using h) hj
/-- Where element i lies. -/
theorem RAt.range (hs : ∀ x, (cells x).length = size) {w : World} {ao : Option Addr} {n c : Nat} {l : List α} (h : RAt cells w (.slice ao n c) l) (i : Nat) (s : α) (hi : l[i]? = some s) : ∃ g o, ao = some ⟨g, o, none⟩ ∧ w.rangeAt g (o + i * size) (cells s) := by
  rcases h with ⟨rfl, h0⟩ | ⟨g, o, c', he, hlt, hcell⟩
  · simp at hi
  · simp only [Value.slice.injEq] at he
    refine ⟨g, o, he.1, fun j u hj => ?_⟩
    have hj32 : j < size := by have := (List.getElem?_eq_some_iff.1 hj).1; rw [hs s] at this; exact this
    have := hcell (i * size + j) u (by rw [flat_at hs l i s j hi hj32]; exact hj)
    rwa [show o + (i * size + j) = o + i * size + j by omega] at this
theorem RAt.range' (hs : ∀ x, (cells x).length = size) {w : World} {g o n c : Nat} {l : List α} (h : RAt cells w (.slice (some ⟨g, o, none⟩) n c) l) (i : Nat) (s : α) (hi : l[i]? = some s) : w.rangeAt g (o + i * size) (cells s) := by
  obtain ⟨g', o', he, hr⟩ := h.range hs i s hi
  simp only [Option.some.injEq, Addr.mk.injEq] at he
  obtain ⟨rfl, rfl, _⟩ := he
  exact hr
theorem RAt.lt {w : World} {g o n c : Nat} {l : List α} (h : RAt cells w (.slice (some ⟨g, o, none⟩) n c) l) (h0 : 0 < l.length) : g < w.heap.size := by
  rcases h with ⟨rfl, _⟩ | ⟨g', o', c', he, hlt, _⟩
  · simp at h0
  · simp only [Value.slice.injEq, Option.some.injEq, Addr.mk.injEq] at he
    rw [he.1.1]; exact hlt
theorem RAt.take (hs : ∀ x, (cells x).length = size) {w : World} {ao : Option Addr} {n c k : Nat} {l : List α} (h : RAt cells w (.slice ao n c) l) (hk : k ≤ l.length) : RAt cells w (.slice ao k c) (l.take k) := by
  rcases h with ⟨rfl, h0⟩ | ⟨g, o, c', he, hlt, hcell⟩
  · obtain rfl : k = 0 := by simpa using hk
    exact .inl ⟨rfl, _, _, rfl⟩
  · simp only [Value.slice.injEq] at he
    obtain ⟨rfl, _, rfl⟩ := he
    refine .inr ⟨g, o, c, by rw [List.length_take, Nat.min_eq_left hk], hlt, fun j u hj => hcell j u ?_⟩
    have hlt := (List.getElem?_eq_some_iff.1 hj).1
    rw [flat_take l (fun x _ => hs x) k hk] at hj hlt
    rw [List.length_take] at hlt
    rwa [List.getElem?_take_of_lt (by omega)] at hj
theorem RAt.drop (hs : ∀ x, (cells x).length = size) {w : World} {g o n c k c' : Nat} {l : List α} (h : RAt cells w (.slice (some ⟨g, o, none⟩) n c) l) (hk : k < l.length) : RAt cells w (.slice (some ⟨g, o + k * size, none⟩) (l.length - k) c') (l.drop k) := by
  rcases h with ⟨rfl, h0⟩ | ⟨g, o, c', he, hlt, hcell⟩
  · simp at hk
  · simp only [Value.slice.injEq, Option.some.injEq, Addr.mk.injEq] at he
    obtain ⟨⟨rfl, rfl, _⟩, _, rfl⟩ := he
    refine .inr ⟨_, _, _, by rw [List.length_drop], hlt, fun j u hj => ?_⟩
    rw [Nat.add_assoc]
    refine hcell _ u ?_
    rwa [flat_drop l (fun x _ => hs x) k (by omega), List.getElem?_drop] at hj
/-- A row of one's own. -/
def ROwn (cells : α → List Value) (size : Nat) (w : World) (base : Nat) (e : TypeId) (v : Value) (l : List α) : Prop := w.ownsRow base e size v l.length (l.flatMap cells)
theorem ROwn.below {w w' : World} {base : Nat} {e : TypeId} {v : Value} {l : List α} (h : ROwn cells size w base e v l) (b : Below w.heap.size w w') : ROwn cells size w' base e v l := own_below h b
theorem ROwn.drew {w : World} {base : Nat} {e : TypeId} {v : Value} {l : List α} (h : ROwn cells size w base e v l) : ROwn cells size w.drew base e v l := h.below (below_drewN (Below.refl _ _) 1)
theorem ROwn.kept {w w' : World} {base : Nat} {e : TypeId} {v : Value} {l : List α} {row : Option Nat} (h : ROwn cells size w base e v l) (gr : w.grownBy w' row) (hr : v.ownBlock = none ∨ v.ownBlock ≠ row) : ROwn cells size w' base e v l := World.ownsRow.kept h gr hr
theorem ROwn.lt {w : World} {base : Nat} {e : TypeId} {v : Value} {l : List α} (h : ROwn cells size w base e v l) : ∀ q, v.ownBlock = some q → base ≤ q ∧ q < w.heap.size := fun q hq => World.ownsRow.lt h q hq
theorem ROwn.nil (w : World) (base : Nat) (e : TypeId) : ROwn cells size w base e (.slice none 0 0) [] := World.ownsRow_nil _ _ _ _
theorem ROwn.slice {w : World} {base : Nat} {e : TypeId} {v : Value} {l : List α} (h : ROwn cells size w base e v l) : ∃ ao c, v = .slice ao l.length c := own_slice h
theorem ROwn.low {w : World} {b1 b2 : Nat} {e : TypeId} {v : Value} {l : List α} (h : ROwn cells size w b1 e v l) (hb : b2 ≤ b1) : ROwn cells size w b2 e v l :=
  ⟨h.1, h.2.imp id fun ⟨g, cap, cur, h1, h2, h3⟩ => ⟨g, cap, cur, h1, Nat.le_trans hb h2, h3⟩⟩
theorem ROwn.at {w : World} {base : Nat} {e : TypeId} {v : Value} {l : List α} (h : ROwn cells size w base e v l) : RAt cells w v l := by
  rcases h.2 with ⟨h0, h1⟩ | ⟨g, cap, cur, rfl, hb, hg, h1, h2, h3, h4⟩
  · exact .inl ⟨List.eq_nil_of_length_eq_zero h1, none, _, h0⟩
  · refine .inr ⟨g, 0, cap, rfl, lt_of_block hg, fun j u hj => ?_⟩
    have hlt : j < l.length * size := by
      have := (List.getElem?_eq_some_iff.1 hj).1
      rw [h.1] at this; exact this
    have e : (cur.toList.take (l.length * size))[j]? = some u := by rw [h4]; exact hj
    rw [List.getElem?_take_of_lt hlt] at e
    have : cur[j]? = some u := by simpa using e
    simp [World.cell?, hg, this]
theorem ROwn.cap {w : World} {base : Nat} {e : TypeId} {n c : Nat} {ao : Option Addr} {l : List α} (h : ROwn cells size w base e (.slice ao n c) l) : l.length ≤ c := by
  rcases h.2 with ⟨h0, h1⟩ | ⟨g, cap, cur, e1, hb, hg, h1, _⟩
  · injection h0 with _ h2 h3; omega
  · injection e1 with _ _ h3; omega
/-- A block of elements is a row that is read. -/
theorem RAt.blk {w : World} {q : Nat} {x : α} {t : TypeId} (h : Blk w q (cells x).toArray t) : RAt cells w (.slice (some ⟨q, 0, none⟩) 1 1) [x] :=
  .inr ⟨q, 0, 1, rfl, h.lt, fun j u hj => by
    rw [Nat.zero_add]
    refine h.cell j u ?_
    rw [List.flatMap_cons, List.flatMap_nil, List.append_nil] at hj
    rwa [List.getElem?_toArray]⟩
theorem RAt.drew {w : World} {v : Value} {l : List α} (h : RAt cells w v l) : RAt cells w.drew v l := h.below (below_drewN (Below.refl _ _) 1)
/-- append of a slice to a row of one's own. -/
theorem wp_append_R {P : Program} {o : Oper} {a : Act} {w : World} {K : Act → World → Prop} {Q : Exit → Act → World → Prop} (s x : Operand) (t : TypeId)
    (ho : o.op = .call { callee := .builtin .append, args := #[s, x], argTypes := #[t, t] }) (hs : ∀ x, (cells x).length = size) (h1 : ∀ x, ∀ u ∈ cells x, u.oneCell' = true) (base : Nat) (e : TypeId) (z : Value) (by' : Nat) (ht : P.underlying t = some (.slice e)) (hi : (P.info? e).map (fun i => (i.zero, i.size, i.bytes)) = some (some z, size, by')) (hzs : z.cells.size = size) (h0 : 0 < size) (hby : by' ≤ 1000000)
    (v : Value) (L L2 : List α) (hv : a.eval s = v) (hown : ROwn cells size w base e v L) (v2 : Value) (hx : a.eval x = v2) (h2 : RAt cells w v2 L2) (hnc : ∀ c, v2 = .slice none 0 c → c = 0) (hn : L.length + L2.length ≤ 1000000) (hbase : base ≤ w.heap.size)
    (hK : ∀ v' w', ROwn cells size w' base e v' (L ++ L2) → w.grownBy w' v.ownBlock → K (a.put o.dst v') w') : o.wp P a w K Q := by
  obtain ⟨i, hi1, hz, hsz, hby'⟩ := info_parts hi
  have e1 : (L ++ L2).flatMap cells = L.flatMap cells ++ L2.flatMap cells := by simp
  have hone : ∀ u ∈ L2.flatMap cells, u.oneCell' = true := fun u hu => by
    obtain ⟨q, _, hq⟩ := List.mem_flatMap.1 hu
    exact h1 q u hq
  have hbb : (L.length + L2.length) * by' ≤ 140737488355328 := Nat.le_trans (Nat.mul_le_mul hn hby) (by decide)
  rcases h2 with ⟨rfl, ao, c, rfl⟩ | ⟨g, o', c, rfl, hlt, hcell⟩
  · have hbb0 : (L.length + 0) * by' ≤ 140737488355328 := by simpa using hbb
    have hm0 : L.length + 0 ≤ maxLen := by simp at hn; unfold maxLen; omega
    cases ao with
    | none =>
      obtain rfl := hnc c rfl
      have hrun := run_append_owned_none (P := P) (w := w) base t o.type e i size ht hi1 v _ _ hown
      unfold Oper.wp
      simp [execOp, ho, resolve, invoke, builtin, hv, hx, hrun, Result.andThen]
      exact hK v w (by rw [List.append_nil]; exact hown) (World.grownBy.refl _ _)
    | some ad =>
      refine wp_append_own w s x t ho base e i z size by' ht hi1 hz hsz hby' hzs h0 v _ _ hv hown ad 0 c [] hx (by simp) (fun j u hj => by simp at hj) (fun u hu => by cases hu) hm0 hbb0 hbase fun v' w' g2 g3 _ => hK v' w' ?_ g3
      rw [List.append_nil] at g2 ⊢
      exact g2
  · refine wp_append_own w s x t ho base e i z size by' ht hi1 hz hsz hby' hzs h0 v _ _ hv hown ⟨g, o', none⟩ L2.length c (L2.flatMap cells) hx (by rw [flat_len _ (fun x _ => hs x)]) (fun j u hj => by rw [Addr.add_mid]; exact hcell j u hj) hone (by unfold maxLen; omega) hbb hbase fun v' w' g2 g3 _ => hK v' w' ?_ g3
    unfold ROwn
    rw [e1, List.length_append]
    exact g2
theorem wpList_append_R {P : Program} {ops : Array Oper} {rest : List Oper} {o : Oper} {a : Act} {w : World} {Q : Exit → Act → World → Prop} (hgd : o.guard = none) (s x : Operand) (t : TypeId)
    (ho : o.op = .call { callee := .builtin .append, args := #[s, x], argTypes := #[t, t] }) (hs : ∀ x, (cells x).length = size) (h1 : ∀ x, ∀ u ∈ cells x, u.oneCell' = true) (base : Nat) (e : TypeId) (z : Value) (by' : Nat) (ht : P.underlying t = some (.slice e)) (hi : (P.info? e).map (fun i => (i.zero, i.size, i.bytes)) = some (some z, size, by')) (hzs : z.cells.size = size) (h0 : 0 < size) (hby : by' ≤ 1000000)
    (v : Value) (L L2 : List α) (hv : a.eval s = v) (hown : ROwn cells size w base e v L) (v2 : Value) (hx : a.eval x = v2) (h2 : RAt cells w v2 L2) (hnc : ∀ c, v2 = .slice none 0 c → c = 0) (hn : L.length + L2.length ≤ 1000000) (hbase : base ≤ w.heap.size)
    (hK : ∀ v' w', ROwn cells size w' base e v' (L ++ L2) → w.grownBy w' v.ownBlock → wpList P ops Q rest (a.put o.dst v') w') : wpList P ops Q (o :: rest) a w :=
  wpList_plain hgd fun K hk => wp_append_R s x t ho hs h1 base e z by' ht hi hzs h0 hby v L L2 hv hown v2 hx h2 hnc hn hbase fun v' w' a1 a2 => hk _ _ (hK v' w' a1 a2)
end
/-- An epoch that somebody has. -/
structure Kn where
  h : HsT
  d : Int
  s : List UInt8
  hh : h.length = 32
  hs : s.length ≤ maxLen
instance : Inhabited Kn := ⟨⟨List.replicate 32 0, 0, [], by simp, by simp⟩⟩
def Kn.cells (c : Kn) : List Value := c.h.map bv ++ [.int .i64 c.d, .string (str c.s)]
theorem Kn.cells_len (c : Kn) : c.cells.length = 34 := by simp [Kn.cells, c.hh]
theorem Kn.one (c : Kn) : ∀ u ∈ c.cells, u.oneCell' = true := by
  intro u hu
  rcases List.mem_append.1 hu with h | h
  · exact bs_one c.h u h
  · simp at h
    rcases h with rfl | rfl <;> rfl
abbrev KnAt := RAt Kn.cells
abbrev KnOwn := ROwn Kn.cells 34
section
variable {w : World} {g o : Nat} {c : Kn}
theorem kn_h (h : w.rangeAt g o c.cells) : w.rangeAt g o (c.h.map bv) := fun j u hj => by
  have hlt : j < c.h.length := by have := (List.getElem?_eq_some_iff.1 hj).1; simpa using this
  exact h j u (by rw [Kn.cells, List.getElem?_append_left (by simpa using hlt)]; exact hj)
theorem kn_d (h : w.rangeAt g o c.cells) : w.cell? ⟨g, o + 32, none⟩ = some (.int .i64 c.d) := h 32 _ (by
  rw [Kn.cells, List.getElem?_append_right (by simp [c.hh]), List.length_map, c.hh]; rfl)
theorem kn_s (h : w.rangeAt g o c.cells) : w.cell? ⟨g, o + 33, none⟩ = some (.string (str c.s)) := h 33 _ (by
  rw [Kn.cells, List.getElem?_append_right (by simp [c.hh]), List.length_map, c.hh]; rfl)
end
theorem kn_blk {w : World} {q : Nat} {c : Kn} {t : TypeId} (h : Blk w q c.cells.toArray t) : w.rangeAt q 0 c.cells := blk_rangeP h
/-- Texts. -/
def sCells (s : List UInt8) : List Value := [.string (str s)]
theorem sCells_len (s : List UInt8) : (sCells s).length = 1 := rfl
theorem sCells_one (s : List UInt8) : ∀ u ∈ sCells s, u.oneCell' = true := by
  intro u hu
  simp [sCells] at hu
  rw [hu]; rfl
abbrev TxAt := RAt sCells
abbrev TxOwn := ROwn sCells 1
def zKn : Value := .agg (Z32 ++ #[.int .i64 0, .string ⟨#[]⟩])
theorem zKn_size : zKn.cells.size = 34 := by simp [zKn, Value.cells, Z32_size]
theorem Try.infoTx : (Try.prog.info? 9).map (fun i => (i.zero, i.size, i.bytes)) = some (some (.string ⟨#[]⟩), 1, 16) := by kernel_rfl
theorem kn_size {T : TypeId} (c : Kn) (h : (Try.prog.info? T).map (·.size) = some 34) : (Try.prog.info? T).map (·.size) = some c.cells.length := by rw [c.cells_len]; exact h
theorem kn_sizeA {T : TypeId} (c : Kn) (h : (Try.prog.info? T).map (·.size) = some 34) : (Try.prog.info? T).map (·.size) = some c.cells.toArray.size := by rw [List.size_toArray, c.cells_len]; exact h
theorem Try.cellsK_h : Try.prog.cellsOf 32 = 32 := by kernel_rfl
theorem Try.cellsK_s : Try.prog.cellsOf 9 = 1 := by kernel_rfl
theorem Try.cellsK_i : Try.prog.cellsOf 3 = 1 := by kernel_rfl
section
open Go.ChangeShapes Go.WideShapes
variable {H : Type} {enc : TypeId × Value → H} {w : World} {base : Nat} {spare : Nat → Bool} {held : Bool} {fuel : Nat} {x : DataW H × List MemPlace}
theorem kn_join (l : List Value) (h : l.length = 34) : l = (l.drop 0).take 32 ++ ((l.drop 32).take 1 ++ (l.drop 33).take 1) := by
  have e : ∀ (a n m : Nat), (l.drop a).take n ++ (l.drop (a + n)).take m = (l.drop a).take (n + m) := fun a n m => by rw [← List.drop_drop, ← List.take_add]
  rw [e 32 1 1, e 0 32 2, List.drop_zero, List.take_of_length_le (by omega)]
theorem elems_rat {α : Type} {cells : α → List Value} {size : Nat} (hs : ∀ x, (cells x).length = size) (h0 : 0 < size) {w : World} {ao : Option Addr} {n c : Nat} {l : List α} (h : Elems cells size w ao n l) : RAt cells w (.slice ao n c) l := by
  rcases h.2 with h1 | ⟨b, off, rfl, hlt, hc⟩
  · subst h1
    exact .inl ⟨List.eq_nil_of_length_eq_zero h.1, _, _, rfl⟩
  · refine .inr ⟨b, off, c, by rw [h.1], hlt, fun j u hj => ?_⟩
    have hjl : j < l.length * size := by have := (List.getElem?_eq_some_iff.1 hj).1; rwa [flat_len l (fun x _ => hs x)] at this
    have hi : j / size < l.length := (Nat.div_lt_iff_lt_mul h0).2 hjl
    have hm : j % size < size := Nat.mod_lt _ h0
    have e1 := flat_at hs l (j / size) l[j / size] (j % size) (List.getElem?_eq_getElem hi) hm
    have e2 : j / size * size + j % size = j := by rw [Nat.mul_comm]; exact Nat.div_add_mod j size
    rw [e2, hj] at e1
    have := hc (j / size) hi (j % size) u e1.symm
    rwa [Nat.add_assoc, e2] at this
end
end Go.Proofs.Ytodnmhflafpefaa
