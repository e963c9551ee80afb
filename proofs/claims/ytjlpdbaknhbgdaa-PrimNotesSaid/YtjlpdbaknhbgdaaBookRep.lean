/-
  A book as it lies in memory; small laws for the walks through it.
-/
import Derived.Test.YtjlpdbaknhbgdaaBookPut
import Derived.Deep.OwnRows
set_option linter.unusedSimpArgs false
set_option linter.unusedVariables false
namespace Go.Proofs.Ytjlpdbaknhbgdaa
open Go.RowKit

abbrev iv (n : Nat) : Value := .int .i64 (n : Int)
/-- A slice of numbers. -/
def IntsAt (w : World) (v : Value) (l : List Nat) : Prop :=
  (v = .slice none 0 0 ∧ l = []) ∨ ∃ g o c, v = .slice (some ⟨g, o, none⟩) l.length c ∧ l.length ≤ c ∧ g < w.heap.size ∧ ∀ j i, l[j]? = some i → w.cell? ⟨g, o + j, none⟩ = some (iv i)
theorem IntsAt.below {w w' : World} {v : Value} {l : List Nat} (h : IntsAt w v l) (b : Below w.heap.size w w') : IntsAt w' v l := by
  rcases h with h0 | ⟨g, o, c, rfl, hc, hlt, hcell⟩
  · exact .inl h0
  · exact .inr ⟨g, o, c, rfl, hc, Nat.lt_of_lt_of_le hlt b.size, fun j u hj => (b.cell (p := ⟨g, o + j, none⟩) hlt).trans (hcell j u hj)⟩
theorem IntsAt.slice {w : World} {v : Value} {l : List Nat} (h : IntsAt w v l) : ∃ ao c, v = .slice ao l.length c ∧ l.length ≤ c := by
  rcases h with ⟨rfl, rfl⟩ | ⟨g, o, c, rfl, hc, _⟩
  · exact ⟨_, _, rfl, Nat.le_refl _⟩
  · exact ⟨_, _, rfl, hc⟩
theorem IntsAt.cell {w : World} {ao : Option Addr} {n c : Nat} {l : List Nat} (h : IntsAt w (.slice ao n c) l) (j i : Nat) (hj : l[j]? = some i) : ∃ g o, ao = some ⟨g, o, none⟩ ∧ w.cell? ⟨g, o + j, none⟩ = some (iv i) := by
  rcases h with ⟨h0, rfl⟩ | ⟨g, o, c', he, _, hlt, hcell⟩
  · simp at hj
  · simp only [Value.slice.injEq] at he
    exact ⟨g, o, he.1, hcell j i hj⟩
theorem IntsAt.own {w : World} {e : TypeId} {base n : Nat} {v : Value} {l : List Nat} (h : w.ownsRow base e 1 v n (l.map iv)) (hn : n = l.length) : IntsAt w v l := by
  subst hn
  rcases h.2 with ⟨h0, h1⟩ | ⟨g, cap, cur, rfl, hb, hg, h1, h2, h3, h4⟩
  · exact .inl ⟨h0, List.eq_nil_of_length_eq_zero h1⟩
  · refine .inr ⟨g, 0, cap, rfl, h1, lt_of_block hg, fun j u hj => ?_⟩
    have hlt : j < l.length := (List.getElem?_eq_some_iff.1 hj).1
    have e : (cur.toList.take (l.length * 1))[j]? = some (iv u) := by rw [h4, List.getElem?_map, hj]; rfl
    rw [List.getElem?_take_of_lt (by omega)] at e
    have : cur[j]? = some (iv u) := by simpa using e
    simp [World.cell?, hg, this]
/-- A slice of facts. -/
def FactsAt (w : World) (v : Value) (fs : List FactT) : Prop :=
  (fs = [] ∧ ∃ ao, v = .slice ao 0 0) ∨ ∃ g o c, v = .slice (some ⟨g, o, none⟩) fs.length c ∧ fs.length ≤ c ∧ g < w.heap.size ∧ ∀ i f, fs[i]? = some f → ∃ a b, w.cell? ⟨g, o + i * 2, none⟩ = some a ∧ w.cell? ⟨g, o + i * 2 + 1, none⟩ = some b ∧ HashesAt w a f.ins ∧ HashesAt w b f.outs
theorem FactsAt.below {w w' : World} {v : Value} {l : List FactT} (h : FactsAt w v l) (b : Below w.heap.size w w') : FactsAt w' v l := by
  rcases h with h0 | ⟨g, o, c, rfl, hc, hlt, hcell⟩
  · exact .inl h0
  · refine .inr ⟨g, o, c, rfl, hc, Nat.lt_of_lt_of_le hlt b.size, fun j u hj => ?_⟩
    obtain ⟨x, y, h1, h2, h3, h4⟩ := hcell j u hj
    exact ⟨x, y, (b.cell (p := ⟨g, o + j * 2, none⟩) hlt).trans h1, (b.cell (p := ⟨g, o + j * 2 + 1, none⟩) hlt).trans h2, h3.below b, h4.below b⟩
theorem FactsAt.slice {w : World} {v : Value} {l : List FactT} (h : FactsAt w v l) : ∃ ao c, v = .slice ao l.length c ∧ l.length ≤ c := by
  rcases h with ⟨rfl, ao, rfl⟩ | ⟨g, o, c, rfl, hc, _⟩
  · exact ⟨_, _, rfl, Nat.le_refl _⟩
  · exact ⟨_, _, rfl, hc⟩
theorem range2 {w : World} {g o : Nat} {a b : Value} (h1 : w.cell? ⟨g, o, none⟩ = some a) (h2 : w.cell? ⟨g, o + 1, none⟩ = some b) : w.rangeAt g o [a, b] := fun j v hj => by
  match j, hj with
  | 0, hj => obtain rfl : a = v := by simpa using hj
             exact h1
  | 1, hj => obtain rfl : b = v := by simpa using hj
             exact h2
  | j + 2, hj => simp at hj
theorem FactsAt.fact {w : World} {ao : Option Addr} {n c : Nat} {l : List FactT} (h : FactsAt w (.slice ao n c) l) (i : Nat) (f : FactT) (hi : l[i]? = some f) : ∃ g o a b, ao = some ⟨g, o, none⟩ ∧ g < w.heap.size ∧ w.rangeAt g (o + i * 2) [a, b] ∧ w.cell? ⟨g, o + i * 2, none⟩ = some a ∧ w.cell? ⟨g, o + i * 2 + 1, none⟩ = some b ∧ HashesAt w a f.ins ∧ HashesAt w b f.outs := by
  rcases h with ⟨rfl, h0⟩ | ⟨g, o, c', he, _, hlt, hcell⟩
  · simp at hi
  · simp only [Value.slice.injEq] at he
    obtain ⟨a, b, h1, h2, h3, h4⟩ := hcell i f hi
    exact ⟨g, o, a, b, he.1, hlt, range2 h1 h2, h1, h2, h3, h4⟩
theorem HashesAt.block_lt {w : World} {v : Value} {l : List HsT} (h : HashesAt w v l) : LowV v l w.heap.size := by
  intro hl
  rcases h.2 with ⟨h0, _⟩ | ⟨g, o, c, rfl, hc, hlt, _⟩
  · exact absurd h0 hl
  · intro q hq; simp [Value.ownBlock] at hq; omega
/-- A book, to be read. -/
def BookRd (w : World) (b : Nat) (fs : List FactT) : Prop :=
  ∃ (fv sv dv : Value) (nm N : Nat) (look : List UInt8 → Option Value), Blk w b #[fv, sv, .map (some nm), dv] 64 ∧ FactsAt w fv fs ∧ MapIs hashOk hashEnc w nm N look ∧ ∀ h, hashOk h → IntsAt w ((look h).getD (.slice none 0 0)) (needsT fs h)
theorem BookRd.below {w w' : World} {b : Nat} {fs : List FactT} (h : BookRd w b fs) (bl : Below w.heap.size w w') : BookRd w' b fs := by
  obtain ⟨fv, sv, dv, nm, N, look, h1, h2, h3, h4⟩ := h
  exact ⟨fv, sv, dv, nm, N, look, h1.below bl h1.lt, h2.below bl, h3.below bl, fun h hh => (h4 h hh).below bl⟩
theorem Try.infoInt3 : (Try.prog.info? 3).map (fun i => (i.zero, i.size, i.bytes)) = some (some (.int .i64 0), 1, 8) := by kernel_rfl
theorem Try.sizeInt : (Try.prog.info? 3).map (·.size) = some 1 := by kernel_rfl
theorem Try.sizeMapHB : (Try.prog.info? 75).map (·.size) = some 1 := by kernel_rfl
theorem Try.zeroMapHB : (Try.prog.info? 75).bind (·.zero) = some (.map none) := by kernel_rfl
theorem Try.zeroHs : (Try.prog.info? 23).bind (·.zero) = some (.slice none 0 0) := by kernel_rfl
theorem Try.zeroFact : (Try.prog.info? 68).bind (·.zero) = some (.agg #[.slice none 0 0, .slice none 0 0]) := by kernel_rfl
theorem Try.sizeFact : (Try.prog.info? 68).map (·.size) = some 2 := by kernel_rfl
theorem Try.zeroInts (w : World) : (zeroValue 85).run Try.prog w = .ok (.slice none 0 0) w := by kernel_rfl
section
variable {P : Program} {w : World} {ops : Array Oper} {rest : List Oper} {o : Oper} {a : Act} {Q : Exit → Act → World → Prop}
/-- 'map[K]V{}'. -/
theorem wpList_makeM (hg : o.guard = none) (t : TypeId) (ho : o.op = .makeMap t none) (ok : List UInt8 → Prop) (enc : List UInt8 → Value)
    (hK : ∀ w', w'.heap.size = w.heap.size + 1 → Below w.heap.size w w' → MapIs ok enc w' w.heap.size 0 (fun _ => none) → wpList P ops Q rest (a.put o.dst (.map (some w.heap.size))) w') : wpList P ops Q (o :: rest) a w := by
  refine wpList_plain hg fun K' hK' => ?_
  unfold Oper.wp
  simp [execOp, ho, Instr.makeMap, Result.andThen]
  exact hK' _ _ (hK (w.alloc (.map #[] 0)) (by simp) ((Below.refl _ _).alloc (Nat.le_refl _) _) (MapIs.made ok enc w))
/-- a variable of one cell is made. -/
theorem wpList_alloc1 (hg : o.guard = none) (ty : TypeId) (ho : o.op = .alloc ty) (z : Value) (hz : (P.info? ty).bind (·.zero) = some z) (hc : z.cells = #[z])
    (h : ∀ w', w'.heap.size = w.heap.size + 1 → Below w.heap.size w w' → Blk w' w.heap.size #[z] ty → wpList P ops Q rest (a.put o.dst (.pointer (some ⟨w.heap.size, 0, none⟩))) w') : wpList P ops Q (o :: rest) a w := by
  refine wpList_plain hg fun K' hK' => ?_
  obtain ⟨it, hi, hzz⟩ := Option.bind_eq_some_iff.1 hz
  unfold Oper.wp
  simp [execOp, ho, Instr.alloc, zeroValue, typeInfo, hi, hzz, newVar, newRow, hc, Result.andThen]
  exact hK' _ _ (h (w.alloc (.cells #[z] ty)) (by simp) ((Below.refl _ _).alloc (Nat.le_refl _) _) (Blk.new _ _ _))
/-- 'make([]int, n)'. -/
theorem wpList_makeI (hg : o.guard = none) (l c : Operand) (t e : TypeId) (ho : o.op = .makeSlice t l c) (ht : P.underlying t = some (.slice e)) (hinfo : (P.info? e).map (fun i => (i.zero, i.size, i.bytes)) = some (some (.int .i64 0), 1, 8))
    (n : Nat) (hl : a.eval l = .int .i64 (n : Int)) (hc : a.eval c = .int .i64 (n : Int)) (hn : n ≤ 10000000)
    (hK : ∀ w', w'.heap.size = w.heap.size + 1 → Below w.heap.size w w' → Blk w' w.heap.size ((List.replicate n 0).map iv).toArray e → wpList P ops Q rest (a.put o.dst (.slice (some ⟨w.heap.size, 0, none⟩) n n)) w') : wpList P ops Q (o :: rest) a w := by
  refine wpList_plain hg fun K' hK' => ?_
  have hrun := Go.run_make_row' (P := P) t e (.int .i64 0) 8 ht hinfo rfl .i64 .i64 n (by omega) (by omega) w
  unfold Oper.wp
  simp [execOp, ho, hl, hc, hrun, Result.andThen]
  refine hK' _ _ (hK (w.alloc (.cells (madeCells #[.int .i64 0] n) e)) (by simp) ((Below.refl _ _).alloc (Nat.le_refl _) _) ?_)
  have e1 : madeCells #[.int .i64 0] n = ((List.replicate n 0).map iv).toArray := by
    apply Array.ext
    · simp [madeCells]
    · intro j h1 h2
      simp [madeCells, iv, Nat.mod_one]
  rw [← e1]
  exact Blk.new _ _ _
/-- 'm[i] = x'. -/
theorem wpList_storeI (hgd : o.guard = none) (ty : TypeId) (x y : Operand) (ho : o.op = .store ty x y)
    (g i : Nat) (u : Nat) (hx : a.eval x = .pointer (some ⟨g, i, none⟩)) (hy : a.eval y = iv u) (t : TypeId) (l : List Nat) (hg : Blk w g (l.map iv).toArray t) (hl : i < l.length) (hi : (P.info? ty).map (·.size) = some 1)
    (h : ∀ w', Blk w' g ((l.set i u).map iv).toArray t → w.grownBy w' (some g) → wpList P ops Q rest (a.put o.dst undef) w') : wpList P ops Q (o :: rest) a w := by
  refine wpList_storeV hgd ty x y ho g i (iv u) hx hy t (l.map iv) ((l.map iv).take i) [iv l[i]] ((l.map iv).drop (i + 1)) [iv u] hg ?_ (by simp; omega) rfl rfl (by simp [Value.oneCell']) hi fun w' hb gr => h w' ?_ gr
  · apply List.ext_getElem?
    intro j
    simp only [List.getElem?_append, List.length_take, List.length_map, List.getElem?_take, List.getElem?_map, List.getElem?_drop, List.length_cons, List.length_nil]
    by_cases h1 : j < i
    · simp [h1, Nat.min_eq_left (Nat.le_of_lt hl)]
    · by_cases h2 : j = i
      · subst h2
        simp [Nat.min_eq_left (Nat.le_of_lt hl), hl]
      · have h3 : ¬ j < min i l.length := by omega
        have h4 : ¬ (j - min i l.length < 0 + 1) := by omega
        have h5 : i + 1 + (j - min i l.length - (0 + 1)) = j := by omega
        simp [h3, h4, h5]
  · have e : ((l.set i u).map iv) = (l.map iv).take i ++ ([iv u] ++ (l.map iv).drop (i + 1)) := by
      rw [List.map_set, List.set_eq_take_append_cons_drop, if_pos (by simpa using hl)]
      rfl
    rw [e]
    exact hb
end
section
variable {P : Program} {ops : Array Oper} {C : World → Prop} {Q : Act → Prop} {a : Act} {o : Oper} {rest : List Oper}
theorem wpQuiet_lookV {k : TypeId} {ok : List UInt8 → Prop} {enc : List UInt8 → Value} (hw : Region.wanted o (yielded ops a.tmps) = true) (mk : MKey P k ok enc) (m x : Operand) (t e : TypeId) (ho : o.op = .lookup t m x false) (ht : P.underlying t = some (.map k e)) (z : Value) (hz : ∀ w, (zeroValue e).run P w = .ok z w) (b n : Nat) (look : List UInt8 → Option Value)
    (hm : a.eval m = .map (some b)) (h : ∀ w, C w → MapIs ok enc w b n look) (y : List UInt8) (hy : ok y) (hx : a.eval x = enc y) (u : Value) (hu : (look y).getD z = u) (hK : wpQuiet P ops C Q rest (a.put o.dst u)) : wpQuiet P ops C Q (o :: rest) a :=
  wpQuiet_step fun K hK' => by
    rw [if_pos hw]
    refine ⟨u, fun w hw' => ?_, hK' _ hK⟩
    have hr := (h w hw').look mk ht (hz w) y hy false
    unfold Oper.quietAt
    simp [execOp, ho, hm, hx, hr, Result.andThen, hu]
    exact ⟨rfl, rfl⟩
theorem wpQuiet_load1 (hw : Region.wanted o (yielded ops a.tmps) = true) (ty : TypeId) (x : Operand) (ho : o.op = .load ty x) (b off : Nat) (hx : a.eval x = .pointer (some ⟨b, off, none⟩)) (v : Value) (d : TypeDesc)
    (hc : ∀ w, C w → w.cell? ⟨b, off, none⟩ = some v) (hu : P.underlying ty = some d) (hd : d.isRow = false) (h : wpQuiet P ops C Q rest (a.put o.dst v)) : wpQuiet P ops C Q (o :: rest) a :=
  wpQuiet_step fun K hK => by
    rw [if_pos hw]
    refine ⟨_, fun w hw' => ?_, hK _ h⟩
    unfold Oper.quietAt execOp
    simp only [ho, hx, Instr.loadAt, Instr.sureAddr, Sem.run_bind, Sem.run_pure, Result.andThen_ok, run_load1 (P := P) (hc w hw') hu hd]
    exact ⟨rfl, rfl⟩
end
theorem flatMap_len32 : ∀ (l : List HsT), (∀ x ∈ l, x.length = 32) → (l.flatMap (·.map bv)).length = l.length * 32
  | [], _ => rfl
  | x :: l, h => by
    rw [List.flatMap_cons, List.length_append, flatMap_len32 l (fun y hy => h y (List.mem_cons_of_mem _ hy)), List.length_map, h x List.mem_cons_self, List.length_cons]
    omega
/-- The last of an own list is cut off. -/
theorem HashOwn.pop {w : World} {base : Nat} {e : TypeId} {ao : Option Addr} {n c : Nat} {l : List HsT} {h : HsT} (H : HashOwn w base e (.slice ao n c) (l ++ [h])) : HashOwn w base e (.slice ao l.length c) l := by
  have hl : ∀ x ∈ l, x.length = 32 := fun x hx => H.1 x (List.mem_append_left _ hx)
  refine ⟨hl, by rw [flatMap_len32 l hl], ?_⟩
  rcases H.2.2 with ⟨h0, h1⟩ | ⟨g, cap, cur, he, hb, hg, h1, h2, h3, h4⟩
  · simp at h1
  · simp only [Value.slice.injEq] at he
    obtain ⟨rfl, hn, rfl⟩ := he
    rw [List.length_append, List.length_singleton] at h1 h4
    refine .inr ⟨g, c, cur, rfl, hb, hg, by omega, h2, h3, ?_⟩
    have e2 : (cur.toList.take ((l.length + 1) * 32)).take (l.length * 32) = cur.toList.take (l.length * 32) := by rw [List.take_take, Nat.min_eq_left (by omega)]
    rw [← e2, h4, List.flatMap_append, List.take_left' (flatMap_len32 l hl)]
end Go.Proofs.Ytjlpdbaknhbgdaa
