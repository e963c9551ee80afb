/-
  delete at maps; slice literals of one element of whatever kind; what the loops of glean.Tell and glean.Give gather.
-/
import Derived.Test.YtodnmhflafpefaaBookMaps
import Derived.Test.YtodnmhflafpefaaBookPut
import Derived.Test.YtodnmhflafpefaaBookClone
import Derived.Test.YtodnmhflafpefaaGleanKDel
import Derived.Test.YtodnmhflafpefaaGleanWant
set_option linter.unusedSimpArgs false
set_option linter.unusedVariables false
namespace Go.Proofs.Ytodnmhflafpefaa
open Go.RowKit Go.MapKept
open Go.ChangeMaps (setBlock heap_setBlock_same heap_setBlock_other modify_eq_set)

section
variable {P : Program} {k : TypeId} {ok : List UInt8 → Prop} {enc : List UInt8 → Value}
theorem MapIs.del (K : MKey P k ok enc) {w : World} {b n : Nat} {look : List UInt8 → Option Value} (h : MapIs ok enc w b n look) {t e : TypeId} (ht : P.underlying t = some (.map k e)) (x : List UInt8) (hx : ok x) (ty : TypeId) :
    ∃ w', (Builtin.delete_ #[t, k] ty #[.map (some b), enc x]).run P w = .ok (.tuple #[]) w' ∧ MapIs ok enc w' b n (fun y => if y = x then none else look y) ∧ w.grownBy w' (some b) := by
  obtain ⟨es, clock, hb, hn, hS, hE⟩ := h
  obtain ⟨kl, hkl⟩ := K.key x hx
  rcases hE.find K w x hx with ⟨h0, h1, h2⟩ | ⟨j, e0, h0, h1, h2, h3⟩
  · refine ⟨setBlock w b (.map es clock), ?_, ⟨_, _, heap_setBlock_same hb _, hn, hS, ?_⟩, grown_setBlock hb⟩
    · simp [Builtin.delete_, run_underlying ht, MapKept.run_getObj_map hb, K.law.check w _ hkl, h1, MapKept.run_setObj_map _ hb, Result.andThen, setBlock]
    · refine ⟨fun y hy => ?_, fun y u hy hu => ?_⟩
      · obtain ⟨q, hq, e1, e2⟩ := hE.1 y hy
        refine ⟨q, hq, e1, ?_⟩
        simp only
        rw [if_neg (fun e3 => h2 y hy (by rw [e1, e3]))]
        exact e2
      · simp only at hu
        by_cases e3 : y = x
        · rw [if_pos e3] at hu; cases hu
        · rw [if_neg e3] at hu
          exact hE.2 y u hy hu
  · have hsub : (es.eraseIdxIfInBounds j).toList = es.toList.eraseIdx j := by
      unfold Array.eraseIdxIfInBounds
      have hj : j < es.size := by have := (List.getElem?_eq_some_iff.1 h2).1; simpa using this
      rw [dif_pos hj, Array.toList_eraseIdx]
    have hkey : ∀ i y, i ≠ j → es.toList[i]? = some y → y.key ≠ enc x := fun i y hij hy e3 => by
      have hnd := hS.2.2
      obtain ⟨hi, ei⟩ := List.getElem?_eq_some_iff.1 hy
      obtain ⟨hj, ej⟩ := List.getElem?_eq_some_iff.1 h2
      have : (es.toList.map (·.key))[i]'(by simpa using hi) = (es.toList.map (·.key))[j]'(by simpa using hj) := by
        rw [List.getElem_map, List.getElem_map, ei, ej, e3, h3]
      have hpw := List.pairwise_iff_getElem.1 hnd
      rcases Nat.lt_trichotomy i j with h5 | h5 | h5
      · exact hpw i j _ _ h5 this
      · exact hij h5
      · exact hpw j i _ _ h5 this.symm
    refine ⟨setBlock w b (.map (es.eraseIdxIfInBounds j) clock), ?_, ⟨_, _, heap_setBlock_same hb _, Nat.le_trans (MapFrom.size_erase es j) hn, stamped_erase hS j, ?_⟩, grown_setBlock hb⟩
    · simp [Builtin.delete_, run_underlying ht, MapKept.run_getObj_map hb, K.law.check w _ hkl, h1, MapKept.run_setObj_map _ hb, Result.andThen, setBlock]
    · refine ⟨fun y hy => ?_, fun y u hy hu => ?_⟩
      · rw [hsub, List.mem_eraseIdx_iff_getElem?] at hy
        obtain ⟨i, hij, hi⟩ := hy
        obtain ⟨q, hq, e1, e2⟩ := hE.1 y (List.mem_of_getElem? hi)
        refine ⟨q, hq, e1, ?_⟩
        simp only
        rw [if_neg (fun e3 => hkey i y hij hi (by rw [e1, e3]))]
        exact e2
      · simp only at hu
        by_cases e3 : y = x
        · rw [if_pos e3] at hu; cases hu
        · rw [if_neg e3] at hu
          obtain ⟨z, hz, e1, e2⟩ := hE.2 y u hy hu
          refine ⟨z, ?_, e1, e2⟩
          rw [hsub, List.mem_eraseIdx_iff_getElem?]
          obtain ⟨i, hi⟩ := List.getElem?_of_mem hz
          refine ⟨i, fun e4 => ?_, hi⟩
          subst e4
          rw [h2] at hi
          obtain rfl := Option.some.inj hi
          exact e3 (K.inj y x hy hx (e1.symm.trans h3))
theorem wpList_del {w : World} {ops : Array Oper} {rest : List Oper} {o : Oper} {a : Act} {Q : Exit → Act → World → Prop} (hg : o.guard = none) (mk : MKey P k ok enc) (m x : Operand) (t e : TypeId) (ho : o.op = .call { callee := .builtin .delete, args := #[m, x], argTypes := #[t, k] }) (ht : P.underlying t = some (.map k e)) (b n : Nat) (look : List UInt8 → Option Value)
    (hm : a.eval m = .map (some b)) (h : MapIs ok enc w b n look) (y : List UInt8) (hy : ok y) (hx : a.eval x = enc y)
    (hK : ∀ w', MapIs ok enc w' b n (fun z => if z = y then none else look z) → w.grownBy w' (some b) → wpList P ops Q rest (a.put o.dst (.tuple #[])) w') : wpList P ops Q (o :: rest) a w := by
  refine wpList_plain hg fun K' hK' => ?_
  obtain ⟨w', hrun, r1, r2⟩ := h.del mk ht y hy o.type
  unfold Oper.wp
  simp [execOp, ho, resolve, invoke, builtin, hm, hx, hrun, Result.andThen]
  exact hK' _ _ (hK w' r1 r2)
end
/-- A slice literal of one element. -/
theorem wp_bsV {P : Program} {o : Oper} {a : Act} {w : World} {K : Act → World → Prop} {Q : Exit → Act → World → Prop} (t e : TypeId) (x : Operand) (ho : o.op = .buildSlice t 1 #[(0, x)])
    (u : Value) (hx : a.eval x = u) (hu : P.underlying t = some (.slice e)) (z : Value) (n : Nat) (hz : (P.info? e).map (fun i => (i.zero, i.size)) = some (some z, n)) (hn : u.cells.size = n) (h0 : 0 < n) (hb : n ≤ 16777216)
    (h : ∀ w', w'.heap.size = w.heap.size + 1 → Below w.heap.size w w' → Blk w' w.heap.size u.cells e → K (a.put o.dst (.slice (some ⟨w.heap.size, 0, none⟩) 1 1)) w') : o.wp P a w K Q := by
  cases hi : P.info? e with
  | none => simp [hi] at hz
  | some ie =>
    simp [hi] at hz
    obtain ⟨hz1, hz2⟩ := hz
    refine Go.wp_buildSlice t e 1 #[(0, x)] ho u.cells ie z hu hi hz1 (by rw [hz2]; omega) (by rw [hz2]; omega) ?_ (h _ (by simp) (below_alloc1 _ _) (Blk.new _ _ _))
    have e1 : (#[(0, x)].map fun (i, x) => (i, a.eval x)).toList = (([u].zipIdx 0).map fun x => (x.2, x.1)) := by simp [hx]
    rw [e1, hz2, Go.Great.fill_whole h0 [u] _ (by simp [hn]) (by simp)]
    simp
theorem wpList_bsV {P : Program} {ops : Array Oper} {rest : List Oper} {o : Oper} {a : Act} {w : World} {Q : Exit → Act → World → Prop} (hgd : o.guard = none) (t e : TypeId) (x : Operand) (ho : o.op = .buildSlice t 1 #[(0, x)])
    (u : Value) (hx : a.eval x = u) (hu : P.underlying t = some (.slice e)) (z : Value) (n : Nat) (hz : (P.info? e).map (fun i => (i.zero, i.size)) = some (some z, n)) (hn : u.cells.size = n) (h0 : 0 < n) (hb : n ≤ 16777216)
    (h : ∀ w', w'.heap.size = w.heap.size + 1 → Below w.heap.size w w' → Blk w' w.heap.size u.cells e → wpList P ops Q rest (a.put o.dst (.slice (some ⟨w.heap.size, 0, none⟩) 1 1)) w') : wpList P ops Q (o :: rest) a w :=
  wpList_plain hgd fun K hK => wp_bsV t e x ho u hx hu z n hz hn h0 hb fun w' a1 a2 a3 => hK _ _ (h w' a1 a2 a3)
theorem Try.infoTx2 : (Try.prog.info? 9).map (fun i => (i.zero, i.size)) = some (some (.string ⟨#[]⟩), 1) := by kernel_rfl
/-- The first 256 names. -/
def stepT (acc : List HsT) (x : HsT) : List HsT := if acc.length < 256 ∧ x ∉ acc then acc ++ [x] else acc
/-- The first of each name that was asked for. -/
def stepF (asked : List HsT) (acc : List Kn) (c : Kn) : List Kn := if c.h ∈ asked ∧ c.h ∉ acc.map (·.h) then acc ++ [c] else acc
/-- At most 64 texts. -/
def stepG (acc : List (List UInt8)) (c : Kn) : List (List UInt8) := if acc.length < 64 ∧ c.s ≠ [] ∧ c.s.length ≤ 65536 then acc ++ [c.s] else acc
theorem fold_snoc {α β : Type} (f : β → α → β) (b : β) {l : List α} {k : Nat} {x : α} (h : l[k]? = some x) : (l.take (k + 1)).foldl f b = f ((l.take k).foldl f b) x := by
  rw [List.take_add_one, h, List.foldl_append]; rfl
theorem stepT_len (l : List HsT) : ∀ acc, (l.foldl stepT acc).length ≤ acc.length + l.length := by
  induction l with
  | nil => intro acc; simp
  | cons x l ih =>
    intro acc
    rw [List.foldl_cons, List.length_cons]
    have := ih (stepT acc x)
    have h2 : (stepT acc x).length ≤ acc.length + 1 := by unfold stepT; split <;> simp
    omega
theorem stepF_len (asked : List HsT) (l : List Kn) : ∀ acc, (l.foldl (stepF asked) acc).length ≤ acc.length + l.length := by
  induction l with
  | nil => intro acc; simp
  | cons x l ih =>
    intro acc
    rw [List.foldl_cons, List.length_cons]
    have := ih (stepF asked acc x)
    have h2 : (stepF asked acc x).length ≤ acc.length + 1 := by unfold stepF; split <;> simp
    omega
theorem stepG_len (l : List Kn) : ∀ acc, (l.foldl stepG acc).length ≤ acc.length + l.length := by
  induction l with
  | nil => intro acc; simp
  | cons x l ih =>
    intro acc
    rw [List.foldl_cons, List.length_cons]
    have := ih (stepG acc x)
    have h2 : (stepG acc x).length ≤ acc.length + 1 := by unfold stepG; split <;> simp
    omega
/-- What the map of glean.Give says: asked for, and not met. -/
def giveLook (asked : List HsT) (acc : List Kn) (x : HsT) : Option Value := if x ∈ asked ∧ x ∉ acc.map (·.h) then some (.bool true) else none
theorem kn_szv (c : Kn) : (Value.agg c.cells.toArray).cells.size = 34 := by show c.cells.toArray.size = 34; rw [List.size_toArray, c.cells_len]
end Go.Proofs.Ytodnmhflafpefaa
