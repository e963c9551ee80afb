/-
  slices.Clone at leaves, parents and numbers; era.copied.
-/
import Derived.Test.YtjlpdbaknhbgdaaGreatTreePlace
import Derived.Test.YtjlpdbaknhbgdaaGreatQBase
import Derived.WalkLawsBesides
import Derived.Lib.SliceRun
import Derived.Deep.Cut
import Derived.Deep.CutRange
import Derived.Deep.RegionHeld
import Derived.Outline
import Derived.Handy
set_option linter.unusedSimpArgs false
set_option linter.unusedVariables false
namespace Go.Proofs.YtjlpdbaknhbgdaaGreat
open Go.RowKit

def nrmV : Value → Value
  | .slice a n c => .slice a n c
  | _ => .slice none 0 0
def parCellsN (x : ParA × Value) : List Value := x.1.cells (nrmV x.2)
theorem parCellsN_len (x : ParA × Value) : (parCellsN x).length = 66 := ParA.cells_len _ _
theorem nrmV_one (v : Value) : (nrmV v).oneCell' = true := by cases v <;> rfl
theorem parCellsN_one (x : ParA × Value) : ∀ u ∈ parCellsN x, u.oneCell' = true := by
  intro u hu
  unfold parCellsN ParA.cells at hu
  simp only [List.mem_cons, List.mem_append, List.mem_map, List.not_mem_nil, or_false] at hu
  rcases hu with rfl | ⟨y, _, rfl⟩ | ⟨y, _, rfl⟩ | rfl
  · rfl
  · rfl
  · rfl
  · exact nrmV_one _
theorem leafCells_one (l : LeafA) : ∀ u ∈ l.cells, u.oneCell' = true := by
  intro u hu
  have := leaf_all l
  rw [List.all_toArray, List.all_eq_true] at this
  exact this u hu
theorem intCells_len (x : Int) : (intCells x).length = 1 := rfl
theorem intCells_one (x : Int) : ∀ u ∈ intCells x, u.oneCell' = true := by
  intro u hu
  rw [intCells, List.mem_singleton] at hu
  rw [hu]; rfl
theorem parCellsN_set (q : ParA) (v u : Value) : parCellsN (q, u) = (parCellsN (q, v)).set 65 (nrmV u) := by
  unfold parCellsN ParA.cells
  rw [show (65 : Nat) = 64 + 1 from rfl, List.set_cons_succ, List.set_append_right _ _ (by simp [q.hp]), List.set_append_right _ _ (by simp [q.hp, q.ha])]
  simp [q.hp, q.ha]
theorem zip_set {α β : Type} : ∀ (l : List α) (m : List β) (i : Nat) (a : α) (b : β), l[i]? = some a → (l.zip m).set i (a, b) = l.zip (m.set i b)
  | [], m, i, a, b, h => by simp at h
  | x :: l, [], i, a, b, h => by simp
  | x :: l, y :: m, 0, a, b, h => by
    obtain rfl : x = a := by simpa using h
    rfl
  | x :: l, y :: m, i + 1, a, b, h => by
    rw [List.zip_cons_cons, List.set_cons_succ, List.set_cons_succ, List.zip_cons_cons, zip_set l m i a b (by simpa using h)]
/-- Numbers in a row of one's own. -/
def IntsO (w : World) (base : Nat) (u : Value) (l : List Int) : Prop := ∃ ao c, u = .slice ao l.length c ∧ ROwn intCells 1 w base 3 u l
theorem IntsO.below {w w' : World} {base : Nat} {u : Value} {l : List Int} (h : IntsO w base u l) (b : Below w.heap.size w w') : IntsO w' base u l := by
  obtain ⟨ao, c, h1, h2⟩ := h; exact ⟨ao, c, h1, h2.below b⟩
theorem IntsO.low {w : World} {b1 b2 : Nat} {u : Value} {l : List Int} (h : IntsO w b1 u l) (hb : b2 ≤ b1) : IntsO w b2 u l := by
  obtain ⟨ao, c, h1, h2⟩ := h; exact ⟨ao, c, h1, h2.low hb⟩
theorem IntsO.other {w w' : World} {base r : Nat} {u : Value} {l : List Int} {cs : Array Value} {t : TypeId} (h : IntsO w base u l) (g : w.grownBy w' (some r)) (hr : Blk w r cs t) (ht : 3 ≠ t) : IntsO w' base u l := by
  obtain ⟨ao, c, h1, h2⟩ := h; exact ⟨ao, c, h1, h2.kept g (.inr (own_ne h2 hr ht))⟩
theorem ROwn.made {α : Type} {cells : α → List Value} {size : Nat} (w : World) (base : Nat) (e : TypeId) (hb : base ≤ w.heap.size) : ROwn cells size (w.alloc (.cells #[] e)) base e (.slice (some ⟨w.heap.size, 0, none⟩) 0 0) [] :=
  ⟨by simp, .inr ⟨w.heap.size, 0, #[], rfl, hb, Blk.new w #[] e, by simp, by unfold maxLen; omega, by simp, by simp⟩⟩
theorem ROwn.addr {α : Type} {cells : α → List Value} {size : Nat} {w : World} {base : Nat} {e : TypeId} {ao : Option Addr} {n c : Nat} {l : List α} (h : ROwn cells size w base e (.slice ao n c) l) (h0 : 0 < n) : ∃ g, ao = some ⟨g, 0, none⟩ := by
  rcases h.2 with ⟨h1, h2⟩ | ⟨g, cap, cur, h1, _⟩
  · injection h1 with _ h3; omega
  · injection h1 with h3; exact ⟨g, h3⟩
theorem ROwn.other {α : Type} {cells : α → List Value} {size : Nat} {w w' : World} {base r : Nat} {e : TypeId} {v : Value} {l : List α} {cs : Array Value} {t : TypeId} (h : ROwn cells size w base e v l) (g : w.grownBy w' (some r)) (hr : Blk w r cs t) (ht : e ≠ t) : ROwn cells size w' base e v l := h.kept g (.inr (own_ne h hr ht))
theorem ROwn.blk {α : Type} {cells : α → List Value} {size : Nat} {w : World} {base g : Nat} {e : TypeId} {n c : Nat} {l : List α} (h : ROwn cells size w base e (.slice (some ⟨g, 0, none⟩) n c) l) : ∃ cs, Blk w g cs e := by
  rcases h.2 with ⟨h1, h2⟩ | ⟨g', cap, cur, h1, _, h3, _⟩
  · injection h1 with h3; cases h3
  · injection h1 with h4
    simp only [Option.some.injEq, Addr.mk.injEq] at h4
    rw [h4.1]; exact ⟨_, h3⟩
theorem Tryz.zeroTree : (Tryz.prog.info? 27).bind (·.zero) = some (.agg #[.slice none 0 0, .slice none 0 0]) := by kernel_rfl
theorem Tryz.sizeIntsS : (Tryz.prog.info? 40).map (·.size) = some 1 := by kernel_rfl
theorem Tryz.infoLeaf3 : (Tryz.prog.info? 144).map (fun i => (i.zero, i.size, i.bytes)) = some (some (.agg zeroL.cells.toArray), 97, 104) := by kernel_rfl
theorem Tryz.infoPar3 : (Tryz.prog.info? 126).map (fun i => (i.zero, i.size, i.bytes)) = some (some (.agg (zeroP.cells (.slice none 0 0)).toArray), 66, 96) := by kernel_rfl
theorem Tryz.infoIntC3 : (Tryz.prog.info? 3).map (fun i => (i.zero, i.size, i.bytes)) = some (some (.int .i64 0), 1, 8) := by kernel_rfl
set_option maxHeartbeats 4000000 in
set_option maxRecDepth 100000 in
theorem CloneL_calls (v : Value) (L : List LeafA) (w : World) (h : RAt LeafA.cells w v L) (hn : L.length ≤ 1000000) :
    Calls Tryz.prog 136 #[v] w fun e w' => ∃ ao c, e = .returned (.slice ao L.length c) ∧ ROwn LeafA.cells 97 w' w.heap.size 144 (.slice ao L.length c) L ∧ Below w.heap.size w w' := by
  obtain ⟨ao, c, rfl⟩ := h.slice
  cases ao with
  | none =>
    have hl : L = [] := by
      rcases h with ⟨h0, _⟩ | ⟨g, o, c', e, _⟩
      · exact h0
      · injection e with e1; cases e1
    subst hl
    have hbo : ∀ x, (binOp BinOp.eql 24 (.slice none 0 c) (.slice none 0 0)).run Tryz.prog x = .ok (.bool true) x := fun x => Lib.run_eql_slice_nil x _ _ none 0 c 0 0 Tryz.underlying24
    clear h hn
    go_enter Tryz.func136, Tryz.ntmps136
    go_wp2_with fail
    go_returns
    exact ⟨none, 0, rfl, ROwn.nil _ _ _, Below.refl _ _⟩
  | some ad =>
    obtain ⟨base, hbase⟩ : ∃ base, base = w.heap.size := ⟨_, rfl⟩
    have HBS : Hid (base = w.heap.size) := hbase
    have hbo : ∀ x, (binOp BinOp.eql 24 (.slice (some ad) L.length c) (.slice none 0 0)).run Tryz.prog x = .ok (.bool false) x := fun x => Lib.run_eql_slice_nil x _ _ (some ad) L.length c 0 0 Tryz.underlying24
    have H1 : Hid (RAt LeafA.cells (w.alloc (.cells #[] 144)) (.slice (some ad) L.length c) L) := h.below (below_alloc1 _ _)
    have HN := Lib.hid hn
    rw [← hbase]
    clear h hbase hn
    go_enter Tryz.func136, Tryz.ntmps136
    go_wp2_with ((with_reducible show wpList _ _ _ (⟨some 7, _, _, _, _, _⟩ :: _) _ _); refine wpList_append_R rfl (.tmp 5) (.tmp 6) 24 rfl LeafA.cells_len leafCells_one base 144 _ 104 Tryz.underlying24 Tryz.infoLeaf3 (by show zeroL.cells.toArray.size = 97; rw [List.size_toArray]; exact zeroL.cells_len) (by omega) (by omega) _ [] L (by rfl) (ROwn.made w base _ (Nat.le_of_eq HBS.out)) _ (by rfl) H1.out (fun _ e => by cases e) (by have := HN.out; simp; omega) (Nat.le_trans (Nat.le_of_eq HBS.out) (below_alloc1 _ _).size) ?_; intro v2 w2 h2 g2)
    go_returns
    obtain ⟨ao2, c2, rfl⟩ := h2.slice
    exact ⟨ao2, c2, by rw [List.nil_append]; rfl, by rw [List.nil_append] at h2; exact h2, by rw [HBS.out]; exact (below_alloc1 w _).grown g2 (below_alloc1 _ _).size (fun q e => by simp [Value.ownBlock] at e; omega)⟩
set_option maxHeartbeats 4000000 in
set_option maxRecDepth 100000 in
theorem CloneP_calls (v : Value) (L : List (ParA × Value)) (w : World) (h : RAt parCellsN w v L) (hn : L.length ≤ 1000000) :
    Calls Tryz.prog 137 #[v] w fun e w' => ∃ ao c, e = .returned (.slice ao L.length c) ∧ ROwn parCellsN 66 w' w.heap.size 126 (.slice ao L.length c) L ∧ Below w.heap.size w w' := by
  obtain ⟨ao, c, rfl⟩ := h.slice
  cases ao with
  | none =>
    have hl : L = [] := by
      rcases h with ⟨h0, _⟩ | ⟨g, o, c', e, _⟩
      · exact h0
      · injection e with e1; cases e1
    subst hl
    have hbo : ∀ x, (binOp BinOp.eql 25 (.slice none 0 c) (.slice none 0 0)).run Tryz.prog x = .ok (.bool true) x := fun x => Lib.run_eql_slice_nil x _ _ none 0 c 0 0 Tryz.underlying25
    clear h hn
    go_enter Tryz.func137, Tryz.ntmps137
    go_wp2_with fail
    go_returns
    exact ⟨none, 0, rfl, ROwn.nil _ _ _, Below.refl _ _⟩
  | some ad =>
    obtain ⟨base, hbase⟩ : ∃ base, base = w.heap.size := ⟨_, rfl⟩
    have HBS : Hid (base = w.heap.size) := hbase
    have hbo : ∀ x, (binOp BinOp.eql 25 (.slice (some ad) L.length c) (.slice none 0 0)).run Tryz.prog x = .ok (.bool false) x := fun x => Lib.run_eql_slice_nil x _ _ (some ad) L.length c 0 0 Tryz.underlying25
    have H1 : Hid (RAt parCellsN (w.alloc (.cells #[] 126)) (.slice (some ad) L.length c) L) := h.below (below_alloc1 _ _)
    have HN := Lib.hid hn
    rw [← hbase]
    clear h hbase hn
    go_enter Tryz.func137, Tryz.ntmps137
    go_wp2_with ((with_reducible show wpList _ _ _ (⟨some 7, _, _, _, _, _⟩ :: _) _ _); refine wpList_append_R rfl (.tmp 5) (.tmp 6) 25 rfl parCellsN_len parCellsN_one base 126 _ 96 Tryz.underlying25 Tryz.infoPar3 (by show (zeroP.cells (.slice none 0 0)).toArray.size = 66; rw [List.size_toArray]; exact zeroP.cells_len _) (by omega) (by omega) _ [] L (by rfl) (ROwn.made w base _ (Nat.le_of_eq HBS.out)) _ (by rfl) H1.out (fun _ e => by cases e) (by have := HN.out; simp; omega) (Nat.le_trans (Nat.le_of_eq HBS.out) (below_alloc1 _ _).size) ?_; intro v2 w2 h2 g2)
    go_returns
    obtain ⟨ao2, c2, rfl⟩ := h2.slice
    exact ⟨ao2, c2, by rw [List.nil_append]; rfl, by rw [List.nil_append] at h2; exact h2, by rw [HBS.out]; exact (below_alloc1 w _).grown g2 (below_alloc1 _ _).size (fun q e => by simp [Value.ownBlock] at e; omega)⟩
set_option maxHeartbeats 4000000 in
set_option maxRecDepth 100000 in
theorem CloneI_calls (v : Value) (L : List Int) (w : World) (h : RAt intCells w v L) (hn : L.length ≤ 1000000) :
    Calls Tryz.prog 138 #[v] w fun e w' => ∃ ao c, e = .returned (.slice ao L.length c) ∧ ROwn intCells 1 w' w.heap.size 3 (.slice ao L.length c) L ∧ Below w.heap.size w w' := by
  obtain ⟨ao, c, rfl⟩ := h.slice
  cases ao with
  | none =>
    have hl : L = [] := by
      rcases h with ⟨h0, _⟩ | ⟨g, o, c', e, _⟩
      · exact h0
      · injection e with e1; cases e1
    subst hl
    have hbo : ∀ x, (binOp BinOp.eql 40 (.slice none 0 c) (.slice none 0 0)).run Tryz.prog x = .ok (.bool true) x := fun x => Lib.run_eql_slice_nil x _ _ none 0 c 0 0 Tryz.underlying40
    clear h hn
    go_enter Tryz.func138, Tryz.ntmps138
    go_wp2_with fail
    go_returns
    exact ⟨none, 0, rfl, ROwn.nil _ _ _, Below.refl _ _⟩
  | some ad =>
    obtain ⟨base, hbase⟩ : ∃ base, base = w.heap.size := ⟨_, rfl⟩
    have HBS : Hid (base = w.heap.size) := hbase
    have hbo : ∀ x, (binOp BinOp.eql 40 (.slice (some ad) L.length c) (.slice none 0 0)).run Tryz.prog x = .ok (.bool false) x := fun x => Lib.run_eql_slice_nil x _ _ (some ad) L.length c 0 0 Tryz.underlying40
    have H1 : Hid (RAt intCells (w.alloc (.cells #[] 3)) (.slice (some ad) L.length c) L) := h.below (below_alloc1 _ _)
    have HN := Lib.hid hn
    rw [← hbase]
    clear h hbase hn
    go_enter Tryz.func138, Tryz.ntmps138
    go_wp2_with ((with_reducible show wpList _ _ _ (⟨some 7, _, _, _, _, _⟩ :: _) _ _); refine wpList_append_R rfl (.tmp 5) (.tmp 6) 40 rfl intCells_len intCells_one base 3 _ 8 Tryz.underlying40 Tryz.infoIntC3 (by rfl) (by omega) (by omega) _ [] L (by rfl) (ROwn.made w base _ (Nat.le_of_eq HBS.out)) _ (by rfl) H1.out (fun _ e => by cases e) (by have := HN.out; simp; omega) (Nat.le_trans (Nat.le_of_eq HBS.out) (below_alloc1 _ _).size) ?_; intro v2 w2 h2 g2)
    go_returns
    obtain ⟨ao2, c2, rfl⟩ := h2.slice
    exact ⟨ao2, c2, by rw [List.nil_append]; rfl, by rw [List.nil_append] at h2; exact h2, by rw [HBS.out]; exact (below_alloc1 w _).grown g2 (below_alloc1 _ _).size (fun q e => by simp [Value.ownBlock] at e; omega)⟩
theorem TreeIs.slices {w : World} {lo po : Option Addr} {n ac m pc : Nat} {lvs : List Value} {T : TreeT} (h : TreeIs w lo n ac po m pc lvs T) : ∀ x ∈ T.pars.zip lvs, parCellsN x = parCells x := by
  rintro ⟨q, u⟩ hx
  obtain ⟨i, hi, e⟩ := List.getElem_of_mem hx
  have e2 : (T.pars.zip lvs)[i]? = some (q, u) := by rw [List.getElem?_eq_getElem hi, e]
  obtain ⟨h1, h2⟩ := List.getElem?_zip_eq_some.1 e2
  obtain ⟨ao, c, h3, _⟩ := h.lo i q u h1 h2
  subst h3
  rfl
theorem TreeIs.drew {w : World} {lo po : Option Addr} {n ac m pc : Nat} {lvs : List Value} {T : TreeT} (h : TreeIs w lo n ac po m pc lvs T) : TreeIs w.drew lo n ac po m pc lvs T := h.below (below_drewN (Below.refl _ _) 1)
theorem TreeIs.leavesAt {w : World} {lo po : Option Addr} {n ac m pc : Nat} {lvs : List Value} {T : TreeT} (h : TreeIs w lo n ac po m pc lvs T) : RAt LeafA.cells w (.slice lo n ac) T.leaves := h.el.flat LeafA.cells_len ac
theorem TreeIs.parsAt {w : World} {lo po : Option Addr} {n ac m pc : Nat} {lvs : List Value} {T : TreeT} (h : TreeIs w lo n ac po m pc lvs T) : RAt parCellsN w (.slice po m pc) (T.pars.zip lvs) := by
  refine Elems.flat parCellsN_len (size := 66) ⟨h.ep.1, h.ep.2.imp id fun ⟨b, off, h1, h2, h3⟩ => ⟨b, off, h1, h2, fun i hi => ?_⟩⟩ pc
  rw [h.slices _ (List.getElem_mem hi)]
  exact h3 i hi
/-- A tree in rows of one's own. -/
structure TreeOwn (w : World) (base : Nat) (lo : Option Addr) (n ac : Nat) (po : Option Addr) (m pc : Nat) (lvs : List Value) (T : TreeT) : Prop where
  ln : T.leaves.length = n
  lm : T.pars.length = m
  lv : lvs.length = m
  el : ROwn LeafA.cells 97 w base 144 (.slice lo n ac) T.leaves
  ep : ROwn parCellsN 66 w base 126 (.slice po m pc) (T.pars.zip lvs)
  lo : ∀ (i : Nat) (q : ParA) (u : Value), T.pars[i]? = some q → lvs[i]? = some u → IntsO w base u q.loose
  wf : ∀ l ∈ T.leaves, wfI l.n
  wl : ∀ q ∈ T.pars, (∀ x ∈ q.loose, wfI x) ∧ q.loose.length ≤ 1000000
theorem TreeOwn.below {w w' : World} {base : Nat} {lo po : Option Addr} {n ac m pc : Nat} {lvs : List Value} {T : TreeT} (h : TreeOwn w base lo n ac po m pc lvs T) (b : Below w.heap.size w w') : TreeOwn w' base lo n ac po m pc lvs T :=
  ⟨h.ln, h.lm, h.lv, h.el.below b, h.ep.below b, fun i q u h1 h2 => (h.lo i q u h1 h2).below b, h.wf, h.wl⟩
theorem TreeOwn.other {w w' : World} {base r : Nat} {lo po : Option Addr} {n ac m pc : Nat} {lvs : List Value} {T : TreeT} {cs : Array Value} {t : TypeId} (h : TreeOwn w base lo n ac po m pc lvs T) (g : w.grownBy w' (some r)) (hr : Blk w r cs t) (h1 : 144 ≠ t) (h2 : 126 ≠ t) (h3 : 3 ≠ t) : TreeOwn w' base lo n ac po m pc lvs T :=
  ⟨h.ln, h.lm, h.lv, h.el.other g hr h1, h.ep.other g hr h2, fun i q u h4 h5 => (h.lo i q u h4 h5).other g hr h3, h.wf, h.wl⟩
theorem TreeOwn.is {w : World} {base : Nat} {lo po : Option Addr} {n ac m pc : Nat} {lvs : List Value} {T : TreeT} (h : TreeOwn w base lo n ac po m pc lvs T) : TreeIs w lo n ac po m pc lvs T := by
  have hep : Elems parCellsN 66 w po m (T.pars.zip lvs) := RAt.elems parCellsN_len (ROwn.at h.ep)
  have hep2 : Elems parCells 66 w po m (T.pars.zip lvs) := by
    refine ⟨hep.1, ?_⟩
    rcases hep.2 with h0 | ⟨b, off, h1, h2, h3⟩
    · exact .inl h0
    · refine .inr ⟨b, off, h1, h2, fun i hi => ?_⟩
      have h4 := h3 i hi
      obtain ⟨qu, hqu⟩ : ∃ x, x = (T.pars.zip lvs)[i] := ⟨_, rfl⟩
      rw [← hqu] at h4 ⊢
      obtain ⟨q, u⟩ := qu
      have e2 : (T.pars.zip lvs)[i]? = some (q, u) := by rw [List.getElem?_eq_getElem hi, hqu]
      obtain ⟨h5, h6⟩ := List.getElem?_zip_eq_some.1 e2
      obtain ⟨ao, c, h7, _⟩ := h.lo i q u h5 h6
      subst h7
      exact h4
  refine ⟨h.ln, h.lm, ?_, ?_, h.lv, RAt.elems LeafA.cells_len (ROwn.at h.el), hep2, h.wf, fun i q u h1 h2 => ?_⟩
  · have := ROwn.cap h.el; rwa [h.ln] at this
  · have := ROwn.cap h.ep; rw [List.length_zip, h.lm, h.lv, Nat.min_self] at this; exact this
  · obtain ⟨ao, c, rfl, h3⟩ := h.lo i q u h1 h2
    have hw := h.wl q (List.mem_of_getElem? h1)
    exact ⟨ao, c, rfl, ROwn.cap h3, RAt.elems (fun _ => rfl) (ROwn.at h3), hw.1, by have := hw.2; unfold maxLen; omega⟩
/-- What copied has from round to round. -/
structure CpSt (N rb : Nat) (lao : Option Addr) (n lc : Nat) (pao : Option Addr) (m pc2 : Nat) (T : TreeT) (lvs : List Value) (i : Nat) (cur : List Value) (x : World) : Prop where
  row : ROwn parCellsN 66 x N 126 (.slice pao m pc2) (T.pars.zip cur)
  len : cur.length = m
  done : ∀ k q u, k < i → T.pars[k]? = some q → cur[k]? = some u → IntsO x N u q.loose
  rest : ∀ k, i ≤ k → cur[k]? = lvs[k]?
  lv : ROwn LeafA.cells 97 x N 144 (.slice lao n lc) T.leaves
  rb : Blk x rb #[.slice none 0 0, .slice none 0 0] 27
section
variable {N rb : Nat} {lao : Option Addr} {n lc : Nat} {pao : Option Addr} {m pc2 : Nat} {T : TreeT} {lvs : List Value} {i : Nat} {cur : List Value} {x : World}
theorem CpSt.below {y : World} (h : CpSt N rb lao n lc pao m pc2 T lvs i cur x) (b : Below x.heap.size x y) : CpSt N rb lao n lc pao m pc2 T lvs i cur y :=
  ⟨h.row.below b, h.len, fun k q u h1 h2 h3 => (h.done k q u h1 h2 h3).below b, h.rest, h.lv.below b, h.rb.below b h.rb.lt⟩
theorem CpSt.drew (h : CpSt N rb lao n lc pao m pc2 T lvs i cur x) : CpSt N rb lao n lc pao m pc2 T lvs i cur x.drew := h.below (below_drewN (Below.refl _ _) 1)
theorem CpSt.store {y : World} {g : Nat} {q : ParA} {u : Value} (h : CpSt N rb lao n lc (some ⟨g, 0, none⟩) m pc2 T lvs i cur x) (hi : i < m) (hm : T.pars.length = m) (hq : T.pars[i]? = some q) (hu : IntsO x N u q.loose)
    (hr : y.ownsRow N 126 66 (.slice (some ⟨g, 0, none⟩) m pc2) m (((T.pars.zip cur).flatMap parCellsN).set (i * 66 + 65) u)) (gr : x.grownBy y (some g)) : CpSt N rb lao n lc (some ⟨g, 0, none⟩) m pc2 T lvs (i + 1) (cur.set i u) y := by
  obtain ⟨cs, hb⟩ := h.row.blk
  obtain ⟨ao, c, rfl, hu2⟩ := hu
  obtain ⟨u0, hu0⟩ : ∃ u0, cur[i]? = some u0 := ⟨_, List.getElem?_eq_getElem (by rw [h.len]; exact hi)⟩
  have hz : (T.pars.zip cur)[i]? = some (q, u0) := List.getElem?_zip_eq_some.2 ⟨hq, hu0⟩
  rw [flat_set1 parCellsN_len _ i 65 (q, u0) (q, .slice ao q.loose.length c) _ hz (by omega) (show parCellsN (q, .slice ao q.loose.length c) = (parCellsN (q, u0)).set 65 (.slice ao q.loose.length c) from parCellsN_set q u0 _), zip_set _ _ _ _ _ hq] at hr
  have hl : (T.pars.zip (cur.set i (.slice ao q.loose.length c))).length = m := by rw [List.length_zip, hm, List.length_set, h.len, Nat.min_self]
  refine ⟨by unfold ROwn; rw [hl]; exact hr, by rw [List.length_set]; exact h.len, fun k q' u' h1 h2 h3 => ?_, fun k hk => ?_, h.lv.other gr hb (by decide), h.rb.grown gr (fun e => own_ne h.row h.rb (by decide) (by rw [Option.some.inj e]; rfl))⟩
  · rw [List.getElem?_set] at h3
    by_cases e : i = k
    · subst e
      rw [if_pos rfl, if_pos (by rw [h.len]; exact hi)] at h3
      obtain rfl := Option.some.inj h3
      rw [hq] at h2
      obtain rfl := Option.some.inj h2
      exact IntsO.other ⟨ao, c, rfl, hu2⟩ gr hb (by decide)
    · rw [if_neg e] at h3
      exact (h.done k q' u' (by omega) h2 h3).other gr hb (by decide)
  · rw [List.getElem?_set, if_neg (by omega)]
    exact h.rest k (by omega)
end
set_option maxHeartbeats 16000000 in
set_option maxRecDepth 100000 in
theorem copied_calls (lo po : Option Addr) (n ac m pc : Nat) (lvs : List Value) (T : TreeT) (w : World) (hT : TreeIs w lo n ac po m pc lvs T) (hn : n ≤ 1000000) (hm : m ≤ 1000000) (hw : ∀ q ∈ T.pars, q.loose.length ≤ 1000000) :
    Calls Tryz.prog 63 #[.agg #[.slice lo n ac, .slice po m pc]] w fun e w' => ∃ lao lc pao pc2 cur, e = .returned (.agg #[.slice lao n lc, .slice pao m pc2]) ∧ TreeOwn w' w.heap.size lao n lc pao m pc2 cur T ∧ Below w.heap.size w w' := by
  obtain ⟨N, hN⟩ : ∃ N, N = w.heap.size := ⟨_, rfl⟩
  have HN : Hid (N = w.heap.size) := hN
  have hA0 : Blk ((w.alloc (.cells #[.slice lo n ac, .slice po m pc] 27)).alloc (.cells #[.slice none 0 0, .slice none 0 0] 27)) N #[.slice lo n ac, .slice po m pc] 27 := by rw [hN]; exact (Blk.new _ _ _).alloc _
  have hR0 : Blk ((w.alloc (.cells #[.slice lo n ac, .slice po m pc] 27)).alloc (.cells #[.slice none 0 0, .slice none 0 0] 27)) (N + 1) #[.slice none 0 0, .slice none 0 0] 27 := by rw [hN]; exact blk_nxt _ _ _ _
  have hb0 : Below N w ((w.alloc (.cells #[.slice lo n ac, .slice po m pc] 27)).alloc (.cells #[.slice none 0 0, .slice none 0 0] 27)) := by rw [hN]; exact ((Below.refl _ _).alloc (Nat.le_refl _) _).alloc (by simp) _
  have HT := Lib.hid hT
  have HT1 := Lib.hid (hT.below (by rw [← hN]; exact hb0))
  have HLN := Lib.hid hT.ln
  have HLM := Lib.hid hT.lm
  have HW := Lib.hid hw
  have c1 : ∀ y, TreeIs y lo n ac po m pc lvs T → Below N w y → Calls Tryz.prog 136 #[.slice lo n ac] y fun e w' => ∃ ao c, e = .returned (.slice ao n c) ∧ ROwn LeafA.cells 97 w' N 144 (.slice ao n c) T.leaves ∧ Below y.heap.size y w' := fun y hy hy2 => by
    have := CloneL_calls _ T.leaves y hy.leavesAt (by rw [hy.ln]; exact hn)
    rw [hy.ln] at this
    exact this.mono fun e w' ⟨ao, c, h1, h2, h3⟩ => ⟨ao, c, h1, h2.low (Nat.le_trans (Nat.le_of_eq HN.out) hy2.size), h3⟩
  have c2 : ∀ y, TreeIs y lo n ac po m pc lvs T → Below N w y → Calls Tryz.prog 137 #[.slice po m pc] y fun e w' => ∃ ao c, e = .returned (.slice ao m c) ∧ ROwn parCellsN 66 w' N 126 (.slice ao m c) (T.pars.zip lvs) ∧ Below y.heap.size y w' := fun y hy hy2 => by
    have hl : (T.pars.zip lvs).length = m := by rw [List.length_zip, hy.lm, hy.lv, Nat.min_self]
    have := CloneP_calls _ (T.pars.zip lvs) y hy.parsAt (by rw [hl]; exact hm)
    rw [hl] at this
    exact this.mono fun e w' ⟨ao, c, h1, h2, h3⟩ => ⟨ao, c, h1, h2.low (Nat.le_trans (Nat.le_of_eq HN.out) hy2.size), h3⟩
  rw [← hN]
  have HCN := Lib.hid hn
  clear hT hw hn
  go_enter Tryz.func63, Tryz.ntmps63
  go_wp2_with fail
  obtain ⟨W1, hW1⟩ : ∃ z, z = (w.alloc (.cells #[.slice lo n ac, .slice po m pc] 27)).alloc (.cells #[.slice none 0 0, .slice none 0 0] 27) := ⟨_, rfl⟩
  rw [← hN]
  rw [← hW1] at hA0 hR0 hb0 HT1 ⊢
  clear hW1 hN
  go_cut [3] from 5 to 11 (fun p wx => ∃ ob lao lc pao pc2, p = .pointer (some ⟨ob, 0, none⟩) ∧ N ≤ ob ∧ ob ≠ N + 1 ∧ Hid (Blk wx ob #[.slice lao n lc, .slice pao m pc2] 27) ∧ Hid (ROwn LeafA.cells 97 wx N 144 (.slice lao n lc) T.leaves) ∧ Hid (ROwn parCellsN 66 wx N 126 (.slice pao m pc2) (T.pars.zip lvs)) ∧ Hid (Blk wx (N + 1) #[.slice none 0 0, .slice none 0 0] 27) ∧ Hid (Below N w wx))
  case first =>
    refine wp_region_held_drew (S := fun x => Blk x (N) #[.slice lo n ac, .slice po m pc] 27 ∧ Blk x ((N + 1)) #[.slice none 0 0, .slice none 0 0] 27 ∧ Below N w x) (by kernel_rfl) ⟨hA0.drew, hR0.drew, below_drewN hb0 1⟩ (fun hSq1 => ?_)
    have hHq2 := Lib.hid (HT1.out.drew)
    refine wpAnyH_take (i := 0) (v := .pointer (some ⟨N, 0, none⟩)) rfl (by kernel_rfl) (by kernel_rfl) (by kernel_rfl) (fun _ _ _ h => h) (Or.inl ⟨by rfl, fun x hx => by go_simp⟩) hSq1 ?_
    simp only [Act.put, List.getElem_toArray, List.getElem_cons_zero, List.getElem_cons_succ, List.setIfInBounds_toArray, List.set_cons_zero, List.set_cons_succ]
    refine wpAnyH_take (i := 1) (v := .slice lo n ac) rfl (by kernel_rfl) (by kernel_rfl) (by kernel_rfl) (fun _ _ _ h => h) (Or.inl ⟨by rfl, fun x hx => by have hc := hx.1.cell 0 _ rfl; go_simp⟩) hSq1 ?_
    simp only [Act.put, List.getElem_toArray, List.getElem_cons_zero, List.getElem_cons_succ, List.setIfInBounds_toArray, List.set_cons_zero, List.set_cons_succ]
    refine wpAnyH_take (i := 3) (v := .pointer (some ⟨N, 1, none⟩)) rfl (by kernel_rfl) (by kernel_rfl) (by kernel_rfl) (fun _ _ _ h => h) (Or.inl ⟨by rfl, fun x hx => by go_simp⟩) hSq1 ?_
    simp only [Act.put, List.getElem_toArray, List.getElem_cons_zero, List.getElem_cons_succ, List.setIfInBounds_toArray, List.set_cons_zero, List.set_cons_succ]
    refine wpAnyH_take (i := 4) (v := .slice po m pc) rfl (by kernel_rfl) (by kernel_rfl) (by kernel_rfl) (fun _ _ _ h => h) (Or.inl ⟨by rfl, fun x hx => by have hc := hx.1.cell 1 _ rfl; go_simp⟩) hSq1 ?_
    simp only [Act.put, List.getElem_toArray, List.getElem_cons_zero, List.getElem_cons_succ, List.setIfInBounds_toArray, List.set_cons_zero, List.set_cons_succ]
    refine wpAnyH_ready (rs := [2, 7]) (by kernel_rfl) (by simp) ?_
    refine AllReadyH.cons rfl (fun K hK => ?_) ?_
    · go_simp
      go_wp2_with (go_at_call 136; refine (c1 _ hHq2.out hSq1.2.2).mono ?_; rintro e yq3 ⟨lao, lc, rfl, hL, bq4⟩; have HLo := Lib.hid hL; clear hL)
      have hHq5 := Lib.hid (hHq2.out.below bq4)
      refine hK.out _ _ ⟨hSq1.1.below bq4 hSq1.1.lt, hSq1.2.1.below bq4 hSq1.2.1.lt, hSq1.2.2.trans (bq4.mono (Nat.le_trans (Nat.le_of_eq HN.out) hSq1.2.2.size))⟩ (fun hSq6 => ?_)
      clear hK K hSq1 bq4
      refine wpAnyH_ready (rs := [5, 7]) (by kernel_rfl) (by simp) ?_
      refine AllReadyH.cons rfl (fun K hK => ?_) ?_
      · go_simp
        go_wp2_with (go_at_call 137; refine (c2 _ hHq5.out hSq6.2.2).mono ?_; rintro e yq7 ⟨pao, pc2, rfl, hP, bq8⟩; have HPo := Lib.hid hP; clear hP)
        have hHq9 := Lib.hid (hHq5.out.below bq8)
        have hHq10 := Lib.hid (HLo.out.below bq8)
        refine hK.out _ _ ⟨hSq6.1.below bq8 hSq6.1.lt, hSq6.2.1.below bq8 hSq6.2.1.lt, hSq6.2.2.trans (bq8.mono (Nat.le_trans (Nat.le_of_eq HN.out) hSq6.2.2.size))⟩ (fun hSq11 => ?_)
        clear hK K hSq6 bq8
        refine wpAnyH_take (i := 6) (v := .agg #[.slice lao n lc, .slice pao m pc2]) rfl (by kernel_rfl) (by kernel_rfl) (by kernel_rfl) (fun _ _ _ h => h) (Or.inl ⟨by rfl, fun x hx => by go_simp⟩) hSq11 ?_
        simp only [Act.put, List.getElem_toArray, List.getElem_cons_zero, List.getElem_cons_succ, List.setIfInBounds_toArray, List.set_cons_zero, List.set_cons_succ]
        refine wpAnyH_ready (rs := [7]) (by kernel_rfl) (by simp) ?_
        refine AllReadyH.cons rfl (fun K hK => ?_) AllReadyH.nil
        rw [if_pos (by rfl)]
        refine wp_allocZ 27 rfl _ Tryz.zeroTree ?_
        intro gq15 yq13 egq16 ezq17 bq12 hEq14
        have lgq18 : N ≤ gq15 := by rw [egq16]; exact Nat.le_trans (Nat.le_of_eq HN.out) hSq11.2.2.size
        have lbq19 : N < gq15 := by rw [egq16]; exact hSq11.1.lt
        have lbq20 : (N + 1) < gq15 := by rw [egq16]; exact hSq11.2.1.lt
        have hHq21 := Lib.hid (hHq9.out.below bq12)
        have hHq22 := Lib.hid (hHq10.out.below bq12)
        have hHq23 := Lib.hid (HPo.out.below bq12)
        refine hK.out _ _ ⟨hSq11.1.below bq12 hSq11.1.lt, hSq11.2.1.below bq12 hSq11.2.1.lt, hSq11.2.2.trans (bq12.mono (Nat.le_trans (Nat.le_of_eq HN.out) hSq11.2.2.size))⟩ (fun hSq24 => ?_)
        clear hK K hSq11 bq12 egq16 ezq17
        refine wpAnyH_ready (rs := [8]) (by kernel_rfl) (by simp) ?_
        refine AllReadyH.cons rfl (fun K hK => ?_) AllReadyH.nil
        rw [if_pos (by rfl)]
        refine wp_storeBlk 27 (.tmp 3) (.tmp 11) rfl gq15 #[.slice lao n lc, .slice pao m pc2] (by rfl) (by rfl) _ _ hEq14 (Tryz.sizeTree) (by rfl) (by simp [Value.oneCell']) ?_
        intro yq25 hEq26 grq27
        have hHq28 := Lib.hid (hHq22.out.other grq27 hEq14 (by decide))
        have hHq29 := Lib.hid (hHq23.out.other grq27 hEq14 (by decide))
        refine hK.out _ _ ⟨hSq24.1.grown grq27 (by first | (simp; done) | (simp; omega) | omega), hSq24.2.1.grown grq27 (by first | (simp; done) | (simp; omega) | omega), below_new hSq24.2.2 grq27 lgq18 (Nat.le_trans (Nat.le_of_eq HN.out) hSq24.2.2.size)⟩ (fun hSq30 => ?_)
        clear hK K hSq24
        refine wpAnyH_done (by kernel_rfl) ?_ _
        go_wp2_with fail
        go_meet
        exact ⟨gq15, _, _, _, _, rfl, lgq18, (by omega), hEq26, hHq28, hHq29, hSq30.2.1, hSq30.2.2⟩
      refine AllReadyH.cons rfl (fun K hK => ?_) AllReadyH.nil
      rw [if_pos (by rfl)]
      refine wp_allocZ 27 rfl _ Tryz.zeroTree ?_
      intro gq34 yq32 egq35 ezq36 bq31 hEq33
      have lgq37 : N ≤ gq34 := by rw [egq35]; exact Nat.le_trans (Nat.le_of_eq HN.out) hSq6.2.2.size
      have lbq38 : N < gq34 := by rw [egq35]; exact hSq6.1.lt
      have lbq39 : (N + 1) < gq34 := by rw [egq35]; exact hSq6.2.1.lt
      have hHq40 := Lib.hid (hHq5.out.below bq31)
      have hHq41 := Lib.hid (HLo.out.below bq31)
      refine hK.out _ _ ⟨hSq6.1.below bq31 hSq6.1.lt, hSq6.2.1.below bq31 hSq6.2.1.lt, hSq6.2.2.trans (bq31.mono (Nat.le_trans (Nat.le_of_eq HN.out) hSq6.2.2.size))⟩ (fun hSq42 => ?_)
      clear hK K hSq6 bq31 egq35 ezq36
      refine wpAnyH_ready (rs := [5]) (by kernel_rfl) (by simp) ?_
      refine AllReadyH.cons rfl (fun K hK => ?_) AllReadyH.nil
      go_simp
      go_wp2_with (go_at_call 137; refine (c2 _ hHq40.out hSq42.2.2).mono ?_; rintro e yq43 ⟨pao, pc2, rfl, hP, bq44⟩; have HPo := Lib.hid hP; clear hP)
      have hEq45 := hEq33.below bq44 hEq33.lt
      have hHq46 := Lib.hid (hHq40.out.below bq44)
      have hHq47 := Lib.hid (hHq41.out.below bq44)
      refine hK.out _ _ ⟨hSq42.1.below bq44 hSq42.1.lt, hSq42.2.1.below bq44 hSq42.2.1.lt, hSq42.2.2.trans (bq44.mono (Nat.le_trans (Nat.le_of_eq HN.out) hSq42.2.2.size))⟩ (fun hSq48 => ?_)
      clear hK K hSq42 bq44
      refine wpAnyH_take (i := 6) (v := .agg #[.slice lao n lc, .slice pao m pc2]) rfl (by kernel_rfl) (by kernel_rfl) (by kernel_rfl) (fun _ _ _ h => h) (Or.inl ⟨by rfl, fun x hx => by go_simp⟩) hSq48 ?_
      simp only [Act.put, List.getElem_toArray, List.getElem_cons_zero, List.getElem_cons_succ, List.setIfInBounds_toArray, List.set_cons_zero, List.set_cons_succ]
      refine wpAnyH_ready (rs := [8]) (by kernel_rfl) (by simp) ?_
      refine AllReadyH.cons rfl (fun K hK => ?_) AllReadyH.nil
      rw [if_pos (by rfl)]
      refine wp_storeBlk 27 (.tmp 3) (.tmp 11) rfl gq34 #[.slice lao n lc, .slice pao m pc2] (by rfl) (by rfl) _ _ hEq45 (Tryz.sizeTree) (by rfl) (by simp [Value.oneCell']) ?_
      intro yq49 hEq50 grq51
      have hHq52 := Lib.hid (hHq47.out.other grq51 hEq45 (by decide))
      have hHq53 := Lib.hid (HPo.out.other grq51 hEq45 (by decide))
      refine hK.out _ _ ⟨hSq48.1.grown grq51 (by first | (simp; done) | (simp; omega) | omega), hSq48.2.1.grown grq51 (by first | (simp; done) | (simp; omega) | omega), below_new hSq48.2.2 grq51 lgq37 (Nat.le_trans (Nat.le_of_eq HN.out) hSq48.2.2.size)⟩ (fun hSq54 => ?_)
      clear hK K hSq48
      refine wpAnyH_done (by kernel_rfl) ?_ _
      go_wp2_with fail
      go_meet
      exact ⟨gq34, _, _, _, _, rfl, lgq37, (by omega), hEq50, hHq52, hHq53, hSq54.2.1, hSq54.2.2⟩
    refine AllReadyH.cons rfl (fun K hK => ?_) AllReadyH.nil
    rw [if_pos (by rfl)]
    refine wp_allocZ 27 rfl _ Tryz.zeroTree ?_
    intro gq58 yq56 egq59 ezq60 bq55 hEq57
    have lgq61 : N ≤ gq58 := by rw [egq59]; exact Nat.le_trans (Nat.le_of_eq HN.out) hSq1.2.2.size
    have lbq62 : N < gq58 := by rw [egq59]; exact hSq1.1.lt
    have lbq63 : (N + 1) < gq58 := by rw [egq59]; exact hSq1.2.1.lt
    have hHq64 := Lib.hid (hHq2.out.below bq55)
    refine hK.out _ _ ⟨hSq1.1.below bq55 hSq1.1.lt, hSq1.2.1.below bq55 hSq1.2.1.lt, hSq1.2.2.trans (bq55.mono (Nat.le_trans (Nat.le_of_eq HN.out) hSq1.2.2.size))⟩ (fun hSq65 => ?_)
    clear hK K hSq1 bq55 egq59 ezq60
    refine wpAnyH_ready (rs := [2]) (by kernel_rfl) (by simp) ?_
    refine AllReadyH.cons rfl (fun K hK => ?_) AllReadyH.nil
    go_simp
    go_wp2_with (go_at_call 136; refine (c1 _ hHq64.out hSq65.2.2).mono ?_; rintro e yq66 ⟨lao, lc, rfl, hL, bq67⟩; have HLo := Lib.hid hL; clear hL)
    have hEq68 := hEq57.below bq67 hEq57.lt
    have hHq69 := Lib.hid (hHq64.out.below bq67)
    refine hK.out _ _ ⟨hSq65.1.below bq67 hSq65.1.lt, hSq65.2.1.below bq67 hSq65.2.1.lt, hSq65.2.2.trans (bq67.mono (Nat.le_trans (Nat.le_of_eq HN.out) hSq65.2.2.size))⟩ (fun hSq70 => ?_)
    clear hK K hSq65 bq67
    refine wpAnyH_ready (rs := [5]) (by kernel_rfl) (by simp) ?_
    refine AllReadyH.cons rfl (fun K hK => ?_) AllReadyH.nil
    go_simp
    go_wp2_with (go_at_call 137; refine (c2 _ hHq69.out hSq70.2.2).mono ?_; rintro e yq71 ⟨pao, pc2, rfl, hP, bq72⟩; have HPo := Lib.hid hP; clear hP)
    have hEq73 := hEq68.below bq72 hEq68.lt
    have hHq74 := Lib.hid (hHq69.out.below bq72)
    have hHq75 := Lib.hid (HLo.out.below bq72)
    refine hK.out _ _ ⟨hSq70.1.below bq72 hSq70.1.lt, hSq70.2.1.below bq72 hSq70.2.1.lt, hSq70.2.2.trans (bq72.mono (Nat.le_trans (Nat.le_of_eq HN.out) hSq70.2.2.size))⟩ (fun hSq76 => ?_)
    clear hK K hSq70 bq72
    refine wpAnyH_take (i := 6) (v := .agg #[.slice lao n lc, .slice pao m pc2]) rfl (by kernel_rfl) (by kernel_rfl) (by kernel_rfl) (fun _ _ _ h => h) (Or.inl ⟨by rfl, fun x hx => by go_simp⟩) hSq76 ?_
    simp only [Act.put, List.getElem_toArray, List.getElem_cons_zero, List.getElem_cons_succ, List.setIfInBounds_toArray, List.set_cons_zero, List.set_cons_succ]
    refine wpAnyH_ready (rs := [8]) (by kernel_rfl) (by simp) ?_
    refine AllReadyH.cons rfl (fun K hK => ?_) AllReadyH.nil
    rw [if_pos (by rfl)]
    refine wp_storeBlk 27 (.tmp 3) (.tmp 11) rfl gq58 #[.slice lao n lc, .slice pao m pc2] (by rfl) (by rfl) _ _ hEq73 (Tryz.sizeTree) (by rfl) (by simp [Value.oneCell']) ?_
    intro yq77 hEq78 grq79
    have hHq80 := Lib.hid (hHq75.out.other grq79 hEq73 (by decide))
    have hHq81 := Lib.hid (HPo.out.other grq79 hEq73 (by decide))
    refine hK.out _ _ ⟨hSq76.1.grown grq79 (by first | (simp; done) | (simp; omega) | omega), hSq76.2.1.grown grq79 (by first | (simp; done) | (simp; omega) | omega), below_new hSq76.2.2 grq79 lgq61 (Nat.le_trans (Nat.le_of_eq HN.out) hSq76.2.2.size)⟩ (fun hSq82 => ?_)
    clear hK K hSq76
    refine wpAnyH_done (by kernel_rfl) ?_ _
    go_wp2_with fail
    go_meet
    exact ⟨gq58, _, _, _, _, rfl, lgq61, (by omega), hEq78, hHq80, hHq81, hSq82.2.1, hSq82.2.2⟩
  case rest =>
    obtain ⟨ob, lao, lc, pao, pc2, rfl, hob, hobr, hO, hL, hP, hR, hB⟩ := hcut
    clear hA0 hR0 hb0 HT1 c1 c2
    have hO1 := hO.out
    go_wp2_with ((with_reducible show wpList _ _ _ (⟨some 13, _, _, _, _, _⟩ :: _) _ _); refine wpList_load1 rfl 25 (.tmp 12) rfl ob 1 (by rfl) _ _ (hO1.cell 1 _ rfl) Tryz.underlying25 rfl ?_)
    have HS0 : Hid (CpSt N (N + 1) lao n lc pao m pc2 T lvs 0 lvs wc) := ⟨hP.out, HT.out.lv, fun k q u hk => by omega, fun k hk => rfl, hL.out, hR.out⟩
    clear hO1 hL hP hR
    go_loopw [15] (fun j wr => ∃ (i : Nat) (cur : List Value), i ≤ m ∧ j = .int .i64 i ∧ Hid (CpSt N (N + 1) lao n lc pao m pc2 T lvs i cur wr) ∧ Hid (Blk wr ob #[.slice lao n lc, .slice pao m pc2] 27) ∧ Hid (Below N w wr)) (fun j _ => m - (intOf j).toNat)
    case atStart => exact ⟨0, lvs, by omega, rfl, HS0, hO, hB⟩
    case round =>
      clear HS0 hO hB
      obtain ⟨i, cur, hi, rfl, HS, HO, HB⟩ := hrel
      by_cases hlt : i < m
      · obtain ⟨pg, rfl⟩ := HS.out.row.addr (by omega)
        obtain ⟨q, hq⟩ : ∃ q, T.pars[i]? = some q := ⟨_, List.getElem?_eq_getElem (by rw [HLM.out]; exact hlt)⟩
        obtain ⟨u, hu⟩ : ∃ u, lvs[i]? = some u := ⟨_, List.getElem?_eq_getElem (by rw [HT.out.lv]; exact hlt)⟩
        obtain ⟨uo, uc, rfl, huc, hue, huw, hum⟩ := HT.out.lo i q u hq hu
        have hcur : cur[i]? = some (.slice uo q.loose.length uc) := (HS.out.rest i (Nat.le_refl _)).trans hu
        have HZ : Hid ((T.pars.zip cur)[i]? = some (q, .slice uo q.loose.length uc)) := List.getElem?_zip_eq_some.2 ⟨hq, hcur⟩
        have HQ := Lib.hid hq
        have HUE : Hid (∀ y, Below N w y → RAt intCells y (.slice uo q.loose.length uc) q.loose) := fun y hy => (hue.flat intCells_len uc).below (by rw [← HN.out]; exact hy)
        have HQL : Hid (q.loose.length ≤ 1000000) := HW.out q (List.mem_of_getElem? hq)
        obtain ⟨k, hk⟩ : ∃ k, k = q.loose.length := ⟨_, rfl⟩
        have HK := Lib.hid hk
        rw [← hk] at HZ HUE
        have c3 : ∀ y, Below N w y → Calls Tryz.prog 138 #[.slice uo k uc] y fun e w' => ∃ ao c, e = .returned (.slice ao k c) ∧ IntsO w' N (.slice ao k c) q.loose ∧ Below y.heap.size y w' := fun y hy => by
          have := CloneI_calls _ q.loose y (HUE.out y hy) HQL.out
          rw [← HK.out] at this
          exact this.mono fun e w' ⟨ao, c, h1, h2, h3⟩ => ⟨ao, c, h1, ⟨ao, c, by rw [HK.out], h2.low (Nat.le_trans (Nat.le_of_eq HN.out) hy.size)⟩, h3⟩
        have hO := HO.out
        have hB := HB.out
        have hSd := HS.out.drew
        clear hq hu huc hue huw hum hcur hk HO HB HS
        go_wp2_with fail
        refine wp_region_held_drew (S := fun x => Blk x (ob) #[.slice lao n lc, .slice (some ⟨pg, 0, none⟩) m pc2] 27 ∧ Below N w x) (by kernel_rfl) ⟨hO.drew, below_drewN hB 1⟩ (fun hSq83 => ?_)
        refine wpAnyH_take (i := 0) (v := .pointer (some ⟨ob, 1, none⟩)) rfl (by kernel_rfl) (by kernel_rfl) (by kernel_rfl) (fun _ _ _ h => h) (Or.inl ⟨by rfl, fun x hx => by go_simp⟩) hSq83 ?_
        simp only [Act.put, List.getElem_toArray, List.getElem_cons_zero, List.getElem_cons_succ, List.setIfInBounds_toArray, List.set_cons_zero, List.set_cons_succ]
        refine wpAnyH_take (i := 1) (v := .slice (some ⟨pg, 0, none⟩) m pc2) rfl (by kernel_rfl) (by kernel_rfl) (by kernel_rfl) (fun _ _ _ h => h) (Or.inl ⟨by rfl, fun x hx => by have hc := hx.1.cell 1 _ rfl; go_simp⟩) hSq83 ?_
        simp only [Act.put, List.getElem_toArray, List.getElem_cons_zero, List.getElem_cons_succ, List.setIfInBounds_toArray, List.set_cons_zero, List.set_cons_succ]
        refine wpAnyH_take (i := 2) (v := .int .i64 i) rfl (by kernel_rfl) (by kernel_rfl) (by kernel_rfl) (fun _ _ _ h => h) (Or.inl ⟨by rfl, fun x hx => by go_simp⟩) hSq83 ?_
        simp only [Act.put, List.getElem_toArray, List.getElem_cons_zero, List.getElem_cons_succ, List.setIfInBounds_toArray, List.set_cons_zero, List.set_cons_succ]
        refine wpAnyH_take (i := 3) (v := .pointer (some ⟨ob, 1, none⟩)) rfl (by kernel_rfl) (by kernel_rfl) (by kernel_rfl) (fun _ _ _ h => h) (Or.inl ⟨by rfl, fun x hx => by go_simp⟩) hSq83 ?_
        simp only [Act.put, List.getElem_toArray, List.getElem_cons_zero, List.getElem_cons_succ, List.setIfInBounds_toArray, List.set_cons_zero, List.set_cons_succ]
        refine wpAnyH_take (i := 4) (v := .slice (some ⟨pg, 0, none⟩) m pc2) rfl (by kernel_rfl) (by kernel_rfl) (by kernel_rfl) (fun _ _ _ h => h) (Or.inl ⟨by rfl, fun x hx => by have hc := hx.1.cell 1 _ rfl; go_simp⟩) hSq83 ?_
        simp only [Act.put, List.getElem_toArray, List.getElem_cons_zero, List.getElem_cons_succ, List.setIfInBounds_toArray, List.set_cons_zero, List.set_cons_succ]
        refine wpAnyH_take (i := 5) (v := .int .i64 i) rfl (by kernel_rfl) (by kernel_rfl) (by kernel_rfl) (fun _ _ _ h => h) (Or.inl ⟨by rfl, fun x hx => by go_simp⟩) hSq83 ?_
        simp only [Act.put, List.getElem_toArray, List.getElem_cons_zero, List.getElem_cons_succ, List.setIfInBounds_toArray, List.set_cons_zero, List.set_cons_succ]
        refine wpAnyH_take (i := 6) (v := .pointer (some ⟨pg, i * 66, none⟩)) rfl (by kernel_rfl) (by kernel_rfl) (by kernel_rfl) (fun _ _ _ h => h) (Or.inl ⟨by rfl, fun x hx => by go_simp⟩) hSq83 ?_
        simp only [Act.put, List.getElem_toArray, List.getElem_cons_zero, List.getElem_cons_succ, List.setIfInBounds_toArray, List.set_cons_zero, List.set_cons_succ]
        refine wpAnyH_take (i := 7) (v := .pointer (some ⟨pg, i * 66 + 65, none⟩)) rfl (by kernel_rfl) (by kernel_rfl) (by kernel_rfl) (fun _ _ _ h => h) (Or.inl ⟨by rfl, fun x hx => by go_simp⟩) hSq83 ?_
        simp only [Act.put, List.getElem_toArray, List.getElem_cons_zero, List.getElem_cons_succ, List.setIfInBounds_toArray, List.set_cons_zero, List.set_cons_succ]
        refine wpAnyH_ready (rs := [8]) (by kernel_rfl) (by simp) ?_
        refine AllReadyH.cons rfl (fun K hK => ?_) AllReadyH.nil
        have hcq84 := (hSd.row.at.range' parCellsN_len i _ HZ.out) 65 (.slice uo k uc) (by show (q.cells (.slice uo k uc))[65]? = _; rw [ParA.cells, List.getElem?_cons_succ, List.getElem?_append_right (by simp [q.hp]), List.getElem?_append_right (by simp [q.hp, q.ha])]; simp [q.hp, q.ha])
        rw [Nat.zero_add] at hcq84
        go_simp
        clear hcq84
        refine hK.out _ _ hSq83 (fun hSq85 => ?_)
        clear hK K hSq83
        refine wpAnyH_ready (rs := [9]) (by kernel_rfl) (by simp) ?_
        refine AllReadyH.cons rfl (fun K hK => ?_) AllReadyH.nil
        go_simp
        go_wp2_with (go_at_call 138; refine (c3 _ hSq85.2).mono ?_; rintro e yq86 ⟨iao, ic, rfl, hIq90, bq87⟩)
        have hTq89 := hSd.below bq87
        refine hK.out _ _ ⟨hSq85.1.below bq87 hSq85.1.lt, hSq85.2.trans (bq87.mono (Nat.le_trans (Nat.le_of_eq HN.out) hSq85.2.size))⟩ (fun hSq88 => ?_)
        clear hK K hSq85 bq87 hSd
        refine wpAnyH_take (i := 10) (v := .pointer (some ⟨pg, i * 66, none⟩)) rfl (by kernel_rfl) (by kernel_rfl) (by kernel_rfl) (fun _ _ _ h => h) (Or.inl ⟨by rfl, fun x hx => by go_simp⟩) hSq88 ?_
        simp only [Act.put, List.getElem_toArray, List.getElem_cons_zero, List.getElem_cons_succ, List.setIfInBounds_toArray, List.set_cons_zero, List.set_cons_succ]
        refine wpAnyH_take (i := 11) (v := .pointer (some ⟨pg, i * 66 + 65, none⟩)) rfl (by kernel_rfl) (by kernel_rfl) (by kernel_rfl) (fun _ _ _ h => h) (Or.inl ⟨by rfl, fun x hx => by go_simp⟩) hSq88 ?_
        simp only [Act.put, List.getElem_toArray, List.getElem_cons_zero, List.getElem_cons_succ, List.setIfInBounds_toArray, List.set_cons_zero, List.set_cons_succ]
        refine wpAnyH_ready (rs := [12]) (by kernel_rfl) (by simp) ?_
        refine AllReadyH.cons rfl (fun K hK => ?_) AllReadyH.nil
        rw [if_pos (by rfl)]
        refine wp_storeRow1 40 (.tmp 29) (.tmp 27) rfl pg (i * 66 + 65) (.slice iao k ic) (by rfl) (by rfl) N 126 66 m pc2 _ (by have h := hTq89.row; unfold ROwn at h; rwa [show (T.pars.zip cur).length = m by rw [List.length_zip, HLM.out, hTq89.len, Nat.min_self]] at h) (by omega) Tryz.sizeIntsS rfl rfl ?_
        intro yq91 hrq95 gq92
        have hTq94 := hTq89.store hlt HLM.out HQ.out hIq90 hrq95 gq92
        have hne : pg ≠ ob := fun e => own_ne hTq89.row hSq88.1 (by decide) (by rw [e]; rfl)
        have hge := (hTq89.row.lt pg rfl).1
        refine hK.out _ _ ⟨hSq88.1.grown gq92 (fun e => hne (Option.some.inj e).symm), hSq88.2.grown gq92 (Nat.le_trans (Nat.le_of_eq HN.out) hSq88.2.size) (fun q e => by cases e; exact hge)⟩ (fun hSq93 => ?_)
        clear hK K hSq88 gq92 hTq89 hrq95
        refine wpAnyH_done (by kernel_rfl) ?_ _
        have HS9 := Lib.hid hTq94
        have HO9 := Lib.hid (hSq93.1)
        have HB9 := Lib.hid (hSq93.2)
        clear hSq93 hTq94 hIq90 hne hge c3
        go_wp2_with fail
        go_roundw
        case rel => exact ⟨i + 1, _, by omega, by go_num, HS9, HO9, HB9⟩
        case measure => simp [intOf]; omega
      · obtain rfl : i = m := by omega
        obtain ⟨m, rfl⟩ : ∃ z, z = i := ⟨_, rfl⟩
        have hS := HS.out
        have hO := HO.out
        have hB := HB.out
        have hR := hS.rb
        go_wp2_with (first | ((with_reducible show wpList _ _ _ (⟨some 31, _, _, _, _, _⟩ :: _) _ _); refine wpList_loadBlk rfl 27 (.tmp 3) rfl ob (by rfl) _ _ _ hO Tryz.underlying27 rfl Tryz.sizeTree ?_) | ((with_reducible show wpList _ _ _ (⟨none, Op.store _ (.tmp 2) _, _, _, _, _⟩ :: _) _ _); refine wpList_storeBlk rfl 27 (.tmp 2) (.tmp 31) rfl (N + 1) #[.slice lao n lc, .slice pao m pc2] (by rfl) (by rfl) _ _ hR Tryz.sizeTree (by rfl) (by simp [Value.oneCell']) ?_; intro w2 hR2 g2))
        have hb2 := hB.grown g2 (Nat.le_trans (Nat.le_of_eq HN.out) hB.size) (fun q e => by cases e; omega)
        refine ret_blk rfl (N + 1) 27 _ _ (by rfl) hR2 Tryz.underlying27 rfl Tryz.sizeTree rfl ?_
        refine ⟨lao, lc, pao, pc2, cur, rfl, ⟨HLN.out, HLM.out, hS.len, hS.lv.other g2 hR (by decide), hS.row.other g2 hR (by decide), fun k q u h1 h2 => (hS.done k q u ?_ h1 h2).other g2 hR (by decide), HT.out.wf, fun q hq => ⟨?_, HW.out q hq⟩⟩, hb2⟩
        · have := (List.getElem?_eq_some_iff.1 h1).1; rw [HLM.out] at this; exact this
        · obtain ⟨k, hk, rfl⟩ := List.getElem_of_mem hq
          obtain ⟨u, hu⟩ : ∃ u, lvs[k]? = some u := ⟨_, List.getElem?_eq_getElem (by rw [HT.out.lv, ← HLM.out]; exact hk)⟩
          obtain ⟨_, _, _, _, _, h5, _⟩ := HT.out.lo k _ u (List.getElem?_eq_getElem hk) hu
          exact h5
end Go.Proofs.YtjlpdbaknhbgdaaGreat
