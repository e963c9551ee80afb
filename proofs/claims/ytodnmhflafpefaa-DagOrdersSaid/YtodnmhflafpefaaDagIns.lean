/-
  dag.Store.Insert.
-/
import Derived.Test.YtodnmhflafpefaaDagAll
import Derived.WalkLawsBesides
import Derived.Laws.ResultCell
import Derived.Deep.LoopGhost
import Derived.RangeFuncNested
import Derived.RangeFuncBound
import Derived.RangeFuncCalls
import Derived.RangeFuncLeaves
import Derived.RangeFuncBox
import Derived.Shelf.Abstract
import Derived.Shelf.RegionOpen
import Derived.WalkKit
import Derived.OwnWalkIn
import Derived.TacticsInMore
import Derived.LoopNIn
import Derived.LoopIn
import Derived.Deep.RegionHeld
import Derived.Deep.Cut
import Derived.Outline
import Derived.Handy
set_option linter.unusedSimpArgs false
set_option linter.unusedVariables false
namespace Go.Proofs.Ytodnmhflafpefaa
open Go.RowKit

theorem lookV_cons (v : Vx) (L : List Vx) (z : HsT) : lookV (v :: L) z = if z = v.id then some (.agg v.cells.toArray) else lookV L z := by
  unfold lookV
  by_cases e : z = v.id
  · rw [if_pos e, List.find?_cons_of_pos (by simp [e])]; rfl
  · rw [if_neg e, List.find?_cons_of_neg (by simpa using fun h => e h.symm)]
theorem lookV_del (L : List Vx) (hn : (L.map (·.id)).Nodup) (h : HsT) (z : HsT) : lookV (L.filter fun u => u.id != h) z = if z = h then none else lookV L z := by
  by_cases e : z = h
  · rw [if_pos e]
    refine lookV_none.2 fun v hv => ?_
    have := (List.mem_filter.1 hv).2
    rw [e]; exact bne_iff_ne.1 this
  · rw [if_neg e]
    unfold lookV
    congr 1
    rw [List.find?_filter]
    congr 1
    funext u
    by_cases e2 : u.id = z
    · rw [e2]; simp [e]
    · simp [e2]
/-- What Insert leaves; how many are gone. -/
def insOut (keep : Int) (L : List Vx) (v : Vx) : List Vx := if chkT keep L v = 0 then insL keep L v else L
def goneN (keep : Int) (L : List Vx) (v : Vx) : Nat := if chkT keep L v = 0 then (goneL keep L v).length else 0
theorem boxed_below {W W' : World} {B : Nat} {t : TypeId} {v : Value} (h : Boxed W B t v) (b : Below W.heap.size W W') : Boxed W' B t v := h.kept (below_grown b none) (by simp)
def ownOf (W : World) (bg : Nat) : Option Nat := (W.cell? ⟨bg, 0, none⟩).bind Value.ownBlock
def SafeG (bg : Nat) (W : World) (k : Nat) : Prop := bg < W.heap.size ∧ k ≠ bg ∧ ownOf W bg ≠ some k ∧ ∃ cs t fr, W.heap[k]? = some (.cells cs t fr)
/-- All blocks of cells lie as they lay, but the box bg and the row of one's own that it names. -/
def KpG (bg : Nat) (A B : World) : Prop := ∀ k, SafeG bg A k → B.heap[k]? = A.heap[k]? ∧ SafeG bg B k
theorem KpG.refl (bg : Nat) (A : World) : KpG bg A A := fun k h => ⟨rfl, h⟩
theorem KpG.t {bg : Nat} {A B C : World} (h : KpG bg A B) (g : KpG bg B C) : KpG bg A C := fun k hk =>
  have h1 := h k hk
  have h2 := g k h1.2
  ⟨h2.1.trans h1.1, h2.2⟩
theorem ownOf_same {bg : Nat} {A B : World} (h : B.heap[bg]? = A.heap[bg]?) : ownOf B bg = ownOf A bg := by
  unfold ownOf; simp only [World.cell?, h]
theorem KpG.step {bg : Nat} {A B : World} (b : Below A.heap.size A B) : KpG bg A B := fun k ⟨h1, h2, h3, cs, t, fr, h4⟩ =>
  have e := b.block k (lt_of_block h4)
  ⟨e, Nat.lt_of_lt_of_le h1 b.size, h2, by rw [ownOf_same (b.block bg h1)]; exact h3, cs, t, fr, e.trans h4⟩
theorem KpG.b {bg : Nat} {w : World} (hb : bg < w.heap.size) (W : World) (l : Nat) (o o' : Obj) (hl : w.heap.size ≤ l) (h : W.heap[l]? = some o) (hc : o.isCells = false) (_ : o.isWalk = false) : KpG bg W (W.putObj l o') := fun k ⟨h1, h2, h3, cs, t, fr, h4⟩ => by
  have hkl : k ≠ l := fun e => by
    subst e
    rw [h] at h4
    cases h4
    cases hc
  have e := World.putObj_heap_other (w := W) (o := o') hkl
  have e2 : (W.putObj l o').heap[bg]? = W.heap[bg]? := World.putObj_heap_other (by omega)
  exact ⟨e, by simpa using h1, h2, by rw [ownOf_same e2]; exact h3, cs, t, fr, e.trans h4⟩
theorem KpG.ok {bg : Nat} {w : World} {t : TypeId} (hb : Boxed w bg t (.slice none 0 0)) : KpOk (KpG bg) (SafeG bg) w where
  keep A B k h hs := h k hs
  new W k hW hk hc := by
    refine ⟨Nat.lt_of_lt_of_le hb.lt hW.size, fun e => by have := hb.lt; omega, ?_, hc⟩
    rw [ownOf_same (hW.block bg hb.lt)]
    unfold ownOf
    rw [hb.cell]
    simp [Value.ownBlock]
  step A B k b h := (KpG.step b k h).2
/-- A write into a row of one's own that the box names, and the box with it. -/
theorem KpG.own {bg : Nat} {A B : World} (hr : ∀ k, k < A.heap.size → k ≠ bg → ownOf A bg ≠ some k → B.heap[k]? = A.heap[k]?) (hs : A.heap.size ≤ B.heap.size) (ho : ∀ q, ownOf B bg = some q → ownOf A bg = some q ∨ A.heap.size ≤ q) : KpG bg A B := fun k ⟨h1, h2, h3, cs, t, fr, h4⟩ => by
  have hl := lt_of_block h4
  have e := hr k hl h2 h3
  refine ⟨e, Nat.lt_of_lt_of_le h1 hs, h2, fun e2 => ?_, cs, t, fr, e.trans h4⟩
  rcases ho k e2 with h5 | h5
  · exact h3 h5
  · omega
theorem MapIs.tight {w : World} {mb n : Nat} {L : List Vx} (h : MapIs hashOk hashEnc w mb n (lookV L)) (hn : (L.map (·.id)).Nodup) : MapIs hashOk hashEnc w mb L.length (lookV L) := by
  obtain ⟨es, clock, h1, h2⟩ := map_len Try.hashKey h hn
  obtain ⟨es2, clock2, h3, h4, h5⟩ := h
  rw [h1] at h3
  cases h3
  exact ⟨es, clock, h1, by omega, h5⟩
theorem StoreIs.del {w w' : World} {sp mb n : Nat} {keep : Int} {L : List Vx} {h : HsT} (hs : StoreIs w sp mb keep L) (hm : MapIs hashOk hashEnc w' mb n (fun z => if z = h then none else lookV L z)) (g : w.grownBy w' (some mb)) : StoreIs w' sp mb keep (L.filter fun u => u.id != h) :=
  have hn := nodup_filter (fun u => u.id != h) hs.nodup
  ⟨hs.blk.grown g (fun e => hs.map.ne hs.blk (by cases e; rfl)), (hm.congr (fun x _ => (lookV_del L hs.nodup h x).symm)).tight hn, hn⟩
theorem zip_one (p : Nat) (T : Array Value) (e : Value) : (#[p].zip #[e]).foldl (fun t (x : Nat × Value) => match x with | (p, v) => t.setIfInBounds p v) T = T.setIfInBounds p e := by simp
def delN (ids : List HsT) (L : List Vx) : List Vx := ids.foldl (fun L h => L.filter fun u => u.id != h) L
theorem delN_mem (ids : List HsT) : ∀ L : List Vx, delN ids L = L.filter fun u => !ids.contains u.id := by
  induction ids with
  | nil => intro L; exact (List.filter_eq_self.2 (fun _ _ => rfl)).symm
  | cons h ids ih =>
    intro L
    show delN ids (L.filter fun u => u.id != h) = _
    rw [ih, List.filter_filter]
    congr 1
    funext u
    by_cases e : u.id = h <;> simp [e]
theorem delN_snoc (ids : List HsT) (h : HsT) (L : List Vx) : delN (ids ++ [h]) L = (delN ids L).filter fun u => u.id != h := by
  unfold delN; rw [List.foldl_append]; rfl
theorem del_ins {keep : Int} {L G R : List Vx} {v : Vx} (hn : ((v :: L).map (·.id)).Nodup) (hR : R.Perm (v :: L)) (hG : G = R.filter fun u => decide (u.d < floorT keep (v :: L))) : delN (G.map (·.id)) (v :: L) = insL keep L v := by
  rw [delN_mem]
  unfold insL
  refine List.filter_congr fun u hu => ?_
  congr 1
  rw [Bool.eq_iff_iff, List.contains_iff_mem, decide_eq_true_eq]
  subst hG
  constructor
  · intro h
    obtain ⟨x, hx, e⟩ := List.mem_map.1 h
    have h1 := List.mem_filter.1 hx
    rw [← vx_inj hn (hR.mem_iff.1 h1.1) hu e]
    exact of_decide_eq_true h1.2
  · intro h
    exact List.mem_map.2 ⟨u, List.mem_filter.2 ⟨hR.mem_iff.2 hu, decide_eq_true h⟩, rfl⟩
theorem gone_len {keep : Int} {L R : List Vx} {v : Vx} (hR : R.Perm (v :: L)) : (R.filter fun u => decide (u.d < floorT keep (v :: L))).length = (goneL keep L v).length := (hR.filter _).length_eq
theorem grown_newB {w a b : World} {r : Option Nat} {row : Option Nat} (h : w.grownBy a r) (g : a.grownBy b row) (hr : ∀ q, row = some q → some q = r ∨ w.heap.size ≤ q) : w.grownBy b r :=
  ⟨g.os.trans h.os, g.tape.trans h.tape, g.output.trans h.output, Nat.le_trans h.size g.size, fun k hk hne => by
    rw [g.block k (Nat.lt_of_lt_of_le hk h.size) (fun e => by
      rcases hr k e.symm with h1 | h1
      · exact hne h1
      · omega)]
    exact h.block k hk hne⟩
theorem wpList_append_own3 {P : Program} {w : World} {ops : Array Oper} {rest : List Oper} {o : Oper} {a : Act} {Q : Exit → Act → World → Prop} (hgd : o.guard = none) (s x : Operand) (t : TypeId)
    (ho : o.op = .call { callee := .builtin .append, args := #[s, x], argTypes := #[t, t] })
    (base : Nat) (e : TypeId) (i : TypeInfo) (z : Value) (size bytes : Nat) (ht : P.underlying t = some (.slice e)) (hi : P.info? e = some i) (hz : i.zero = some z)
    (hsize : i.size = size) (hby : i.bytes = bytes) (hzs : z.cells.size = size) (hsz : 0 < size)
    (v : Value) (n : Nat) (xs : List Value) (hs : a.eval s = v) (hown : w.ownsRow base e size v n xs)
    (ad : Addr) (m c : Nat) (news : List Value) (hx : a.eval x = .slice (some ad) m c) (hl : news.length = m * size) (hnews : ∀ j u, news[j]? = some u → w.cell? (ad.add j) = some u) (h1 : ∀ u ∈ news, u.oneCell' = true)
    (h63 : n + m ≤ maxLen) (hbytes : (n + m) * bytes ≤ 140737488355328) (hbase : base ≤ w.heap.size)
    (h : ∀ v' w', w'.ownsRow base e size v' (n + m) (xs ++ news) → w.grownBy w' v.ownBlock → (∀ q, v'.ownBlock = some q → v.ownBlock = some q ∨ w.heap.size ≤ q) → wpList P ops Q rest (a.put o.dst v') w') : wpList P ops Q (o :: rest) a w := by
  have low : ∀ {w' : World} {v' : Value} {k : Nat} {ys : List Value}, w'.ownsRow w.heap.size e size v' k ys → w'.ownsRow base e size v' k ys := fun h => ⟨h.1, h.2.imp id fun ⟨g, cap, cur, h1, h2, h3⟩ => ⟨g, cap, cur, h1, Nat.le_trans hbase h2, h3⟩⟩
  rcases hown.2 with ⟨rfl, rfl⟩ | ⟨g, cap, cur, rfl, hb, hg, hn, hm, hcs, htk⟩
  · have h0 : xs = [] := List.eq_nil_of_length_eq_zero (by rw [hown.1]; simp)
    subst h0
    refine wpList_append_own w hgd s x t ho w.heap.size e i z size bytes ht hi hz hsize hby hzs hsz _ 0 [] hs (World.ownsRow_nil _ _ _ _) ad m c news hx hl hnews h1 h63 hbytes (Nat.le_refl _) fun v' w' h2 h3 _ => ?_
    exact h v' w' (low h2) h3 (fun q hq => .inr (h2.lt q hq).1)
  · by_cases hr : n + m ≤ cap
    · refine wpList_append_fits w hgd s x t ho base e i size ht hi hsize g n cap xs hs hown ad m c news hx hl hnews h1 hr fun w' h2 h3 => ?_
      exact h _ w' h2 h3 (fun q hq => .inl hq)
    · refine wpList_append_arg w hgd s x t ho e i z size bytes ht hi hz hsize hby hzs hsz g 0 n cap xs hs hown.1 (fun j u hj => by have := hown.cells (g := g) rfl j u hj; rwa [Addr.add_lit] at this) ad m c news hx hl hnews h1 (fun hr2 => absurd hr2 hr) h63 hbytes (fun hr2 => absurd hr2 hr) fun _ v' w' h2 h3 => ?_
      exact h v' w' (low h2) (grown_any h3 _) (fun q hq => .inr (h2.lt q hq).1)
/-- What holds between two rounds of Insert's loop over All. -/
structure InsI (w : World) (sp mb : Nat) (keep : Int) (M : Nat) (F : Int) (L : List Vx) (pre : List Vx) (W : World) : Prop where
  row : ∃ gv, Boxed W (M + 1) 28 gv ∧ ROwn Vx.cells 66 W (M + 3) 35 gv (pre.filter fun u => decide (u.d < F))
  flo : Boxed W M 3 (.int .i64 F)
  sto : StoreIs W sp mb keep L
  gro : w.grownBy W (some mb)
  siz : M + 3 ≤ W.heap.size
theorem InsI.own {w : World} {sp mb : Nat} {keep : Int} {M : Nat} {F : Int} {L pre : List Vx} {X Y : World} {row : Option Nat} (h : InsI w sp mb keep M F L pre X) (hg : X.grownBy Y row) (hr : ∀ r, row = some r → M + 3 ≤ r ∧ ∃ o : Obj, X.heap[r]? = some o ∧ o.isCells = false) (hsm : max sp mb < M) (hw : w.heap.size ≤ M) : InsI w sp mb keep M F L pre Y := by
  obtain ⟨⟨gv, h1, h2⟩, h3, h4, h5, h6⟩ := h
  have hne : ∀ q, q < M + 3 → some q ≠ row := fun q hq e => by have := (hr q e.symm).1; omega
  refine ⟨⟨gv, h1.kept hg (hne _ (by omega)), h2.kept hg ?_⟩, h3.kept hg (hne _ (by omega)), ⟨h4.blk.grown hg (hne _ (by omega)), h4.map.kept hg (hne _ (by omega)), h4.nodup⟩, grown_newB h5 hg (fun q e => .inr (by have := (hr q e).1; omega)), Nat.le_trans h6 hg.size⟩
  cases hv : gv.ownBlock with
  | none => exact .inl rfl
  | some r =>
    refine .inr fun e => ?_
    obtain ⟨cs, t, fr, hc⟩ := h2.isCells hv
    obtain ⟨_, o, ho, hoc⟩ := hr r e.symm
    rw [hc] at ho
    cases ho
    cases hoc
theorem InsI.skip {w : World} {sp mb : Nat} {keep : Int} {M : Nat} {F : Int} {L pre : List Vx} {x : Vx} {W : World} (h : InsI w sp mb keep M F L pre W) (hd : ¬ x.d < F) : InsI w sp mb keep M F L (pre ++ [x]) W := by
  obtain ⟨⟨gv, h1, h2⟩, h3, h4, h5, h6⟩ := h
  refine ⟨⟨gv, h1, ?_⟩, h3, h4, h5, h6⟩
  rw [List.filter_append, List.filter_cons_of_neg (by simpa using hd), List.filter_nil, List.append_nil]
  exact h2
theorem InsI.app {w : World} {sp mb : Nat} {keep : Int} {M : Nat} {F : Int} {L pre : List Vx} {x : Vx} {W w8 w9 : World} {gv v' : Value} (h : InsI w sp mb keep M F L pre W) (hsm : max sp mb < M) (hw : w.heap.size ≤ M) (hgv : Boxed W (M + 1) 28 gv) (hrow : ROwn Vx.cells 66 W (M + 3) 35 gv (pre.filter fun u => decide (u.d < F)))
    (bb : Below W.heap.size W w8) (hown : ROwn Vx.cells 66 w9 (M + 3) 35 v' ((pre.filter fun u => decide (u.d < F)) ++ [x])) (hgr : w8.grownBy w9 gv.ownBlock) (hq : ∀ q, v'.ownBlock = some q → gv.ownBlock = some q ∨ w8.heap.size ≤ q) (hd : x.d < F) (B : Nat) :
    KeepsFrom B W (w9.setCell ⟨M + 1, 0, none⟩ v') ∧ KpG (M + 1) W (w9.setCell ⟨M + 1, 0, none⟩ v') ∧ InsI w sp mb keep M F L (pre ++ [x]) (w9.setCell ⟨M + 1, 0, none⟩ v') := by
  have hrow8 := hrow.below bb
  have hg9 : W.grownBy w9 gv.ownBlock := grown_trans (below_grown bb _) hgr
  have hlt := hrow.lt
  have hbx := hgv.kept hg9 (fun e => by have := (hlt _ e.symm).1; omega)
  have hset : w9.grownBy (w9.setCell ⟨M + 1, 0, none⟩ v') (some (M + 1)) := grownBy_setCell' w9 (M + 1) v'
  have hbs : Boxed (w9.setCell ⟨M + 1, 0, none⟩ v') (M + 1) 28 v' := hbx.set v'
  have hne : ∀ q, q < M + 3 → some q ≠ gv.ownBlock := fun q hq e => by have := (hlt q e.symm).1; omega
  have hsz : W.heap.size ≤ (w9.setCell ⟨M + 1, 0, none⟩ v').heap.size := Nat.le_trans hg9.size hset.size
  refine ⟨?_, ?_, ?_⟩
  · refine ((KeepsOthers.of_grownBy hg9 (fun j o e ho => ?_)).trans (KeepsOthers.setCell _ _ _)).from B
    obtain ⟨cs, t, fr, hc⟩ := hrow.isCells e
    rw [hc] at ho
    cases ho
    rfl
  · refine KpG.own (fun k hk h1 h2 => ?_) hsz (fun q hq2 => ?_)
    · have e1 : ownOf W (M + 1) = gv.ownBlock := by unfold ownOf; rw [hgv.cell]; rfl
      rw [e1] at h2
      rw [hset.block k (Nat.lt_of_lt_of_le hk hg9.size) (fun e => h1 (by cases e; rfl)), hg9.block k hk (fun e => h2 e.symm)]
    · have e1 : ownOf W (M + 1) = gv.ownBlock := by unfold ownOf; rw [hgv.cell]; rfl
      have e2 : ownOf (w9.setCell ⟨M + 1, 0, none⟩ v') (M + 1) = v'.ownBlock := by unfold ownOf; rw [hbs.cell]; rfl
      rw [e1]
      rw [e2] at hq2
      exact (hq q hq2).imp id fun h => Nat.le_trans bb.size h
  · refine ⟨⟨v', hbs, ?_⟩, (h.flo.kept hg9 (hne _ (by omega))).kept hset (fun e => by cases e), ?_, grown_newB (grown_newB h.gro hg9 (fun q e => .inr (by have := (hlt q e).1; omega))) hset (fun q e => .inr (by cases e; omega)), Nat.le_trans h.siz hsz⟩
    · rw [List.filter_append, List.filter_cons_of_pos (by simpa using hd), List.filter_nil]
      refine hown.kept hset ?_
      cases hv : v'.ownBlock with
      | none => exact .inl rfl
      | some r => exact .inr (fun e => by cases e; have := (hown.lt _ hv).1; omega)
    · have hs1 := h.sto
      have hs2 : StoreIs w9 sp mb keep L := ⟨hs1.blk.grown hg9 (hne _ (by omega)), hs1.map.kept hg9 (hne _ (by omega)), hs1.nodup⟩
      exact ⟨hs2.blk.grown hset (fun e => by cases e; omega), hs2.map.kept hset (fun e => by cases e; omega), hs2.nodup⟩
set_option maxHeartbeats 16000000 in
set_option maxRecDepth 100000 in
theorem Insert_yes (sp mb : Nat) (keep : Int) (L : List Vx) (v : Vx) (w : World) (hs : StoreIs w sp mb keep L) (hn : L.length ≤ 900) (hk : 1 ≤ keep ∧ keep ≤ 64) (hc : chkT keep L v = 0) :
    Calls Try.prog 7 #[.pointer (some ⟨sp, 0, none⟩), .agg v.cells.toArray] w fun e w' => ∃ ao c, e = .returned (.tuple #[.slice ao (goneL keep L v).length c, .int .i64 0]) ∧ StoreIs w' sp mb keep (insL keep L v) ∧ w.grownBy w' (some mb) := by
  have cC := Check_calls sp mb keep L v
  have HND := Lib.hid hs.nodup
  have HI : Hid (v.id.length = 32) := v.hi
  rw [hc] at cC
  have HC := Lib.hid hc
  have hs1 := hs.below (below_alloc1 w (.cells v.cells.toArray 35))
  have hA1 : Blk (w.alloc (.cells v.cells.toArray 35)) w.heap.size v.cells.toArray 35 := Blk.new _ _ _
  have hB1 := below_alloc1 w (.cells v.cells.toArray 35)
  have HS := Lib.hid hs
  clear hc hs
  refine (callsIn_wide (n := 9)).1 ?_
  refine callsIn_of_wp_marks Try.func7 rfl trivial ?_ rfl
  simp only [Try.ntmps7, List.size_toArray, List.length_cons, List.length_nil, Nat.reduceAdd, Nat.reduceSub, Array.replicate_succ, Array.replicate_zero, List.push_toArray, List.append_toArray, List.nil_append, List.cons_append]
  refine (wpIn_wide (n := 9)).2 ?_
  go_wp2_with ((with_reducible show wpList _ _ _ (⟨some 13, _, _, _, _, _⟩ :: _) _ _); refine wpList_load_mid rfl 35 (.tmp 3) rfl w.heap.size 0 (by rfl) v.cells _ (blk_rangeP hA1) Try.underlying35 rfl (vx_size v) ?_)
  refine (cC _ hs1 (by omega) hk).mono ?_
  rintro e w2 ⟨rfl, b2⟩
  have hs2 := hs1.below b2
  have hA2 := hA1.below b2 hA1.lt
  have hB2 := hB1.trans (b2.mono hB1.size)
  obtain ⟨base, hbase⟩ : ∃ base, base = w.heap.size := ⟨_, rfl⟩
  rw [← hbase] at hA2 hB2 ⊢
  have HBS := Lib.hid hbase
  clear cC hs1 hA1 hB1 b2 hbase
  go_upto_region 4 with (fail)
  have hsp := hs2.blk.cell 1 _ rfl
  have hra := blk_rangeP hA2
  refine wp_still_store 7 (by kernel_rfl) (by kernel_rfl) ?_
  simp only [List.take_succ_cons, List.take_zero, List.drop_succ_cons, List.drop_zero]
  repeat (first | go_big_quiet_skip | ((with_reducible show wpQuiet _ _ _ _ (⟨some 23, _, _, _, _, _⟩ :: _) _); refine wpQuiet_loadMid (by rfl) 32 (.tmp 22) rfl base 0 (by rfl) (v.id.map bv) _ (fun x hx => by subst hx; exact vx_id hra) Try.underlying32 rfl (by rw [List.length_map, HI.out]; exact Try.sizeHash) ?_) | ((with_reducible show wpQuiet _ _ _ _ (⟨some 24, _, _, _, _, _⟩ :: _) _); refine wpQuiet_loadMid (by rfl) 35 (.tmp 3) rfl base 0 (by rfl) v.cells _ (fun x hx => by subst hx; exact hra) Try.underlying35 rfl (vx_size v) ?_) | (go_big_quiet_want; go_big_quiet_op; go_big_quiet_on))
  refine wpQuiet_nil ?_
  refine wpList_upd rfl Try.hashKey (.tmp 21) (.tmp 23) (.tmp 24) 46 35 rfl Try.underlying46 mb _ _ (by rfl) (MapIs.drew hs2.map) v.id HI.out (by rfl) (.agg v.cells.toArray) (by rfl) ?_
  intro w3 hm3 g3
  have hs3 : StoreIs w3 sp mb keep (v :: L) := ⟨Blk.grown (Blk.drew hs2.blk) g3 (fun e => hs2.map.ne hs2.blk (by cases e; rfl)), hm3.congr (fun x _ => (lookV_cons v L x).symm), nodup_cons HND.out (chk_new HC.out)⟩
  have hA3 : Blk w3 base v.cells.toArray 35 := Blk.grown (Blk.drew hA2) g3 (fun e => hs2.map.ne hA2 (by cases e; rfl))
  have hG3 : w.grownBy w3 (some mb) := grown_trans (grown_drew (below_grown (by rw [HBS.out] at hB2; exact hB2) _)) g3
  have HS3 := Lib.hid hs3
  have HG3 := Lib.hid hG3
  clear hsp hra hm3 g3 hs2 hA2 hB2 hs3 hG3
  obtain ⟨F, hF⟩ : ∃ F, F = floorT keep (v :: L) := ⟨_, rfl⟩
  have HF := Lib.hid hF
  go_wp2_with fail
  refine (FloorT_calls sp mb keep (v :: L) _ HS3.out (by simp; omega) hk).mono ?_
  rw [← hF]
  rintro e w4 ⟨rfl, b4⟩
  have HS4 := Lib.hid (HS3.out.below b4)
  have HG4 : Hid (w.grownBy w4 (some mb)) := grown_trans HG3.out (below_grown b4 _)
  have HA4 := Lib.hid (hA3.below b4 hA3.lt)
  clear b4 HS3 HG3 hA3 hF
  go_wp2_with fail
  refine (All_calls sp _).mono ?_
  rintro e w5 ⟨rfl, hw5⟩
  have hbF : Boxed w5 w4.heap.size 3 (.int .i64 F) := by rw [hw5]; exact ((Boxed.new _ _ _).alloc _).alloc _
  have hbG : Boxed w5 (w4.heap.size + 1) 28 (.slice none 0 0) := by
    have := Boxed.new (w4.alloc (.cells #[.int .i64 F] 3)) 28 (.slice none 0 0)
    rw [World.size_alloc] at this
    rw [hw5]; exact this.alloc _
  have hbS : Blk w5 (w4.heap.size + 2) #[.pointer (some ⟨sp, 0, none⟩)] 24 := by
    have := Boxed.new ((w4.alloc (.cells #[.int .i64 F] 3)).alloc (.cells #[.slice none 0 0] 28)) 24 (.pointer (some ⟨sp, 0, none⟩))
    rw [World.size_alloc, World.size_alloc] at this
    rw [hw5]; exact this
  have hb5 : Below w4.heap.size w4 w5 := by
    rw [hw5]; exact (((Below.refl _ _).alloc (Nat.le_refl _) _).alloc (by simp) _).alloc (by simp; omega) _
  have hz5 : w5.heap.size = w4.heap.size + 3 := by rw [hw5]; simp
  simp only [World.size_alloc, Nat.add_assoc, Nat.reduceAdd]
  obtain ⟨M, hM⟩ : ∃ M, M = w4.heap.size := ⟨_, rfl⟩
  rw [← hM] at hbF hbG hbS hz5 ⊢
  have HS5 := Lib.hid (HS4.out.below hb5)
  have HG5 : Hid (w.grownBy w5 (some mb)) := grown_trans HG4.out (below_grown hb5 _)
  have HA5 := Lib.hid (HA4.out.below hb5 HA4.out.lt)
  have hsm : max sp mb < M := by rw [hM]; exact HS4.out.lt
  have hwM : w.heap.size ≤ M := by rw [hM]; exact HG4.out.size
  clear hw5 hM HS4 HG4 HA4 hb5
  go_wp2_with fail
  refine (wpIn_wide (n := 9)).1 ?_
  have hI : OwnFrom w5.heap.size (fun (pre : List Vx) (W : World) => InsI w sp mb keep M F (v :: L) pre W) := fun pre X Y row hs hg hr => hs.own hg (fun r e => ⟨by rw [← hz5]; exact (hr r e).1, (hr r e).2⟩) hsm hwM
  refine wpIn_rangeFunc_ownH rfl (by omega) (gf := 15) (lb := #[.pointer (some ⟨M + 2, 0, none⟩)]) rfl trivial (enters_of Try.func15 (by kernel_rfl) rfl)
    (All1_stops 8 (M + 2) sp mb keep (v :: L) w5 (KpG.ok hbG) hbS HS5.out (by simp; omega)) KpG.t (KpG.b hbG.lt) (Below.refl _ _) (fun _ => rfl)
    (fun (pre : List Vx) (W : World) => InsI w sp mb keep M F (v :: L) pre W) (fun _ _ _ => False) hI (fun _ _ _ _ _ hs _ _ => hs) ?start
    (fun (x : Vx) (a' : Act) (W : World) => ∃ Bx, M + 3 ≤ Bx ∧ Blk W Bx x.cells.toArray 35 ∧ a' = { tmps := #[.pointer (some ⟨sp, 0, none⟩), .agg v.cells.toArray, undef, .pointer (some ⟨base, 0, none⟩), .slice none 0 0, .int .i64 0, .int .i64 0, .pointer (some ⟨M, 0, none⟩), .pointer (some ⟨M + 1, 0, none⟩), .pointer (some ⟨Bx, 0, none⟩), undef, undef, .pointer (some ⟨sp, 0, none⟩), .agg v.cells.toArray, .int .i64 0, .int .i64 0, .bool false, undef, .pointer (some ⟨sp, 0, none⟩), .pointer (some ⟨sp, 0, none⟩), .pointer (some ⟨sp, 1, none⟩), .map (some mb), .pointer (some ⟨base, 0, none⟩), .agg (v.id.map bv).toArray, .agg v.cells.toArray, .pointer (some ⟨sp, 0, none⟩), .int .i64 F, .pointer (some ⟨sp, 0, none⟩), .func (.func 15) #[] #[.pointer (some ⟨M + 2, 0, none⟩)], .agg x.cells.toArray, undef, undef, undef, undef, undef, undef, undef, undef, undef, undef, undef, undef, undef, undef, undef, undef, undef, undef, undef, undef, undef, undef], defers := [] })
    ?ax ?assign ?body ?done ?stop
  case start => exact ⟨⟨_, hbG, ROwn.nil _ _ _⟩, hbF, HS5.out, HG5.out, Nat.le_of_eq hz5.symm⟩
  case ax =>
    rintro x a' _ X Y row ⟨Bx, h1, h2, h3⟩ hg hr
    exact ⟨Bx, h1, h2.grown hg (fun e => by
      obtain ⟨_, o, ho, hc⟩ := hr Bx e.symm
      unfold Blk at h2
      rw [h2] at ho
      cases ho
      cases hc), h3⟩
  case assign =>
    intro l pre x W K hi hK
    refine wpIn_region_plain (.round l) (fun _ _ h => h) (by rfl) ?_
    rw [zip_one]
    simp only [List.setIfInBounds_toArray, List.set_cons_zero, List.set_cons_succ]
    go_wp2_with (first | ((with_reducible show wpList _ _ _ (⟨some 9, _, _, _, _, _⟩ :: _) _ _); refine wpList_allocZ rfl 35 rfl _ Try.zeroVx ?_; intro wa sa ba na; clear sa) | ((with_reducible show wpList _ _ _ (⟨none, Op.store _ (.tmp 9) _, _, _, _, _⟩ :: _) _ _); refine wpList_storeBlk rfl 35 (.tmp 9) (.tmp 29) rfl W.heap.size x.cells.toArray (by rfl) (by rfl) _ _ na (vx_sizeA x) (vx_hold _ _) (vx_all x) ?_; intro wb nb gb; have bb := below_new ba gb (Nat.le_refl _) ba.size; clear ba na gb))
    exact hK _ _ (KeepsFrom.of_grownBy (below_grown bb none) (fun j e => by cases e)) (KpG.step bb) (hi.own (below_grown bb none) (fun r e => by cases e) hsm hwM) ⟨W.heap.size, hi.siz, nb, rfl⟩
  case body =>
    rintro l pre x a' W hl ⟨r, hr⟩ hi ⟨Bx, hBx, bX, rfl⟩ hlt
    have hxd := vx_d (blk_rangeP bX)
    rw [Nat.zero_add] at hxd
    have hF0 := hi.flo.cell
    refine wpIn_block ?_
    refine wpIn_seq_k (fun K hK => ?_)
    refine wpIn_region_plain (.round l) (fun _ _ h => h) (by rfl) ?_
    by_cases hd : x.d < F
    · have hdd : decide (x.d < F) = true := decide_eq_true hd
      go_wp2_with (first | ((with_reducible show wpList _ _ _ (⟨some 31, _, _, _, _, _⟩ :: _) _ _); refine wpList_load1 rfl 3 (.tmp 30) rfl (Bx) 64 (by rfl) _ _ (hxd) Try.underlying3 rfl ?_) | ((with_reducible show wpList _ _ _ (⟨some 32, _, _, _, _, _⟩ :: _) _ _); refine wpList_load1 rfl 3 (.tmp 7) rfl (M) 0 (by rfl) _ _ (hF0) Try.underlying3 rfl ?_))
      refine wpIn_cond_true (by rfl) ?_
      refine wpIn_region_plain (.round l) (fun _ _ h => h) (by rfl) ?_
      have hi0 := hi
      obtain ⟨⟨gv, hgv, hrow⟩, -⟩ := hi0
      have hfl : (pre.filter fun u => decide (u.d < F)).length ≤ 1000 := Nat.le_trans (List.length_filter_le _ _) (by simp at hlt; omega)
      obtain ⟨i0, hti, hz0, hz1, hz2⟩ := info_parts Try.infoVx
      obtain ⟨gao, gcc, rfl⟩ := hrow.slice
      obtain ⟨nn, hnn⟩ : ∃ k, k = (pre.filter fun u => decide (u.d < F)).length := ⟨_, rfl⟩
      rw [← hnn] at hgv hrow hfl
      have hrow2 : W.ownsRow (M + 3) 35 66 (.slice gao nn gcc) nn ((pre.filter fun u => decide (u.d < F)).flatMap Vx.cells) := by
        have := hrow
        unfold ROwn at this
        rwa [← hnn] at this
      obtain ⟨fl, hfl2⟩ : ∃ l, l = (pre.filter fun u => decide (u.d < F)).flatMap Vx.cells := ⟨_, rfl⟩
      rw [← hfl2] at hrow2
      have HFL := Lib.hid hfl2
      have HNN := Lib.hid hnn
      clear hnn hfl2
      have hgc := hgv.cell
      go_wp2_with (first | ((with_reducible show wpList _ _ _ (⟨some 34, _, _, _, _, _⟩ :: _) _ _); refine wpList_load1 rfl 28 (.tmp 8) rfl (M + 1) 0 (by rfl) _ _ (hgc) Try.underlying28 rfl ?_) | ((with_reducible show wpList _ _ _ (⟨some 35, _, _, _, _, _⟩ :: _) _ _); refine wpList_load_mid rfl 35 (.tmp 9) rfl Bx 0 (by rfl) x.cells _ (blk_rangeP bX) Try.underlying35 rfl (vx_size x) ?_) | ((with_reducible show wpList _ _ _ (⟨some 36, _, _, _, _, _⟩ :: _) _ _); refine wpList_bsV rfl 28 35 (.tmp 35) rfl (.agg x.cells.toArray) (by rfl) Try.underlying28 (.agg vz.cells.toArray) 66 Try.infoVx2 (vx_szv x) (by omega) (by omega) ?_; intro w8 s8 b8 n8q; have n8 : Blk w8 W.heap.size x.cells.toArray 35 := n8q; have hrow8 := own_below hrow2 b8) | ((with_reducible show wpList _ _ _ (⟨some 37, _, _, _, _, _⟩ :: _) _ _); refine wpList_append_own3 rfl (.tmp 34) (.tmp 36) 28 rfl (M + 3) 35 i0 (.agg vz.cells.toArray) 66 80 Try.underlying28 hti hz0 hz1 hz2 (vx_szv vz) (by decide) (.slice gao nn gcc) nn fl (by rfl) hrow8 ⟨W.heap.size, 0, none⟩ 1 1 x.cells (by rfl) (by rw [x.cells_len]) (fun j u hj => by rw [Addr.add_lit, Nat.zero_add]; exact n8.cell j u (by simpa using hj)) x.one (by unfold maxLen; omega) (by omega) (Nat.le_trans hi.siz b8.size) ?_; intro v' w9 hown' hgr hq; obtain ⟨ao', cc', rfl⟩ := own_slice hown'; have hg9 := (boxed_below hgv b8).kept hgr (fun e => by have := (hrow8.lt _ e.symm).1; omega); have hc9 := hg9.cell; have hf9 := hg9.frozen))
      exact hi.app hsm hwM hgv hrow b8 (by unfold ROwn; rw [List.length_append, List.length_singleton, ← HNN.out, List.flatMap_append, ← HFL.out, List.flatMap_cons, List.flatMap_nil, List.append_nil]; exact hown') hgr hq hd _
    · have hdd : decide (x.d < F) = false := decide_eq_false hd
      go_wp2_with (first | ((with_reducible show wpList _ _ _ (⟨some 31, _, _, _, _, _⟩ :: _) _ _); refine wpList_load1 rfl 3 (.tmp 30) rfl (Bx) 64 (by rfl) _ _ (hxd) Try.underlying3 rfl ?_) | ((with_reducible show wpList _ _ _ (⟨some 32, _, _, _, _, _⟩ :: _) _ _); refine wpList_load1 rfl 3 (.tmp 7) rfl (M) 0 (by rfl) _ _ (hF0) Try.underlying3 rfl ?_))
      refine wpIn_cond_false (by rfl) ?_
      refine wpIn_skip ?_
      exact ⟨KeepsFrom.refl _ _, KpG.refl _ _, hi.skip (Int.not_lt.2 hd)⟩
  case done =>
    rintro D ys W hD ⟨hp, hsrt⟩ hi hK
    obtain ⟨⟨gv, hgv, hrow⟩, hflo, hsto, hgro, hsiz⟩ := hi
    obtain ⟨G, hG⟩ : ∃ G, G = ys.filter fun u => decide (u.d < F) := ⟨_, rfl⟩
    rw [← hG] at hrow
    have HIN : Hid (delN (G.map (·.id)) (v :: L) = insL keep L v) := del_ins (HS5.out.nodup) hp (by rw [hG, HF.out])
    have HGL : Hid (G.length = (goneL keep L v).length) := by show _ = _; rw [hG, HF.out]; exact gone_len hp
    have hgl : G.length ≤ 1000 := by
      have h1 := hp.length_eq
      have h2 := List.length_filter_le (fun u => decide (u.d < F)) ys
      rw [hG]; simp at h1; omega
    obtain ⟨gao, gcc, rfl⟩ := hrow.slice
    obtain ⟨N, hN⟩ : ∃ N, N = G.length := ⟨_, rfl⟩
    have HN := Lib.hid hN
    rw [← hN] at hgv hgl hrow
    have hgc := hgv.cell
    have HST0 : Hid (StoreIs W sp mb keep (delN ((G.take 0).map (·.id)) (v :: L))) := hsto
    have HRW0 : Hid (ROwn Vx.cells 66 W (M + 3) 35 (.slice gao N gcc) G) := hrow
    have HBX0 : Hid (Boxed W (M + 1) 28 (.slice gao N gcc)) := hgv
    have HGR0 := Lib.hid hgro
    have HDF0 : Hid (W.heap[D]? = some (.deferred (some []))) := hK
    have hDM : M + 3 ≤ D := by rw [← hz5]; exact hD
    clear hG hN hp hsrt hrow hgv hflo hsto hgro hK hD hI HA5 hbF hbG hbS HF HG5 HS5
    go_wp2_with ((with_reducible show wpList _ _ _ (⟨some 38, _, _, _, _, _⟩ :: _) _ _); refine wpList_load1 rfl 28 (.tmp 8) rfl (M + 1) 0 (by rfl) _ _ (hgc) Try.underlying28 rfl ?_)
    clear hgc
    go_loopw [40] (fun i wr => ∃ k : Nat, k ≤ N ∧ i = .int .i64 k ∧ Hid (StoreIs wr sp mb keep (delN ((G.take k).map (·.id)) (v :: L))) ∧ Hid (ROwn Vx.cells 66 wr (M + 3) 35 (.slice gao N gcc) G) ∧ Hid (Boxed wr (M + 1) 28 (.slice gao N gcc)) ∧ Hid (w.grownBy wr (some mb)) ∧ Hid (wr.heap[D]? = some (.deferred (some [])))) (fun i _ => N - (intOf i).toNat)
    case atStart => exact ⟨0, Nat.zero_le _, rfl, HST0, HRW0, HBX0, HGR0, HDF0⟩
    case round =>
      obtain ⟨k, hk, rfl, HST, HRW, HBX, HGR, HDF⟩ := hrel
      clear HST0 HRW0 HBX0 HGR0 HDF0
      by_cases hlt : k < N
      · obtain ⟨x, hx⟩ : ∃ x, G[k]? = some x := ⟨_, List.getElem?_eq_getElem (by rw [← HN.out]; exact hlt)⟩
        obtain ⟨g, o, rfl, hrg⟩ := HRW.out.at.range Vx.cells_len k x hx
        have HTK : Hid ((G.take (k + 1)).map (·.id) = (G.take k).map (·.id) ++ [x.id]) := by show _ = _; rw [List.take_add_one, hx, List.map_append]; rfl
        have HXI : Hid (x.id.length = 32) := x.hi
        clear hx
        go_upto_region 14 with (first | ((with_reducible show wpList _ _ _ (⟨some 43, _, _, _, _, _⟩ :: _) _ _); refine wpList_load_mid rfl 35 (.tmp 42) rfl g (o + k * 66) (by rfl) x.cells _ hrg Try.underlying35 rfl (vx_size x) ?_) | ((with_reducible show wpList _ _ _ (⟨some 11, _, _, _, _, _⟩ :: _) _ _); refine wpList_allocZ rfl 35 rfl _ Try.zeroVx ?_; intro wa sa ba na; clear sa) | ((with_reducible show wpList _ _ _ (⟨none, Op.store _ (.tmp 11) _, _, _, _, _⟩ :: _) _ _); refine wpList_storeBlk rfl 35 (.tmp 11) (.tmp 43) rfl wr.heap.size x.cells.toArray (by rfl) (by rfl) _ _ na (vx_sizeA x) (vx_hold _ _) (vx_all x) ?_; intro w7 n7 g7; have bb7 := below_new ba g7 (Nat.le_refl _) ba.size; clear ba na g7))
        have hst7 := HST.out.below bb7
        have hrw7 : ROwn Vx.cells 66 w7 (M + 3) 35 (.slice (some ⟨g, o, none⟩) N gcc) G := HRW.out.below bb7
        have hbx7 := boxed_below HBX.out bb7
        have hgr7 := grown_trans HGR.out (below_grown bb7 _)
        have hdf7 : w7.heap[D]? = some (.deferred (some [])) := (bb7.block D (Array.getElem?_eq_some_iff.1 HDF.out).1).trans HDF.out
        have HRW7 := Lib.hid hrw7
        have HBX7 := Lib.hid hbx7
        have HGR7 := Lib.hid hgr7
        have HDF7 := Lib.hid hdf7
        have hsp := hst7.blk.cell 1 _ rfl
        have hra := blk_rangeP n7
        obtain ⟨W7, hW7⟩ : ∃ z, z = wr.heap.size := ⟨_, rfl⟩
        rw [← hW7] at hra n7 ⊢
        clear hrw7 hbx7 hgr7 hdf7 bb7 HST HRW HBX HGR HDF hrg hW7 n7
        simp only [Act.put, List.setIfInBounds_toArray, List.set_cons_succ, List.set_cons_zero]
        refine wp_still_store 6 (by kernel_rfl) (by kernel_rfl) ?_
        simp only [List.take_succ_cons, List.take_zero, List.drop_succ_cons, List.drop_zero]
        repeat (first | go_big_quiet_skip | ((with_reducible show wpQuiet _ _ _ _ (⟨some 49, _, _, _, _, _⟩ :: _) _); refine wpQuiet_loadMid (by rfl) 32 (.tmp 48) rfl W7 0 (by rfl) (x.id.map bv) _ (fun y hy => by subst hy; exact vx_id hra) Try.underlying32 rfl (by rw [List.length_map, HXI.out]; exact Try.sizeHash) ?_) | (go_big_quiet_want; go_big_quiet_op; go_big_quiet_on))
        refine wpQuiet_nil ?_
        refine wpList_del rfl Try.hashKey (.tmp 47) (.tmp 49) 46 35 rfl Try.underlying46 mb _ _ (by rfl) (MapIs.drew hst7.map) x.id HXI.out (by rfl) ?_
        intro w8 hm8 g8
        have g8' : w7.grownBy w8 (some mb) := grown_trans (grown_drew (World.grownBy.refl _ _)) g8
        have HST8 : Hid (StoreIs w8 sp mb keep (delN ((G.take (k + 1)).map (·.id)) (v :: L))) := by show StoreIs _ _ _ _ _; rw [HTK.out, delN_snoc]; exact hst7.del hm8 g8'
        have HRW8 : Hid (ROwn Vx.cells 66 w8 (M + 3) 35 (.slice (some ⟨g, o, none⟩) N gcc) G) := HRW7.out.kept g8' (.inr fun e => by have := (HRW7.out.lt _ e).1; omega)
        have HBX8 : Hid (Boxed w8 (M + 1) 28 (.slice (some ⟨g, o, none⟩) N gcc)) := HBX7.out.kept g8' (fun e => by cases e; omega)
        have HGR8 : Hid (w.grownBy w8 (some mb)) := grown_trans HGR7.out g8'
        have HDF8 : Hid (w8.heap[D]? = some (.deferred (some []))) := (g8'.block D (Array.getElem?_eq_some_iff.1 HDF7.out).1 (fun e => by cases e; omega)).trans HDF7.out
        clear hsp hra hm8 g8 g8' hst7 HRW7 HBX7 HGR7 HDF7
        go_wp2_with fail
        go_roundw
        case rel => exact ⟨k + 1, by omega, by go_num, HST8, HRW8, HBX8, HGR8, HDF8⟩
        case measure => simp [intOf]; omega
      · have hkn : k = N := by omega
        subst hkn
        have hgc := HBX.out.cell
        have HSTE := HST.out
        rw [List.take_of_length_le (Nat.le_of_eq HN.out.symm), HIN.out] at HSTE
        have HSE := Lib.hid HSTE
        clear HSTE
        go_wp2_with ((with_reducible show wpList _ _ _ (⟨some 51, _, _, _, _, _⟩ :: _) _ _); refine wpList_load1 rfl 28 (.tmp 8) rfl (M + 1) 0 (by rfl) _ _ (hgc) Try.underlying28 rfl ?_)
        refine ⟨by simp, .inl ⟨_, _, rfl, run_takeDeferred HDF.out, ?_⟩⟩
        have hpg : wr.grownBy (wr.putObj D (.deferred none)) (some D) := grownBy_putObj' wr D _
        have hlt9 := HSE.out.lt
        refine ⟨_, results_tmp2 rfl _ _ _, gao, gcc, ?_, ⟨HSE.out.blk.grown hpg (fun e => by cases e; omega), HSE.out.map.kept hpg (fun e => by cases e; omega), HSE.out.nodup⟩, grown_newB HGR.out hpg (fun q e => .inr (by cases e; omega))⟩
        rw [← HGL.out, ← HN.out]; rfl
  case stop =>
    rintro D c pre W _ _ h _
    exact h.elim
theorem ret_two {P : Program} {fn : Func} {R : Ending → World → Prop} {a : Act} {w : World} {t u : Tmp} (hf : fn.results = #[.tmp t, .tmp u]) {x y : Value} (hx : a.tmps.getD t undef = x) (hy : a.tmps.getD u undef = y) (hd : a.defers = []) (hR : R (.returned (.tuple #[x, y])) w) : bodyPost P fn R .ret a w := by
  subst hx hy
  exact bodyPost_ret (results_tmp2 hf _ _ _) hd hR
/-- A vertex of whatever depth. -/
structure Rv where
  id : List UInt8
  par : List UInt8
  d : Int
  x : Int
  hi : id.length = 32
  hp : par.length = 32
def Rv.cells (v : Rv) : List Value := v.id.map bv ++ (v.par.map bv ++ [.int .i64 v.d, .int .i64 v.x])
theorem Rv.cells_len (v : Rv) : v.cells.length = 66 := by simp [Rv.cells, v.hi, v.hp]
def Rv.Ok (r : Rv) : Prop := 0 ≤ r.d ∧ r.d ≤ 4611686018427387903
instance (r : Rv) : Decidable r.Ok := by unfold Rv.Ok; infer_instance
def Rv.toV (r : Rv) (h : r.Ok) : Vx := ⟨r.id, r.par, r.d, r.x, r.hi, r.hp, h⟩
theorem Rv.toV_cells (r : Rv) (h : r.Ok) : (r.toV h).cells = r.cells := rfl
theorem rv_d {w : World} {g o : Nat} {c : Rv} (h : w.rangeAt g o c.cells) : w.cell? ⟨g, o + 64, none⟩ = some (.int .i64 c.d) := h 64 _ (by
  rw [Rv.cells, List.getElem?_append_right (by simp [c.hi]), List.length_map, c.hi, List.getElem?_append_right (by simp [c.hp]), List.length_map, c.hp]; rfl)
theorem rv_size (c : Rv) : (Try.prog.info? 35).map (·.size) = some c.cells.length := by rw [c.cells_len]; exact Try.sizeVx
def chkR (keep : Int) (L : List Vx) (r : Rv) : Int := if h : r.Ok then chkT keep L (r.toV h) else 1
def outR (keep : Int) (L : List Vx) (r : Rv) : List Vx := if h : r.Ok then insOut keep L (r.toV h) else L
def goneR (keep : Int) (L : List Vx) (r : Rv) : Nat := if h : r.Ok then goneN keep L (r.toV h) else 0
set_option maxHeartbeats 4000000 in
set_option maxRecDepth 100000 in
theorem Check_bad (sp : Nat) (r : Rv) (w : World) (hb : ¬ r.Ok) :
    Calls Try.prog 13 #[.pointer (some ⟨sp, 0, none⟩), .agg r.cells.toArray] w fun e w' => e = .returned (.int .i64 1) ∧ Below w.heap.size w w' := by
  have hA1 : Blk (w.alloc (.cells r.cells.toArray 35)) w.heap.size r.cells.toArray 35 := Blk.new _ _ _
  have hB1 := below_alloc1 w (.cells r.cells.toArray 35)
  have hrd := rv_d (blk_rangeP hA1)
  rw [Nat.zero_add] at hrd
  unfold Rv.Ok at hb
  by_cases h1 : r.d < 0
  · have hdl : decide (r.d < 0) = true := decide_eq_true h1
    clear hb
    go_enter Try.func13, Try.ntmps13
    go_wp2_with (first | ((with_reducible show wpList _ _ _ (⟨some 15, _, _, _, _, _⟩ :: _) _ _); refine wpList_if (by rfl) (wp_load1 3 (.tmp 14) rfl w.heap.size 64 (by rfl) _ _ (hrd) Try.underlying3 rfl ?_)))
    go_returns
    exact ⟨rfl, hB1⟩
  · have h2 : 4611686018427387903 < r.d := by omega
    have hdl : decide (r.d < 0) = false := decide_eq_false h1
    have hdg : decide (4611686018427387903 < r.d) = true := decide_eq_true h2
    clear hb
    go_enter Try.func13, Try.ntmps13
    go_wp2_with (first | ((with_reducible show wpList _ _ _ (⟨some 15, _, _, _, _, _⟩ :: _) _ _); refine wpList_if (by rfl) (wp_load1 3 (.tmp 14) rfl w.heap.size 64 (by rfl) _ _ (hrd) Try.underlying3 rfl ?_)) | ((with_reducible show wpList _ _ _ (⟨some 20, _, _, _, _, _⟩ :: _) _ _); refine wpList_if (by rfl) (wp_load1 3 (.tmp 19) rfl w.heap.size 64 (by rfl) _ _ (hrd) Try.underlying3 rfl ?_)))
    go_returns
    exact ⟨rfl, hB1⟩
set_option maxHeartbeats 4000000 in
set_option maxRecDepth 100000 in
theorem Insert_err (sp : Nat) (cs : List Value) (C : Int) (w : World) (hcs : cs.length = 66) (hC : C ≠ 0) (cC : ∀ y, Below w.heap.size w y → Calls Try.prog 13 #[.pointer (some ⟨sp, 0, none⟩), .agg cs.toArray] y fun e w' => e = .returned (.int .i64 C) ∧ Below y.heap.size y w') :
    Calls Try.prog 7 #[.pointer (some ⟨sp, 0, none⟩), .agg cs.toArray] w fun e w' => e = .returned (.tuple #[.slice none 0 0, .int .i64 C]) ∧ Below w.heap.size w w' := by
  have hA1 : Blk (w.alloc (.cells cs.toArray 35)) w.heap.size cs.toArray 35 := Blk.new _ _ _
  have hB1 := below_alloc1 w (.cells cs.toArray 35)
  have e1 : (C == 0) = false := beq_false_of_ne hC
  have e2 : (C != 0) = true := bne_iff_ne.2 hC
  have e3 : decide (C = 0) = false := decide_eq_false hC
  clear hC
  have hc1 := cC _ hB1
  clear cC
  go_enter Try.func7, Try.ntmps7
  go_wp2_with ((with_reducible show wpList _ _ _ (⟨some 13, _, _, _, _, _⟩ :: _) _ _); refine wpList_load_mid rfl 35 (.tmp 3) rfl w.heap.size 0 (by rfl) cs _ (blk_rangeP hA1) Try.underlying35 rfl (by rw [hcs]; exact Try.sizeVx) ?_)
  refine hc1.mono ?_
  rintro e w2 ⟨rfl, b2⟩
  have hB2 := hB1.trans (b2.mono hB1.size)
  go_wp2_with fail
  go_returns
  exact ⟨rfl, hB2⟩
theorem Insert_calls (sp mb : Nat) (keep : Int) (L : List Vx) (r : Rv) (w : World) (hs : StoreIs w sp mb keep L) (hn : L.length ≤ 900) (hk : 1 ≤ keep ∧ keep ≤ 64) :
    Calls Try.prog 7 #[.pointer (some ⟨sp, 0, none⟩), .agg r.cells.toArray] w fun e w' => ∃ ao c, e = .returned (.tuple #[.slice ao (goneR keep L r) c, .int .i64 (chkR keep L r)]) ∧ StoreIs w' sp mb keep (outR keep L r) ∧ w.grownBy w' (some mb) := by
  unfold goneR chkR outR
  by_cases h : r.Ok
  · rw [dif_pos h, dif_pos h, dif_pos h]
    unfold goneN insOut
    by_cases hc : chkT keep L (r.toV h) = 0
    · rw [if_pos hc, if_pos hc, hc, ← r.toV_cells h]
      exact Insert_yes sp mb keep L (r.toV h) w hs hn hk hc
    · rw [if_neg hc, if_neg hc]
      refine (Insert_err sp r.cells (chkT keep L (r.toV h)) w r.cells_len hc (fun y hy => ?_)).mono ?_
      · rw [← r.toV_cells h]
        exact Check_calls sp mb keep L (r.toV h) y (hs.below hy) (by omega) hk
      · rintro e w' ⟨rfl, b⟩
        exact ⟨none, 0, rfl, hs.below b, below_grown b _⟩
  · rw [dif_neg h, dif_neg h, dif_neg h]
    refine (Insert_err sp r.cells 1 w r.cells_len (by omega) (fun y hy => Check_bad sp r y h)).mono ?_
    rintro e w' ⟨rfl, b⟩
    exact ⟨none, 0, rfl, hs.below b, below_grown b _⟩
theorem outR_len (keep : Int) (L : List Vx) (r : Rv) : (outR keep L r).length ≤ L.length + 1 := by
  unfold outR insOut insL
  split
  · split
    · exact Nat.le_trans (List.length_filter_le _ _) (by simp)
    · omega
  · omega
end Go.Proofs.Ytodnmhflafpefaa
