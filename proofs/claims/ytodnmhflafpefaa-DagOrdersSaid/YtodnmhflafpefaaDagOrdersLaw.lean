/-
  DagOrders: what its walk carries.
-/
import Derived.Test.YtodnmhflafpefaaDagRng
import Derived.Test.YtodnmhflafpefaaDagAw
import Derived.WalkLawsBesides
import Derived.Laws.ResultCell
import Derived.Deep.LoopGhost
import Derived.RangeFuncNested
import Derived.RangeFuncBound
import Derived.RangeFuncCalls
import Derived.RangeFuncLeaves
import Derived.RangeFuncBox
import Derived.Shelf.Abstract
import Derived.Shelf.RegionOpen
import Derived.WalkKit
import Derived.OwnWalkIn
import Derived.TacticsInMore
import Derived.LoopNIn
import Derived.LoopIn
import Derived.Deep.RegionHeld
import Derived.Deep.Cut
import Derived.OpenShut
import Derived.Outline
import Derived.Handy
set_option linter.unusedSimpArgs false
set_option linter.unusedVariables false
namespace Go.Proofs.Ytodnmhflafpefaa
open Go.RowKit

theorem wpQuiet_buildD {P : Program} {ops : Array Oper} {C : World → Prop} {Q : Act → Prop} {a : Act} {o : Oper} {rest : List Oper} (hw : Region.wanted o (yielded ops a.tmps) = true) (t : TypeId) (parts : Array (Nat × Operand)) (ho : o.op = .build t parts) (cells : Array Value)
    (hf : P.built t (parts.toList.map fun (p : Nat × Operand) => (p.1, a.eval p.2)) = some cells) (h : wpQuiet P ops C Q rest (a.put o.dst (.agg cells))) : wpQuiet P ops C Q (o :: rest) a :=
  wpQuiet_step fun K hK => by
    rw [if_pos hw]
    refine ⟨_, fun w hw' => ?_, hK _ h⟩
    have hf' : P.built t (parts.map fun (i, x) => (i, a.eval x)).toList = some cells := by rw [Array.toList_map]; exact hf
    unfold Oper.quietAt execOp
    simp only [ho, Sem.run_bind, run_build w t _ cells hf', Result.andThen_ok, Sem.run_pure]
    exact ⟨rfl, rfl⟩
/-- All blocks of cells lie as they lay. -/
def KpD (A B : World) : Prop := ∀ (k : Nat) (cs : Array Value) (t : TypeId) (fr : Nat × Nat), A.heap[k]? = some (Obj.cells cs t fr) → B.heap[k]? = some (Obj.cells cs t fr)
def SafeD (W : World) (k : Nat) : Prop := ∃ (cs : Array Value) (t : TypeId) (fr : Nat × Nat), W.heap[k]? = some (Obj.cells cs t fr)
theorem KpD.refl (A : World) : KpD A A := fun _ _ _ _ h => h
theorem KpD.t {A B C : World} (h : KpD A B) (g : KpD B C) : KpD A C := fun k cs t fr hk => g k cs t fr (h k cs t fr hk)
theorem KpD.below {A B : World} (b : Below A.heap.size A B) : KpD A B := fun k cs t fr hk => (b.block k (lt_of_block hk)).trans hk
theorem KpD.b {w : World} (W : World) (l : Nat) (o o' : Obj) (_ : w.heap.size ≤ l) (h : W.heap[l]? = some o) (hc : o.isCells = false) (_ : o.isWalk = false) : KpD W (W.putObj l o') := fun k cs t fr hk => by
  have hkl : k ≠ l := fun e => by
    subst e
    rw [h] at hk
    cases hk
    cases hc
  exact (World.putObj_heap_other hkl).trans hk
theorem KpD.ok (w : World) : KpOk KpD SafeD w where
  keep A B k h := fun ⟨cs, t, fr, hk⟩ => ⟨(h k cs t fr hk).trans hk.symm, cs, t, fr, h k cs t fr hk⟩
  new W k _ _ hc := hc
  step A B k b := fun ⟨cs, t, fr, hk⟩ => ⟨cs, t, fr, (b.block k (lt_of_block hk)).trans hk⟩
theorem wpList_bs0D {P : Program} {ops : Array Oper} {rest : List Oper} {o : Oper} {a : Act} {w : World} {Q : Exit → Act → World → Prop} (hgd : o.guard = none) (t e : TypeId) (ho : o.op = .buildSlice t 0 #[]) (hu : P.underlying t = some (.slice e)) (z : Value) (n : Nat) (hz : (P.info? e).map (fun i => (i.zero, i.size)) = some (some z, n))
    (hK : ∀ g w', g = w.heap.size → w'.heap.size = g + 1 → Below w.heap.size w w' → Blk w' g #[] e → wpList P ops Q rest (a.put o.dst (.slice (some ⟨g, 0, none⟩) 0 0)) w') : wpList P ops Q (o :: rest) a w := by
  refine wpList_plain hgd fun K hk => ?_
  cases hi : P.info? e with
  | none => simp [hi] at hz
  | some ie =>
    have hr : (Instr.buildSlice t 0 #[]).run P w = .ok (.slice (some ⟨w.heap.size, 0, none⟩) 0 0) (w.alloc (.cells #[] e)) := by
      simp [Instr.buildSlice, run_underlying hu, sizeOf, typeInfo, hi, newRow, Instr.fill]
      rw [show Array.range 0 = #[] by kernel_rfl, Array.map_empty]
    unfold Oper.wp execOp
    simp only [ho, List.map_toArray, List.map_nil, Sem.run_bind, hr, Result.andThen_ok]
    exact hk _ _ (hK _ _ rfl (by simp) (below_alloc1 _ _) (Blk.new _ _ _))
theorem Try.infoRv : (Try.prog.info? 34).map (fun i => (i.zero, i.size, i.bytes)) = some (some (.agg vz.cells.toArray), 66, 80) := by kernel_rfl
theorem Try.infoRv2 : (Try.prog.info? 34).map (fun i => (i.zero, i.size)) = some (some (.agg vz.cells.toArray), 66) := by kernel_rfl
theorem Try.sizeRv : (Try.prog.info? 34).map (·.size) = some 66 := by kernel_rfl
theorem Try.zeroRv : (Try.prog.info? 34).bind (·.zero) = some (.agg vz.cells.toArray) := by kernel_rfl
theorem rv_sizeA (c : Rv) : (Try.prog.info? 34).map (·.size) = some c.cells.toArray.size := by rw [List.size_toArray, c.cells_len]; exact Try.sizeRv
theorem rv_sizeL (c : Rv) : (Try.prog.info? 34).map (·.size) = some c.cells.length := by rw [c.cells_len]; exact Try.sizeRv
theorem rv_hold (c : Rv) : vz.cells.toArray.size = c.cells.toArray.size := by rw [List.size_toArray, List.size_toArray, vz.cells_len, c.cells_len]
theorem rv_all (v : Rv) : v.cells.toArray.all (·.oneCell') = true := by
  rw [Array.all_eq_true']
  intro u hu
  exact v.one u (by simpa using hu)
/-- As the document has it. -/
def Vx.raw (v : Vx) : Rv := ⟨v.id, v.par, v.d, v.x, v.hi, v.hp⟩
theorem Vx.raw_inj {u v : Vx} (h : u.raw = v.raw) : u = v := by
  cases u; cases v
  simp only [Vx.raw, Rv.mk.injEq] at h
  obtain ⟨rfl, rfl, rfl, rfl⟩ := h
  rfl
/-- All were put in without a refusal. -/
def AllIn (kk : Int) (rs : List Rv) (L : List Vx) : Prop := ∃ ds : List Vx, ds.map Vx.raw = rs ∧ Since kk ds L
theorem AllIn.nil (kk : Int) : AllIn kk [] [] := ⟨[], rfl, Since.nil kk⟩
theorem AllIn.add {kk : Int} (hk : 1 ≤ kk) {rs : List Rv} {L : List Vx} (h : AllIn kk rs L) {r : Rv} (hr : chkR kk L r = 0) : AllIn kk (rs ++ [r]) (outR kk L r) := by
  obtain ⟨ds, h1, h2⟩ := h
  unfold chkR at hr
  split at hr
  · rename_i ho
    refine ⟨ds ++ [r.toV ho], by rw [List.map_append, h1]; rfl, ?_⟩
    unfold outR insOut
    rw [dif_pos ho, if_pos hr]
    exact h2.ins hk _
  · cases hr
theorem AllIn.same {kk : Int} {r1 r2 : List Rv} {L1 L2 : List Vx} (h1 : AllIn kk r1 L1) (h2 : AllIn kk r2 L2) (hp : r2.Perm r1) : ∀ u, u ∈ L1 ↔ u ∈ L2 := by
  obtain ⟨d1, e1, s1⟩ := h1
  obtain ⟨d2, e2, s2⟩ := h2
  refine s1.same s2 fun u => ?_
  have hm : ∀ (d : List Vx) (r : List Rv), d.map Vx.raw = r → (u ∈ d ↔ u.raw ∈ r) := fun d r e => by
    rw [← e]
    exact ⟨fun h => List.mem_map.2 ⟨u, h, rfl⟩, fun h => by
      obtain ⟨x, hx, e⟩ := List.mem_map.1 h
      rw [← Vx.raw_inj e]; exact hx⟩
  rw [hm d1 r1 e1, hm d2 r2 e2, hp.mem_iff]
/-- Two members, exchanged. -/
theorem swap_perm (l : List Rv) (X Y : Nat) (hX : X < l.length) (hY : Y < l.length) (x y : Rv) (hx : l[X]? = some x) (hy : l[Y]? = some y) : ((l.set X y).set Y x).Perm l := by
  obtain ⟨_, rfl⟩ := List.getElem?_eq_some_iff.1 hx
  obtain ⟨_, rfl⟩ := List.getElem?_eq_some_iff.1 hy
  exact List.set_set_perm hX hY
/-- What DagOrders carries. -/
structure OrI (w : World) (spa mba spb mbb R6 b10 : Nat) (kk : Int) (La Lb : List Vx) (wr : World) : Prop where
  stoa : StoreIs wr spa mba kk La
  stob : StoreIs wr spb mbb kk Lb
  res : Boxed wr R6 4 (.bool false)
  box : Boxed wr b10 24 (.pointer (some ⟨spb, 0, none⟩))
  bel : Below w.heap.size w wr
section
variable {w : World} {spa mba spb mbb R6 b10 : Nat} {kk : Int} {La Lb : List Vx} {wr : World}
theorem OrI.below {w' : World} (h : OrI w spa mba spb mbb R6 b10 kk La Lb wr) (b : Below wr.heap.size wr w') : OrI w spa mba spb mbb R6 b10 kk La Lb w' :=
  ⟨h.stoa.below b, h.stob.below b, boxed_below h.res b, boxed_below h.box b, h.bel.trans (b.mono h.bel.size)⟩
theorem OrI.drew (h : OrI w spa mba spb mbb R6 b10 kk La Lb wr) : OrI w spa mba spb mbb R6 b10 kk La Lb wr.drew := h.below (below_drewN (Below.refl _ _) 1)
theorem box_ne_map {wr : World} {q mb n : Nat} {t : TypeId} {v : Value} {look : List UInt8 → Option Value} (hq : Boxed wr q t v) (hm : MapIs hashOk hashEnc wr mb n look) : some q ≠ some mb := fun e => by
  cases e
  obtain ⟨es, clock, h1, _⟩ := hm
  unfold Boxed at hq
  rw [h1] at hq; cases hq
theorem OrI.insA {w' : World} {L' : List Vx} (h : OrI w spa mba spb mbb R6 b10 kk La Lb wr) (hs : StoreIs w' spa mba kk L') (g : wr.grownBy w' (some mba)) (hm : w.heap.size ≤ mba) (hne : mba ≠ mbb) : OrI w spa mba spb mbb R6 b10 kk L' Lb w' :=
  ⟨hs, ⟨h.stob.blk.grown g (fun e => h.stoa.map.ne h.stob.blk (by cases e; rfl)), h.stob.map.kept g (fun e => hne (by cases e; rfl)), h.stob.nodup⟩, h.res.kept g (box_ne_map h.res h.stoa.map), h.box.kept g (box_ne_map h.box h.stoa.map), h.bel.grown g h.bel.size (fun q e => by cases e; exact hm)⟩
theorem OrI.insB {w' : World} {L' : List Vx} (h : OrI w spa mba spb mbb R6 b10 kk La Lb wr) (hs : StoreIs w' spb mbb kk L') (g : wr.grownBy w' (some mbb)) (hm : w.heap.size ≤ mbb) (hne : mba ≠ mbb) : OrI w spa mba spb mbb R6 b10 kk La L' w' :=
  ⟨⟨h.stoa.blk.grown g (fun e => h.stob.map.ne h.stoa.blk (by cases e; rfl)), h.stoa.map.kept g (fun e => hne (by cases e; rfl)), h.stoa.nodup⟩, hs, h.res.kept g (box_ne_map h.res h.stob.map), h.box.kept g (box_ne_map h.box h.stob.map), h.bel.grown g h.bel.size (fun q e => by cases e; exact hm)⟩
/-- A write into a block beyond these. -/
theorem OrI.row {w' : World} {row : Option Nat} (h : OrI w spa mba spb mbb R6 b10 kk La Lb wr) (g : wr.grownBy w' row) (hr : ∀ r, row = some r → spa < r ∧ mba < r ∧ spb < r ∧ mbb < r ∧ R6 < r ∧ b10 < r ∧ w.heap.size ≤ r) : OrI w spa mba spb mbb R6 b10 kk La Lb w' := by
  have hne : ∀ q, (∀ r, row = some r → q < r) → some q ≠ row := fun q hq e => by have := hq q e.symm; omega
  exact ⟨⟨h.stoa.blk.grown g (hne _ fun r e => (hr r e).1), h.stoa.map.kept g (hne _ fun r e => (hr r e).2.1), h.stoa.nodup⟩, ⟨h.stob.blk.grown g (hne _ fun r e => (hr r e).2.2.1), h.stob.map.kept g (hne _ fun r e => (hr r e).2.2.2.1), h.stob.nodup⟩,
    h.res.kept g (hne _ fun r e => (hr r e).2.2.2.2.1), h.box.kept g (hne _ fun r e => (hr r e).2.2.2.2.2.1), h.bel.grown g h.bel.size (fun q e => (hr q e).2.2.2.2.2.2)⟩
theorem OrI.lts (h : OrI w spa mba spb mbb R6 b10 kk La Lb wr) : spa < wr.heap.size ∧ mba < wr.heap.size ∧ spb < wr.heap.size ∧ mbb < wr.heap.size ∧ R6 < wr.heap.size ∧ b10 < wr.heap.size ∧ w.heap.size ≤ wr.heap.size :=
  ⟨h.stoa.blk.lt, h.stoa.map.lt, h.stob.blk.lt, h.stob.map.lt, h.res.lt, h.box.lt, h.bel.size⟩
/-- The end: what was stored is read; nothing that was there is turned. -/
theorem OrI.done (h : OrI w spa mba spb mbb R6 b10 kk La Lb wr) (hR : w.heap.size ≤ R6) {Ds : List Nat} (hD : ∀ D ∈ Ds, wr.heap[D]? = some (.deferred (some []))) (hlo : ∀ D ∈ Ds, w.heap.size ≤ D) :
    (∀ D ∈ Ds, (wr.setCell ⟨R6, 0, none⟩ (.bool true)).heap[D]? = some (.deferred (some []))) ∧ ∀ w', Marked Ds (wr.setCell ⟨R6, 0, none⟩ (.bool true)) w' → w'.cell? ⟨R6, 0, none⟩ = some (.bool true) ∧ Below w.heap.size w w' := by
  have hg : wr.grownBy (wr.setCell ⟨R6, 0, none⟩ (.bool true)) (some R6) := grownBy_setCell' wr R6 _
  have hR4 : wr.heap[R6]? = some (.cells #[.bool false] 4 (0, 0)) := h.res
  have hne : ∀ D ∈ Ds, D ≠ R6 := fun D hd e => by
    have := hD D hd
    rw [e, hR4] at this; cases this
  have hbel : Below w.heap.size w (wr.setCell ⟨R6, 0, none⟩ (.bool true)) := h.bel.grown hg h.bel.size (fun q e => by cases e; exact hR)
  have hbx : Boxed (wr.setCell ⟨R6, 0, none⟩ (.bool true)) R6 4 (.bool true) := h.res.set _
  refine ⟨fun D hd => (hg.block D (Array.getElem?_eq_some_iff.1 (hD D hd)).1 (fun e => hne D hd (by cases e; rfl))).trans (hD D hd), fun w' hw' => ⟨?_, hw'.os.trans hbel.os, hw'.tape.trans hbel.tape, hw'.output.trans hbel.output, by rw [hw'.size]; exact hbel.size, fun k hk => ?_⟩⟩
  · have : Boxed w' R6 4 (.bool true) := (hw'.block R6 (fun e => hne R6 e rfl)).trans hbx
    exact this.cell
  · rw [hw'.block k (fun e => by have := hlo k e; omega)]
    exact hbel.block k hk
end
theorem DLenB_calls (sp mb : Nat) (keep : Int) (L : List Vx) (n : Nat) (hn : n = L.length) (w : World) (h : StoreIs w sp mb keep L) :
    Calls Try.prog 11 #[.pointer (some ⟨sp, 0, none⟩)] w fun e w' => e = .returned (.int .i64 (n : Nat)) ∧ Below w.heap.size w w' := by
  subst hn
  exact (DLen_calls sp mb keep L w h).mono fun e w' ⟨h1, h2⟩ => ⟨h1, by rw [h2]; exact Below.refl _ _⟩
section
open Go.ChangeShapes Go.WideShapes
variable {H : Type} {enc : TypeId × Value → H} {w : World} {base : Nat} {spare : Nat → Bool} {held : Bool} {fuel : Nat} {x : DataW H × List MemPlace}
/-- A nil slice has no capacity. -/
theorem open_nc {t e : TypeId} {v : Value} {d : DataW H} {p : List MemPlace} (ht : Try.prog.underlying t = some (.slice e)) (h : DataW.Trod enc Try.prog w base spare held t v d p) : ∀ n c, v = .slice none n c → c = 0 := by
  rintro n c rfl
  obtain ⟨fuel, hf⟩ := h
  rcases Go.Deep.open_slice ht hf with ⟨hcs, _⟩ | ⟨a, len', cap', m, n, D, Pl, hcs, hb, hl, hm, hmm, _, hi⟩
  · simp [Value.cells] at hcs
    exact hcs.2
  · simp [Value.cells] at hcs
def u8Cells (c : UInt8) : List Value := [bv c]
set_option maxRecDepth 100000 in
theorem open_u8s {v : Value} {d : DataW H} {p : List MemPlace} {r : Reach} {b0 : Nat} (hv : Value.okWide Try.prog w r b0 42 v) (h : DataW.Trod enc Try.prog w base spare held 42 v d p) :
    ∃ xs, RAt u8Cells w v xs ∧ xs.length ≤ maxLen := by
  obtain ⟨ao, len, cap, xs, rfl, hm, he, _⟩ := open_elems (cells := u8Cells) (size := 1) (ok := fun _ => True) Try.underlying42 Try.cellsU8 (fun c => ⟨by simp [u8Cells], by simp [u8Cells]⟩) (fun l m y hl => by
    obtain ⟨c, hc⟩ := trod_u8 hl
    exact ⟨c, trivial, by rw [hc]; rfl⟩) hv h
  exact ⟨xs, elems_ratX (size := 1) (fun x => rfl) (by omega) he, by rw [he.1]; exact hm⟩
end
theorem ROwn.addr {α : Type} {cells : α → List Value} {size : Nat} {w : World} {base n c : Nat} {e : TypeId} {ao : Option Addr} {l : List α} (h : ROwn cells size w base e (.slice ao n c) l) (h0 : 0 < l.length) : ∃ g, ao = some ⟨g, 0, none⟩ := by
  rcases h.2 with ⟨h1, h2⟩ | ⟨g, cap, cur, e1, _⟩
  · omega
  · injection e1 with e2
    exact ⟨g, e2⟩
noncomputable def fVx (i : Nat) : Field := (Try.prog.fieldsOf 35).toList.getD i default
theorem Try.fieldsVx : (Try.prog.fieldsOf 35).toList = [fVx 0, fVx 1, fVx 2, fVx 3] := by kernel_rfl
theorem Try.fieldVx0 : decide ((fVx 0).name ≠ "_" ∧ (fVx 0).type = 32 ∧ (fVx 0).offset = 0) = true := by kernel_rfl
theorem Try.fieldVx1 : decide ((fVx 1).name ≠ "_" ∧ (fVx 1).type = 32 ∧ (fVx 1).offset = 32) = true := by kernel_rfl
theorem Try.fieldVx2 : decide ((fVx 2).name ≠ "_" ∧ (fVx 2).type = 3 ∧ (fVx 2).offset = 64) = true := by kernel_rfl
theorem Try.fieldVx3 : decide ((fVx 3).name ≠ "_" ∧ (fVx 3).type = 3 ∧ (fVx 3).offset = 65) = true := by kernel_rfl
theorem part_hashD (xs : Array Value) (off : Nat) (h : List UInt8) (w : World) (he : xs.extract off (off + 32) = (h.map bv).toArray) : (part 32 xs off).run Try.prog w = .ok (.agg (h.map bv).toArray) w := by
  simp [part, Try.isAgg32, Try.sizeOf32, Result.andThen, he]
theorem part_intD (xs : Array Value) (off : Nat) (n : Int) (w : World) (he : xs[off]? = some (.int .i64 n)) : (part 3 xs off).run Try.prog w = .ok (.int .i64 n) w := by
  simp [part, isAgg, run_underlying Try.underlying3, Result.andThen, he]
theorem eq_fieldD (d : Nat) (xs ys : Array Value) (f : Field) (fs : List Field) (ty : TypeId) (off : Nat) (a : Value) (w : World) (hf : decide (f.name ≠ "_" ∧ f.type = ty ∧ f.offset = off) = true) (hx : (part ty xs off).run Try.prog w = .ok a w) (hy : (part ty ys off).run Try.prog w = .ok a w) (he : (Op.equalIn d ty a a).run Try.prog w = .ok true w) (hr : (Op.eqFields d xs ys fs).run Try.prog w = .ok true w) : (Op.eqFields d xs ys (f :: fs)).run Try.prog w = .ok true w := by
  obtain ⟨h1, rfl, rfl⟩ := of_decide_eq_true hf
  rw [Op.eqFields, if_pos h1]
  simp only [Sem.run_bind, hx, hy, he, Result.andThen_ok, Bool.not_true, Bool.false_eq_true, if_false, hr]
theorem run_eq_vx (v : Vx) (w : World) : (Op.equalIn 10000 35 (.agg v.cells.toArray) (.agg v.cells.toArray)).run Try.prog w = .ok true w := by
  rw [run_equalIn_struct w 9999 35 _ _ (by kernel_rfl) (by kernel_rfl), Try.fieldsVx]
  have ce : ∀ (a n : Nat), v.cells.toArray.extract a (a + n) = ((v.cells.drop a).take n).toArray := fun a n => by
    rw [List.extract_toArray]; congr 1; rw [List.extract_eq_take_drop]; congr 1; omega
  have h0 : v.cells.toArray.extract 0 (0 + 32) = (v.id.map bv).toArray := by
    rw [ce, List.drop_zero, Vx.cells, List.take_left' (by simp [v.hi])]
  have h1 : v.cells.toArray.extract 32 (32 + 32) = (v.par.map bv).toArray := by
    rw [ce, Vx.cells, List.drop_left' (by simp [v.hi]), List.take_left' (by simp [v.hp])]
  have h2 : v.cells.toArray[64]? = some (.int .i64 v.d) := by
    rw [List.getElem?_toArray, Vx.cells, List.getElem?_append_right (by simp [v.hi]), List.length_map, v.hi, List.getElem?_append_right (by simp [v.hp]), List.length_map, v.hp]; rfl
  have h3 : v.cells.toArray[65]? = some (.int .i64 v.x) := by
    rw [List.getElem?_toArray, Vx.cells, List.getElem?_append_right (by simp [v.hi]), List.length_map, v.hi, List.getElem?_append_right (by simp [v.hp]), List.length_map, v.hp]; rfl
  obtain ⟨i, hi⟩ := Try.infoU8h
  have hb : ∀ a : List UInt8, a.length = 32 → (Op.equalIn 9999 32 (.agg (a.map bv).toArray) (.agg (a.map bv).toArray)).run Try.prog w = .ok true w := fun a ha => by
    rw [run_eq_bytes w 9997 32 32 5 i Try.underlying32 Try.underlying5 Try.plainU8 hi Try.cellsU8e a a ha ha]; simp
  have hn : ∀ n : Int, (Op.equalIn 9999 3 (.int .i64 n) (.int .i64 n)).run Try.prog w = .ok true w := fun n => by
    rw [run_equalIn_int w 9998 3 .i64 .i64 n n Try.underlying3]; simp
  refine eq_fieldD 9999 _ _ _ _ 32 0 _ w Try.fieldVx0 (part_hashD _ 0 v.id w h0) (part_hashD _ 0 v.id w h0) (hb _ v.hi) ?_
  refine eq_fieldD 9999 _ _ _ _ 32 32 _ w Try.fieldVx1 (part_hashD _ 32 v.par w h1) (part_hashD _ 32 v.par w h1) (hb _ v.hp) ?_
  refine eq_fieldD 9999 _ _ _ _ 3 64 _ w Try.fieldVx2 (part_intD _ 64 v.d w h2) (part_intD _ 64 v.d w h2) (hn _) ?_
  refine eq_fieldD 9999 _ _ _ _ 3 65 _ w Try.fieldVx3 (part_intD _ 65 v.x w h3) (part_intD _ 65 v.x w h3) (hn _) ?_
  simp [Op.eqFields]
/-- What Head answers, the two ways in one. -/
def HeadOr (L : List Vx) (v : Vx) (c : Bool) : Prop := (L = [] ∧ v = vz ∧ c = false) ∨ (HeadIs L v ∧ c = true)
theorem HeadO_calls (sp mb : Nat) (keep : Int) (L : List Vx) (w : World) (h : StoreIs w sp mb keep L) (hn : L.length ≤ 1000) :
    Calls Try.prog 8 #[.pointer (some ⟨sp, 0, none⟩)] w fun e w' => ∃ v c, e = .returned (.tuple #[.agg v.cells.toArray, .bool c]) ∧ HeadOr L v c ∧ Below w.heap.size w w' := by
  refine (Head_calls sp mb keep L w h hn).mono ?_
  rintro e w' ⟨⟨h1, rfl⟩ | ⟨v, h1, rfl⟩, b⟩
  · exact ⟨vz, false, rfl, .inl ⟨h1, rfl, rfl⟩, b⟩
  · exact ⟨v, true, rfl, .inr ⟨h1, rfl⟩, b⟩
theorem HeadOr.same {L1 L2 : List Vx} {u v : Vx} {b c : Bool} (hn : (L1.map (·.id)).Nodup) (hm : ∀ u, u ∈ L1 ↔ u ∈ L2) (h1 : HeadOr L1 u b) (h2 : HeadOr L2 v c) : u = v ∧ b = c := by
  rcases h1 with ⟨rfl, rfl, rfl⟩ | ⟨h1, rfl⟩ <;> rcases h2 with ⟨rfl, rfl, rfl⟩ | ⟨h2, rfl⟩
  · exact ⟨rfl, rfl⟩
  · exact absurd ((hm v).2 h2.mem) (by simp)
  · exact absurd ((hm u).1 h1.mem) (by simp)
  · exact ⟨h1.ext hn hm h2, rfl⟩
theorem leavesM_tmps {F : Fence} {P : Program} {fn : Func} {tmps tmps' : Array Value} {R : Ending → World → Prop} (h : results fn tmps = results fn tmps') : ∀ (ds : List Deferred) (n : Nat) (u : FrameMode) (w : World), LeavesInM F n P fn tmps R ds u w → LeavesInM F n P fn tmps' R ds u w
  | [], n, u, w, hl => by
    cases u with
    | run => exact hl
    | returning => obtain ⟨v, h1, h2⟩ := hl; exact ⟨v, by rw [← h]; exact h1, h2⟩
    | panicking c => exact hl
  | d :: ds, n, u, w, hl => by
    obtain ⟨h1, h2⟩ := hl
    refine ⟨h1, ?_⟩
    rcases h2 with ⟨r, w', a1, a2, a3⟩ | ⟨a1, fv, cap, f, args, a2, a3, a4, a5⟩
    · exact .inl ⟨r, w', a1, a2, leavesM_tmps h ds n u w' a3⟩
    · refine .inr ⟨a1, fv, cap, f, args, a2, a3, a4, a5.mono fun e u' w' h' => ?_⟩
      cases e with
      | returned v => exact leavesM_tmps h ds n _ _ h'
      | panicked c => exact leavesM_tmps h ds n _ _ h'
      | outgrown => exact h'
theorem postM_put {F : Fence} {P : Program} {n : Nat} {fn : Func} {p : Tmp} {ty : TypeId} {R : Ending → World → Prop} (hf : fn.results = #[.cell p ty]) (c : List PanicEntry) (a : Act) (w : World) (d : Option Tmp) (v : Value) (hd : d ≠ some p) (h : bodyPostM F n P fn R (.panic c) (a.put d v) w) : bodyPostM F n P fn R (.panic c) a w := by
  have e : results fn (a.put d v).tmps = results fn a.tmps := by
    have e2 : (a.put d v).tmps.getD p undef = a.tmps.getD p undef := by
      cases d with
      | none => rfl
      | some d =>
        have hne : d ≠ p := fun e => hd (by rw [e])
        simp [Act.put, Array.getElem?_setIfInBounds, hne]
    simp only [results, hf]
    simp only [List.mapM_toArray, List.mapM_cons, List.mapM_nil, e2]
    first | rfl | skip
  have h2 : LeavesInM F n P fn (a.put d v).tmps R (a.put d v).defers (.panicking c) w := h
  have e3 : (a.put d v).defers = a.defers := by cases d <;> rfl
  rw [e3] at h2
  exact leavesM_tmps e _ _ _ _ h2
theorem empty_own {w : World} {g : Nat} (h : Blk w g #[] 34) (base : Nat) (hb : base ≤ g) : ROwn Rv.cells 66 w base 34 (.slice (some ⟨g, 0, none⟩) 0 0) [] :=
  ⟨rfl, .inr ⟨g, 0, #[], rfl, hb, h, Nat.le_refl _, Nat.zero_le _, rfl, rfl⟩⟩
end Go.Proofs.Ytodnmhflafpefaa
