/-
  DagHead: the head is the deepest and never gone.
-/
import Derived.Test.YtodnmhflafpefaaDagRng
import Derived.Test.YtodnmhflafpefaaDagAw
import Derived.WalkLawsBesides
import Derived.Laws.ResultCell
import Derived.Deep.LoopGhost
import Derived.RangeFuncNested
import Derived.RangeFuncBound
import Derived.RangeFuncCalls
import Derived.RangeFuncLeaves
import Derived.RangeFuncBox
import Derived.Shelf.Abstract
import Derived.Shelf.RegionOpen
import Derived.WalkKit
import Derived.OwnWalkIn
import Derived.TacticsInMore
import Derived.LoopNIn
import Derived.LoopIn
import Derived.Deep.RegionHeld
import Derived.Deep.Cut
import Derived.OpenShut
import Derived.Outline
import Derived.Handy
set_option linter.unusedSimpArgs false
set_option linter.unusedVariables false
namespace Go.Proofs.Ytodnmhflafpefaa
open Go.RowKit

theorem wpQuiet_build {P : Program} {ops : Array Oper} {C : World → Prop} {Q : Act → Prop} {a : Act} {o : Oper} {rest : List Oper} (hw : Region.wanted o (yielded ops a.tmps) = true) (t : TypeId) (parts : Array (Nat × Operand)) (ho : o.op = .build t parts) (cells : Array Value)
    (hf : P.built t (parts.toList.map fun (p : Nat × Operand) => (p.1, a.eval p.2)) = some cells) (h : wpQuiet P ops C Q rest (a.put o.dst (.agg cells))) : wpQuiet P ops C Q (o :: rest) a :=
  wpQuiet_step fun K hK => by
    rw [if_pos hw]
    refine ⟨_, fun w hw' => ?_, hK _ h⟩
    have hf' : P.built t (parts.map fun (i, x) => (i, a.eval x)).toList = some cells := by rw [Array.toList_map]; exact hf
    unfold Oper.quietAt execOp
    simp only [ho, Sem.run_bind, run_build w t _ cells hf', Result.andThen_ok, Sem.run_pure]
    exact ⟨rfl, rfl⟩
/-- All blocks of cells lie as they lay. -/
def KpC (A B : World) : Prop := ∀ (k : Nat) (cs : Array Value) (t : TypeId) (fr : Nat × Nat), A.heap[k]? = some (Obj.cells cs t fr) → B.heap[k]? = some (Obj.cells cs t fr)
def SafeC (W : World) (k : Nat) : Prop := ∃ (cs : Array Value) (t : TypeId) (fr : Nat × Nat), W.heap[k]? = some (Obj.cells cs t fr)
theorem KpC.refl (A : World) : KpC A A := fun _ _ _ _ h => h
theorem KpC.t {A B C : World} (h : KpC A B) (g : KpC B C) : KpC A C := fun k cs t fr hk => g k cs t fr (h k cs t fr hk)
theorem KpC.below {A B : World} (b : Below A.heap.size A B) : KpC A B := fun k cs t fr hk => (b.block k (lt_of_block hk)).trans hk
theorem KpC.b {w : World} (W : World) (l : Nat) (o o' : Obj) (_ : w.heap.size ≤ l) (h : W.heap[l]? = some o) (hc : o.isCells = false) (_ : o.isWalk = false) : KpC W (W.putObj l o') := fun k cs t fr hk => by
  have hkl : k ≠ l := fun e => by
    subst e
    rw [h] at hk
    cases hk
    cases hc
  exact (World.putObj_heap_other hkl).trans hk
theorem KpC.ok (w : World) : KpOk KpC SafeC w where
  keep A B k h := fun ⟨cs, t, fr, hk⟩ => ⟨(h k cs t fr hk).trans hk.symm, cs, t, fr, h k cs t fr hk⟩
  new W k _ _ hc := hc
  step A B k b := fun ⟨cs, t, fr, hk⟩ => ⟨cs, t, fr, (b.block k (lt_of_block hk)).trans hk⟩
/-- What DagHead's loop carries. -/
structure HdI (w : World) (sp mb R4 b5 : Nat) (kk : Int) (L : List Vx) (Ds : List Nat) (wr : World) : Prop where
  sto : StoreIs wr sp mb kk L
  res : Boxed wr R4 4 (.bool false)
  box : Boxed wr b5 24 (.pointer (some ⟨sp, 0, none⟩))
  bel : Below w.heap.size w wr
  mks : Marks w.heap.size Ds wr
theorem HdI.below {w : World} {sp mb R4 b5 : Nat} {kk : Int} {L : List Vx} {Ds : List Nat} {wr w' : World} (h : HdI w sp mb R4 b5 kk L Ds wr) (b : Below wr.heap.size wr w') : HdI w sp mb R4 b5 kk L Ds w' :=
  ⟨h.sto.below b, boxed_below h.res b, boxed_below h.box b, h.bel.trans (b.mono h.bel.size), h.mks.below b⟩
theorem HdI.drew {w : World} {sp mb R4 b5 : Nat} {kk : Int} {L : List Vx} {Ds : List Nat} {wr : World} (h : HdI w sp mb R4 b5 kk L Ds wr) : HdI w sp mb R4 b5 kk L Ds wr.drew := h.below (below_drewN (Below.refl _ _) 1)
theorem HdI.ins {w : World} {sp mb R4 b5 : Nat} {kk : Int} {L L' : List Vx} {Ds : List Nat} {wr w' : World} (h : HdI w sp mb R4 b5 kk L Ds wr) (hs : StoreIs w' sp mb kk L') (g : wr.grownBy w' (some mb)) (hm : w.heap.size ≤ mb) : HdI w sp mb R4 b5 kk L' Ds w' := by
  have hb : ∀ {q : Nat} {t : TypeId} {v : Value}, Boxed wr q t v → some q ≠ some mb := fun {q t v} hq e => by
    cases e
    obtain ⟨es, clock, h1, _⟩ := h.sto.map
    unfold Boxed at hq
    rw [h1] at hq; cases hq
  refine ⟨hs, h.res.kept g (hb h.res), h.box.kept g (hb h.box), h.bel.grown g h.bel.size (fun q e => by cases e; exact hm), h.mks.grown g (fun r e => ?_)⟩
  cases e
  obtain ⟨es, clock, h1, _⟩ := h.sto.map
  rw [h1]; simp
theorem HdI.own {w : World} {sp mb R4 b5 : Nat} {kk : Int} {L : List Vx} {Ds : List Nat} {X Y : World} {row : Option Nat} {B : Nat} (h : HdI w sp mb R4 b5 kk L Ds X) (hg : X.grownBy Y row) (hr : ∀ r, row = some r → B ≤ r ∧ ∃ o : Obj, X.heap[r]? = some o ∧ o.isCells = false) (hB : sp < B ∧ mb < B ∧ R4 < B ∧ b5 < B ∧ w.heap.size ≤ B ∧ ∀ D ∈ Ds, D < B) : HdI w sp mb R4 b5 kk L Ds Y := by
  obtain ⟨h1, h2, h3, h4, h5, h6⟩ := hB
  have hne : ∀ q, q < B → some q ≠ row := fun q hq e => by have := (hr q e.symm).1; omega
  exact ⟨⟨h.sto.blk.grown hg (hne _ h1), h.sto.map.kept hg (hne _ h2), h.sto.nodup⟩, h.res.kept hg (hne _ h3), h.box.kept hg (hne _ h4), h.bel.grown hg h.bel.size (fun q e => by have := (hr q e).1; omega),
    ⟨fun D hD => (hg.block D (Array.getElem?_eq_some_iff.1 (h.mks.at_ D hD)).1 (hne _ (h6 D hD))).trans (h.mks.at_ D hD), h.mks.nd, h.mks.lo⟩⟩
theorem HdI.done {w : World} {sp mb R4 b5 : Nat} {kk : Int} {L : List Vx} {Ds : List Nat} {wr : World} (h : HdI w sp mb R4 b5 kk L Ds wr) (hR : w.heap.size ≤ R4) :
    (∀ D ∈ Ds, (wr.setCell ⟨R4, 0, none⟩ (.bool true)).heap[D]? = some (.deferred (some []))) ∧ ∀ w', Marked Ds (wr.setCell ⟨R4, 0, none⟩ (.bool true)) w' → w'.cell? ⟨R4, 0, none⟩ = some (.bool true) ∧ Below w.heap.size w w' := by
  have hg : wr.grownBy (wr.setCell ⟨R4, 0, none⟩ (.bool true)) (some R4) := grownBy_setCell' wr R4 _
  have hR4 : wr.heap[R4]? = some (.cells #[.bool false] 4 (0, 0)) := h.res
  have hmk := h.mks.grown hg (fun r e => by cases e; rw [hR4]; simp)
  have hbel : Below w.heap.size w (wr.setCell ⟨R4, 0, none⟩ (.bool true)) := h.bel.grown hg h.bel.size (fun q e => by cases e; exact hR)
  have hbx : Boxed (wr.setCell ⟨R4, 0, none⟩ (.bool true)) R4 4 (.bool true) := h.res.set _
  refine ⟨hmk.at_, fun w' hw' => ⟨?_, hw'.os.trans hbel.os, hw'.tape.trans hbel.tape, hw'.output.trans hbel.output, by rw [hw'.size]; exact hbel.size, fun k hk => ?_⟩⟩
  · have hn : R4 ∉ Ds := fun e => by
      have := h.mks.at_ R4 e
      rw [hR4] at this; cases this
    have : Boxed w' R4 4 (.bool true) := (hw'.block R4 hn).trans hbx
    exact this.cell
  · rw [hw'.block k (fun e => by have := h.mks.lo k e; omega)]
    exact hbel.block k hk
/-- The deepest that was seen. -/
def DeepOk (kk : Int) (L : List Vx) (dp : Int) : Prop := ((L = [] ∧ dp = -1) ∨ (L ≠ [] ∧ dp = maxd L)) ∧ ∀ u ∈ L, floorT kk L ≤ u.d
def DeepLe (kk : Int) (L : List Vx) (dp : Int) : Prop := ((L = [] ∧ dp = -1) ∨ (L ≠ [] ∧ dp ≤ maxd L)) ∧ ∀ u ∈ L, floorT kk L ≤ u.d
theorem DeepOk.ins {kk : Int} (hk : 1 ≤ kk) {L : List Vx} {dp : Int} (h : DeepOk kk L dp) (r : Rv) : DeepLe kk (outR kk L r) dp := by
  have hle : DeepLe kk L dp := ⟨h.1.imp id fun ⟨a, b⟩ => ⟨a, Int.le_of_eq b⟩, h.2⟩
  unfold outR
  split
  · rename_i ho
    unfold insOut
    split
    · refine ⟨.inr ⟨ins_ne hk L _, ?_⟩, ins_floor hk L _⟩
      rw [maxd_ins hk]
      have h0 := maxd_nonneg L
      rcases h.1 with ⟨_, h1⟩ | ⟨_, h1⟩ <;> omega
    · exact hle
  · exact hle
theorem DeepLe.head {kk : Int} {L : List Vx} {dp : Int} {v : Vx} (h : DeepLe kk L dp) (hn : (L.map (·.id)).Nodup) (hv : HeadIs L v) : ¬ v.d < dp ∧ DeepOk kk L v.d := by
  have e := maxd_head hn hv
  have hne : L ≠ [] := fun e => by have := hv.mem; rw [e] at this; cases this
  refine ⟨?_, .inr ⟨hne, e⟩, h.2⟩
  rcases h.1 with ⟨h1, _⟩ | ⟨_, h1⟩
  · exact absurd h1 hne
  · omega
theorem DeepLe.none {kk : Int} {dp : Int} (h : DeepLe kk [] dp) : DeepOk kk [] dp := by
  refine ⟨.inl ⟨rfl, ?_⟩, fun _ hu => by cases hu⟩
  rcases h.1 with ⟨_, h1⟩ | ⟨h1, _⟩
  · exact h1
  · exact absurd rfl h1
/-- What a member of the store is against the head. -/
theorem member_three {L : List Vx} {kk : Int} {v x : Vx} {dp : Int} (hn : (L.map (·.id)).Nodup) (hv : HeadIs L v) (hx : x ∈ L) (hd : DeepOk kk L dp) :
    ¬ v.d < x.d ∧ ¬ x.d < floorT kk L ∧ (x.d ≠ v.d ∨ x.d = v.d ∧ Op.bytesLess x.id v.id = false) := by
  have e := maxd_head hn hv
  have h1 := maxd_ge hx
  refine ⟨by omega, by have := hd.2 x hx; omega, ?_⟩
  by_cases h2 : x.d = v.d
  · refine .inr ⟨h2, ?_⟩
    rw [bytesLess_eq _ _ (by rw [x.hi, v.hi]), ltT, decide_eq_false_iff_not]
    by_cases h3 : x.id = v.id
    · rw [h3, cmpT_self]; omega
    · rcases hv.all x hx h3 with h4 | h4
      · omega
      · have := cmpT_swap x.id v.id; have := h4.2; omega
  · exact .inl h2
set_option maxHeartbeats 4000000 in
set_option maxRecDepth 100000 in
theorem dagHead_big {w0 : World} (a0 : Int) (wf0 : (Lit.int .u8 a0).wf = true) (v1 : Value) (rs : List Rv) (h1 : RvAt w0 v1 rs) (m1 : rs.length ≤ maxLen) (h60 : 60 < rs.length) (w : World) (hw : w0 = w := by rfl) :
    Calls Try.prog 3 #[.int .u8 a0, v1] w fun e w' => e = .returned (.bool true) ∧ Below w.heap.size w w' := by
  subst hw
  obtain ⟨w, rfl⟩ : ∃ w : World, w = w0 := ⟨_, rfl⟩
  have hk8 : 0 ≤ a0 ∧ a0 ≤ 255 := bounds_u8 wf0
  obtain ⟨hk1, hk2⟩ := hk8
  obtain ⟨ao, cc, rfl⟩ := h1.slice
  unfold maxLen at m1
  have H1 := Lib.hid h1
  clear h1 wf0
  have hd60 : decide (60 < rs.length) = true := decide_eq_true h60
  have hb1 : Below w.heap.size w (w.alloc (.cells #[.bool false] 4)) := below_alloc1 _ _
  have hx1 : Boxed (w.alloc (.cells #[.bool false] 4)) w.heap.size 4 (.bool false) := Boxed.new _ _ _
  go_enter Try.func3, Try.ntmps3
  go_wp2_with fail
  refine (awake15_calls _).mono ?_
  rintro e w2 ⟨rfl, b2⟩
  have hB2 := hb1.trans (b2.mono hb1.size)
  have hx2 := boxed_below hx1 b2
  clear hb1 hx1 b2
  go_wp2_with fail
  refine (awake15_calls _).mono ?_
  rintro e w3 ⟨rfl, b3⟩
  have hB3 := hB2.trans (b3.mono hB2.size)
  have hx3 := boxed_below hx2 b3
  have hc3 := hx3.cell
  have hf3 := hx3.frozen
  clear hB2 hx2 b3
  go_wp2_with fail
  exact bodyPost_ret (results_cell1 rfl (by rfl) (hx3.set _).cell Try.underlying4 rfl) rfl ⟨rfl, hB3.setCell (Nat.le_refl _) _⟩
set_option maxHeartbeats 16000000 in
set_option maxRecDepth 100000 in
theorem dagHead_few {w0 : World} (a0 : Int) (wf0 : (Lit.int .u8 a0).wf = true) (v1 : Value) (rs : List Rv) (h1 : RvAt w0 v1 rs) (m1 : rs.length ≤ maxLen) (h60 : rs.length ≤ 60) (w : World) (hw : w0 = w := by rfl) :
    Calls Try.prog 3 #[.int .u8 a0, v1] w fun e w' => e = .returned (.bool true) ∧ Below w.heap.size w w' := by
  subst hw
  obtain ⟨w, rfl⟩ : ∃ w : World, w = w0 := ⟨_, rfl⟩
  have hk8 : 0 ≤ a0 ∧ a0 ≤ 255 := bounds_u8 wf0
  obtain ⟨hk1, hk2⟩ := hk8
  obtain ⟨ao, cc, rfl⟩ := h1.slice
  unfold maxLen at m1
  have H1 := Lib.hid h1
  clear h1 wf0
  have hd60 : decide (60 < rs.length) = false := decide_eq_false (by omega)
  have hb1 : Below w.heap.size w (w.alloc (.cells #[.bool false] 4)) := below_alloc1 _ _
  have hx1 : Boxed (w.alloc (.cells #[.bool false] 4)) w.heap.size 4 (.bool false) := Boxed.new _ _ _
  refine (callsIn_wide (n := 9)).1 ?_
  refine callsIn_of_wp_marks Try.func3 rfl trivial ?_ rfl
  simp only [Try.ntmps3, List.size_toArray, List.length_cons, List.length_nil, Nat.reduceAdd, Nat.reduceSub, Array.replicate_succ, Array.replicate_zero, List.push_toArray, List.append_toArray, List.nil_append, List.cons_append]
  refine (wpIn_wide (n := 9)).2 ?_
  go_wp2_with fail
  refine (awake15_calls _).mono ?_
  rintro e w2 ⟨rfl, b2⟩
  have hB2 := hb1.trans (b2.mono hb1.size)
  have hx2 := boxed_below hx1 b2
  obtain ⟨R4, hR4⟩ : ∃ x, x = w.heap.size := ⟨_, rfl⟩
  have HR4 := Lib.hid hR4
  rw [← hR4] at hx2 ⊢
  clear hb1 hx1 b2 hR4
  have hd61 : decide ((60 : Int) < (rs.length : Nat)) = false := decide_eq_false (by omega)
  go_wp2_with fail
  refine (DNew_calls (1 + a0 % 64) _ (by omega)).mono ?_
  rintro e w3 ⟨sp, mb, rfl, hs3, b3, hsp, hmb, hne⟩
  obtain ⟨kk, hkk⟩ : ∃ x, x = 1 + a0 % 64 := ⟨_, rfl⟩
  have hkb : 1 ≤ kk ∧ kk ≤ 64 := by omega
  rw [← hkk] at hs3 ⊢
  have hB3 := hB2.trans (b3.mono hB2.size)
  have hx3 := boxed_below hx2 b3
  have hsw : w.heap.size ≤ sp := Nat.le_trans hB2.size hsp
  have hmw : w.heap.size ≤ mb := Nat.le_trans hB2.size hmb
  obtain ⟨b5, hb5⟩ : ∃ x, x = w3.heap.size := ⟨_, rfl⟩
  have hb5w : w.heap.size ≤ b5 := by rw [hb5]; exact hB3.size
  have hI0 : HdI w sp mb R4 b5 kk [] [] (w3.alloc (.cells #[.pointer (some ⟨sp, 0, none⟩)] 24)) :=
    ⟨hs3.below (below_alloc1 _ _), hx3.alloc _, by rw [hb5]; exact Boxed.new _ _ _, hB3.trans ((below_alloc1 w3 _).mono hB3.size), ⟨(fun _ h => by cases h), List.nodup_nil, (fun _ h => by cases h)⟩⟩
  have HI0 := Lib.hid hI0
  clear hI0 hs3 b3 hsp hmb hne hB2 hB3 hx2 hx3 hkk hd60 hd61 hk1 hk2

  go_wp2_with fail
  rw [← hb5]
  clear hb5
  refine wp_loop_k (fun a wr => ∃ (i : Nat) (L : List Vx) (dp : Int) (Ds : List Nat) (u7 u8 u9 u10 u28 u29 u30 u31 u32 u33 u34 u35 u36 u37 u38 u39 u40 u41 u42 u43 u44 u45 u46 u47 u48 u49 u50 u51 u52 u53 u54 u55 u56 u57 u58 u59 u60 u61 u62 u63 u64 u65 u66 : Value), i ≤ rs.length ∧ L.length ≤ i ∧ u7 = .int .i64 dp ∧ u8 = .int .i64 (i : Nat) ∧ a = { tmps := #[.int .u8 a0, .slice ao rs.length cc, undef, undef, .pointer (some ⟨R4, 0, none⟩), .pointer (some ⟨b5, 0, none⟩), .int .i64 0, u7, u8, u9, u10, undef, .bool true, .bool false, .bool false, .slice ao rs.length cc, .int .i64 (rs.length : Nat), .bool false, .bool false, undef, .tuple #[.pointer (some ⟨sp, 0, none⟩), .int .i64 0], .int .u8 a0, .int .i64 a0, .int .i64 (a0 % 64), .int .i64 kk, .tuple #[.pointer (some ⟨sp, 0, none⟩), .int .i64 0], .pointer (some ⟨sp, 0, none⟩), .int .i64 0, u28, u29, u30, u31, u32, u33, u34, u35, u36, u37, u38, u39, u40, u41, u42, u43, u44, u45, u46, u47, u48, u49, u50, u51, u52, u53, u54, u55, u56, u57, u58, u59, u60, u61, u62, u63, u64, u65, u66, undef, undef, undef, undef, undef, undef, undef, undef, undef, undef, undef, undef, undef, undef, undef, undef, undef, undef, undef, undef, undef, undef, undef, undef, undef, undef, undef, undef, undef], defers := Ds.map markOf } ∧ Hid (HdI w sp mb R4 b5 kk L Ds wr) ∧ Hid (DeepOk kk L dp)) (fun a _ => rs.length - (intOf (a.tmps.getD 8 undef)).toNat) ⟨0, [], -1, [], _, _, _, _, _, _, _, _, _, _, _, _, _, _, _, _, _, _, _, _, _, _, _, _, _, _, _, _, _, _, _, _, _, _, _, _, _, _, _, _, _, _, _, by omega, by simp, rfl, rfl, rfl, HI0, Lib.hid ⟨.inl ⟨rfl, rfl⟩, fun _ h => by cases h⟩⟩ ?_
  clear HI0
  rintro a wr ⟨i, L, dp, Ds, u7, u8, u9, u10, u28, u29, u30, u31, u32, u33, u34, u35, u36, u37, u38, u39, u40, u41, u42, u43, u44, u45, u46, u47, u48, u49, u50, u51, u52, u53, u54, u55, u56, u57, u58, u59, u60, u61, u62, u63, u64, u65, u66, hi, hL, rfl, rfl, rfl, HI, HD⟩ K hK
  by_cases hlt : i < rs.length
  · obtain ⟨r, hr⟩ : ∃ r, rs[i]? = some r := ⟨_, List.getElem?_eq_getElem hlt⟩
    obtain ⟨g, o, rfl, hrg⟩ := (H1.out.below HI.out.bel).range Rv.cells_len i r hr
    have hid := rv_id hrg
    have hpar := rv_par hrg
    have hdd := rv_d hrg
    have hc5 := HI.out.box.cell
    have HRI : Hid (r.id.length = 32) := r.hi
    have HRP : Hid (r.par.length = 32) := r.hp
    clear hr hrg
    go_upto_region 8 with (fail)
    refine wp_still_store 17 (by kernel_rfl) (by kernel_rfl) ?_
    simp only [List.take_succ_cons, List.take_zero, List.drop_succ_cons, List.drop_zero]
    repeat (first | go_big_quiet_skip | ((with_reducible show wpQuiet _ _ _ _ (⟨some 39, _, _, _, _, _⟩ :: _) _); refine wpQuiet_loadMid (by rfl) 32 (.tmp 38) rfl g (o + i * 66) (by rfl) (r.id.map bv) _ (fun y hy => by subst hy; exact hid) Try.underlying32 rfl (by rw [List.length_map, HRI.out]; exact Try.sizeHash) ?_; simp only [Act.put, List.setIfInBounds_toArray, List.set_cons_succ, List.set_cons_zero]) | ((with_reducible show wpQuiet _ _ _ _ (⟨some 44, _, _, _, _, _⟩ :: _) _); refine wpQuiet_loadMid (by rfl) 32 (.tmp 43) rfl g (o + i * 66 + 32) (by rfl) (r.par.map bv) _ (fun y hy => by subst hy; exact hpar) Try.underlying32 rfl (by rw [List.length_map, HRP.out]; exact Try.sizeHash) ?_; simp only [Act.put, List.setIfInBounds_toArray, List.set_cons_succ, List.set_cons_zero]) | ((with_reducible show wpQuiet _ _ _ _ (⟨some 50, _, _, _, _, _⟩ :: _) _); refine wpQuiet_build (by rfl) 35 #[(0, .tmp 39), (1, .tmp 44), (2, .tmp 49)] rfl _ (vx_built3 r) ?_; simp only [Act.put, List.setIfInBounds_toArray, List.set_cons_succ, List.set_cons_zero]) | (go_big_quiet_want; go_big_quiet_op; go_big_quiet_on))
    refine wpQuiet_nil ?_
    clear hid hpar hdd hc5
    go_wp2_with fail
    refine (Insert_calls sp mb kk L ⟨r.id, r.par, r.d, 0, r.hi, r.hp⟩ _ (HI.out.drew.sto) (by omega) hkb).mono ?_
    rintro e w5 ⟨gao, gc, rfl, hs5, g5⟩
    have HI5 := Lib.hid (HI.out.drew.ins hs5 g5 hmw)
    have HD5 := Lib.hid (HD.out.ins hkb.1 ⟨r.id, r.par, r.d, 0, r.hi, r.hp⟩)
    have hL5 := outR_len kk L ⟨r.id, r.par, r.d, 0, r.hi, r.hp⟩
    obtain ⟨L5, hL5e⟩ : ∃ L5, L5 = outR kk L ⟨r.id, r.par, r.d, 0, r.hi, r.hp⟩ := ⟨_, rfl⟩
    rw [← hL5e] at HI5 HD5 hL5
    have hc5 := HI5.out.box.cell
    obtain ⟨gone, hgone⟩ : ∃ x, x = goneR kk L ⟨r.id, r.par, r.d, 0, r.hi, r.hp⟩ := ⟨_, rfl⟩
    obtain ⟨err, herr⟩ : ∃ x, x = chkR kk L ⟨r.id, r.par, r.d, 0, r.hi, r.hp⟩ := ⟨_, rfl⟩
    rw [← hgone, ← herr]
    clear hs5 g5 HI HD hL5e hgone herr
    go_wp2_with ((with_reducible show wpList _ _ _ (⟨some 53, _, _, _, _, _⟩ :: _) _ _); refine wpList_load1 rfl 24 (.tmp 5) rfl (b5) 0 (by rfl) _ _ (hc5) Try.underlying24 rfl ?_)
    refine (Head_calls sp mb kk L5 _ HI5.out.sto (by omega)).mono ?_
    rintro e w6 ⟨hres, b6⟩
    have HI6 := Lib.hid (HI5.out.below b6)
    clear HI5 hc5 b6
    rcases hres with ⟨hLe, rfl⟩ | ⟨v, hh, rfl⟩
    · have HLE := Lib.hid hLe
      clear hLe
      go_wp2_with (first | ((with_reducible show wpList _ _ _ (⟨some 9, _, _, _, _, _⟩ :: _) _ _); refine wpList_allocZ rfl 35 rfl _ Try.zeroVx ?_; intro wa sa ba na; clear sa) | ((with_reducible show wpList _ _ _ (⟨none, Op.store _ (.tmp 9) _, _, _, _, _⟩ :: _) _ _); refine wpList_storeBlk rfl 35 (.tmp 9) (.tmp 55) rfl w6.heap.size vz.cells.toArray (by rfl) (by rfl) _ _ na (vx_sizeA vz) (vx_hold _ _) (vx_all vz) ?_; intro w7 n7 g7; have HI7 := Lib.hid (HI6.out.below (below_new ba g7 (Nat.le_refl _) ba.size)); clear ba na g7 n7 HI6))
      have HD7 : Hid (DeepOk kk L5 dp) := by
        have h1 := HD5.out
        rw [HLE.out] at h1
        show DeepOk _ _ _
        rw [HLE.out]; exact h1.none
      refine hK _ _ ⟨i + 1, L5, dp, Ds, _, _, _, _, _, _, _, _, _, _, _, _, _, _, _, _, _, _, _, _, _, _, _, _, _, _, _, _, _, _, _, _, _, _, _, _, _, _, _, _, _, _, _, by omega, by omega, rfl, ?_, rfl, HI7, HD7⟩ ?_
      · go_num
      · simp [intOf]; omega
    · have hnd5 := HI6.out.sto.nodup
      obtain ⟨hnl, hdk⟩ := HD5.out.head hnd5 hh
      have HND := Lib.hid hnd5
      have HDK := Lib.hid hdk
      have HH := Lib.hid hh
      have hdn : decide (v.d < dp) = false := decide_eq_false hnl
      clear hnl hdk hh hnd5 HD5
      go_wp2_with (first | ((with_reducible show wpList _ _ _ (⟨some 9, _, _, _, _, _⟩ :: _) _ _); refine wpList_allocZ rfl 35 rfl _ Try.zeroVx ?_; intro wa sa ba na; clear sa) | ((with_reducible show wpList _ _ _ (⟨none, Op.store _ (.tmp 9) _, _, _, _, _⟩ :: _) _ _); refine wpList_storeBlk rfl 35 (.tmp 9) (.tmp 55) rfl w6.heap.size v.cells.toArray (by rfl) (by rfl) _ _ na (vx_sizeA v) (vx_hold _ _) (vx_all v) ?_; intro w7 n7 g7; have HI7 := Lib.hid (HI6.out.below (below_new ba g7 (Nat.le_refl _) ba.size)); have HN7 := Lib.hid n7; have hvd := vx_d (blk_rangeP n7); have hc5 := HI7.out.box.cell; rw [Nat.zero_add] at hvd; clear ba na g7 n7 HI6) | ((with_reducible show wpList _ _ _ (⟨some 60, _, _, _, _, _⟩ :: _) _ _); refine wpList_load1 rfl 3 (.tmp 59) rfl (w6.heap.size) 64 (by rfl) _ _ (hvd) Try.underlying3 rfl ?_) | ((with_reducible show wpList _ _ _ (⟨some 64, _, _, _, _, _⟩ :: _) _ _); refine wpList_load1 rfl 3 (.tmp 63) rfl (w6.heap.size) 64 (by rfl) _ _ (hvd) Try.underlying3 rfl ?_) | ((with_reducible show wpList _ _ _ (⟨some 65, _, _, _, _, _⟩ :: _) _ _); refine wpList_load1 rfl 24 (.tmp 5) rfl (b5) 0 (by rfl) _ _ (hc5) Try.underlying24 rfl ?_))
      refine (All_calls sp _).mono ?_
      rintro e w8 ⟨rfl, hw8⟩
      have hb8 : Below w7.heap.size w7 w8 := by rw [hw8]; exact below_alloc1 _ _
      have hbs : Blk w8 w7.heap.size #[.pointer (some ⟨sp, 0, none⟩)] 24 := by rw [hw8]; exact Blk.new _ _ _
      have HI8 := Lib.hid (HI7.out.below hb8)
      have HN8 := Lib.hid (HN7.out.below hb8 HN7.out.lt)
      obtain ⟨b9, hb9⟩ : ∃ x, x = w6.heap.size := ⟨_, rfl⟩
      obtain ⟨M, hM⟩ : ∃ x, x = w7.heap.size := ⟨_, rfl⟩
      rw [← hb9] at HN8 ⊢
      rw [← hM] at hbs ⊢
      clear hw8 hb8 hb9 hM HI7 HN7 hvd hc5 hdn
      go_wp2_with fail
      have hB8 : sp < w8.heap.size ∧ mb < w8.heap.size ∧ R4 < w8.heap.size ∧ b5 < w8.heap.size ∧ w.heap.size ≤ w8.heap.size ∧ ∀ D ∈ Ds, D < w8.heap.size :=
        ⟨HI8.out.sto.blk.lt, HI8.out.sto.map.lt, HI8.out.res.lt, HI8.out.box.lt, HI8.out.bel.size, fun D hD => (Array.getElem?_eq_some_iff.1 (HI8.out.mks.at_ D hD)).1⟩
      refine wpIn_rangeAll sp mb M kk L5 (by rfl) (KpC.ok w8) hbs HI8.out.sto (by omega) KpC.t (KpC.b) (fun A B b => KpC.below b) (by simp) (by simp) (by omega)
        (fun _ W => HdI w sp mb R4 b5 kk L5 Ds W ∧ Blk W b9 v.cells.toArray 35) ?own ⟨HI8.out, HN8.out⟩ ?body ?done
      case own =>
        rintro pre X Y row ⟨h1, h2⟩ hg hr
        exact ⟨h1.own hg hr hB8, h2.grown hg (fun e => by
          obtain ⟨_, ob, ho, hc⟩ := hr b9 e.symm
          unfold Blk at h2
          rw [h2] at ho
          cases ho
          cases hc)⟩
      case body =>
        rintro l pre y Bx W ⟨hi9, hb9⟩ bX
        simp only [List.setIfInBounds_toArray, List.set_cons_succ, List.set_cons_zero]
        clear hK hbs hB8
        obtain ⟨m1', m2', m3'⟩ := member_three HND.out HH.out y.2 HDK.out
        have hd1 : decide (v.d < y.1.d) = false := decide_eq_false m1'
        obtain ⟨F, hF⟩ : ∃ F, F = floorT kk L5 := ⟨_, rfl⟩
        rw [← hF] at m2'
        have cF : Hid (∀ z, StoreIs z sp mb kk L5 → Calls Try.prog 10 #[.pointer (some ⟨sp, 0, none⟩)] z fun e w' => e = .returned (.int .i64 F) ∧ Below z.heap.size z w') := fun z hz => by rw [hF]; exact FloorT_calls sp mb kk L5 z hz (by omega) hkb
        have hd2 : decide (y.1.d < F) = false := decide_eq_false m2'
        clear hF m1' m2'
        refine wpIn_block ?_
        refine wpIn_seq_k (fun K2 hK2 => ?_)
        rcases m3' with hne | ⟨heq, hbl⟩
        · have hd3 : decide (y.1.d = v.d) = false := decide_eq_false hne
          have hd4 : (y.1.d == v.d) = false := beq_false_of_ne hne
          clear hne
          refine wpIn_region_held_drew (S := fun x => Blk x (Bx) y.1.cells.toArray 35 ∧ Blk x (b9) v.cells.toArray 35 ∧ HdI w sp mb R4 b5 kk L5 Ds x ∧ Below W.heap.size W x) (.round l) (fun _ _ h => h) (by rfl) (by kernel_rfl) ⟨bX.drew, hb9.drew, hi9.below (below_drewN (Below.refl _ _) 1), below_drewN (Below.refl _ _) 1⟩ (fun hSq1 => ?_)
          refine wpAnyH_take (i := 0) (v := .pointer (some ⟨Bx, 64, none⟩)) rfl (by kernel_rfl) (by kernel_rfl) (by kernel_rfl) (fun _ _ _ h => h) (Or.inl ⟨by rfl, fun x hx => by go_simp⟩) hSq1 ?_
          simp only [Act.put, List.getElem_toArray, List.getElem_cons_zero, List.getElem_cons_succ, List.setIfInBounds_toArray, List.set_cons_zero, List.set_cons_succ]
          refine wpAnyH_take (i := 1) (v := .int .i64 y.1.d) rfl (by kernel_rfl) (by kernel_rfl) (by kernel_rfl) (fun _ _ _ h => h) (Or.inl ⟨by rfl, fun x hx => by have hc := vx_d (blk_rangeP hx.1); rw [Nat.zero_add] at hc; go_simp⟩) hSq1 ?_
          simp only [Act.put, List.getElem_toArray, List.getElem_cons_zero, List.getElem_cons_succ, List.setIfInBounds_toArray, List.set_cons_zero, List.set_cons_succ]
          refine wpAnyH_take (i := 2) (v := .pointer (some ⟨b9, 64, none⟩)) rfl (by kernel_rfl) (by kernel_rfl) (by kernel_rfl) (fun _ _ _ h => h) (Or.inl ⟨by rfl, fun x hx => by go_simp⟩) hSq1 ?_
          simp only [Act.put, List.getElem_toArray, List.getElem_cons_zero, List.getElem_cons_succ, List.setIfInBounds_toArray, List.set_cons_zero, List.set_cons_succ]
          refine wpAnyH_take (i := 3) (v := .int .i64 v.d) rfl (by kernel_rfl) (by kernel_rfl) (by kernel_rfl) (fun _ _ _ h => h) (Or.inl ⟨by rfl, fun x hx => by have hc := vx_d (blk_rangeP hx.2.1); rw [Nat.zero_add] at hc; go_simp⟩) hSq1 ?_
          simp only [Act.put, List.getElem_toArray, List.getElem_cons_zero, List.getElem_cons_succ, List.setIfInBounds_toArray, List.set_cons_zero, List.set_cons_succ]
          refine wpAnyH_take (i := 4) (v := .bool false) rfl (by kernel_rfl) (by kernel_rfl) (by kernel_rfl) (fun _ _ _ h => h) (Or.inl ⟨by rfl, fun x hx => by go_simp⟩) hSq1 ?_
          simp only [Act.put, List.getElem_toArray, List.getElem_cons_zero, List.getElem_cons_succ, List.setIfInBounds_toArray, List.set_cons_zero, List.set_cons_succ]
          refine wpAnyH_take (i := 5) (v := .bool false) rfl (by kernel_rfl) (by kernel_rfl) (by kernel_rfl) (fun _ _ _ h => h) (Or.inl ⟨by rfl, fun x hx => by go_simp⟩) hSq1 ?_
          simp only [Act.put, List.getElem_toArray, List.getElem_cons_zero, List.getElem_cons_succ, List.setIfInBounds_toArray, List.set_cons_zero, List.set_cons_succ]
          refine wpAnyH_take (i := 6) (v := .pointer (some ⟨Bx, 64, none⟩)) rfl (by kernel_rfl) (by kernel_rfl) (by kernel_rfl) (fun _ _ _ h => h) (Or.inl ⟨by rfl, fun x hx => by go_simp⟩) hSq1 ?_
          simp only [Act.put, List.getElem_toArray, List.getElem_cons_zero, List.getElem_cons_succ, List.setIfInBounds_toArray, List.set_cons_zero, List.set_cons_succ]
          refine wpAnyH_take (i := 7) (v := .int .i64 y.1.d) rfl (by kernel_rfl) (by kernel_rfl) (by kernel_rfl) (fun _ _ _ h => h) (Or.inl ⟨by rfl, fun x hx => by have hc := vx_d (blk_rangeP hx.1); rw [Nat.zero_add] at hc; go_simp⟩) hSq1 ?_
          simp only [Act.put, List.getElem_toArray, List.getElem_cons_zero, List.getElem_cons_succ, List.setIfInBounds_toArray, List.set_cons_zero, List.set_cons_succ]
          refine wpAnyH_take (i := 8) (v := .pointer (some ⟨sp, 0, none⟩)) rfl (by kernel_rfl) (by kernel_rfl) (by kernel_rfl) (fun _ _ _ h => h) (Or.inl ⟨by rfl, fun x hx => by have hc := hx.2.2.1.box.cell; go_simp⟩) hSq1 ?_
          simp only [Act.put, List.getElem_toArray, List.getElem_cons_zero, List.getElem_cons_succ, List.setIfInBounds_toArray, List.set_cons_zero, List.set_cons_succ]
          refine wpAnyH_ready (rs := [9]) (by kernel_rfl) (by simp) ?_
          refine AllReadyH.cons rfl (fun K hK => ?_) AllReadyH.nil
          go_simp
          go_wp2_with (go_at_call 10; refine (cF.out _ hSq1.2.2.1.sto).mono ?_; rintro e yq2 ⟨rfl, bq3⟩)
          refine hK.out _ _ ⟨hSq1.1.below bq3 hSq1.1.lt, hSq1.2.1.below bq3 hSq1.2.1.lt, hSq1.2.2.1.below bq3, hSq1.2.2.2.trans (bq3.mono (hSq1.2.2.2.size))⟩ (fun hSq4 => ?_)
          clear hK K hSq1 bq3
          refine wpAnyH_take (i := 10) (v := .bool false) rfl (by kernel_rfl) (by kernel_rfl) (by kernel_rfl) (fun _ _ _ h => h) (Or.inl ⟨by rfl, fun x hx => by go_simp⟩) hSq4 ?_
          simp only [Act.put, List.getElem_toArray, List.getElem_cons_zero, List.getElem_cons_succ, List.setIfInBounds_toArray, List.set_cons_zero, List.set_cons_succ]
          refine wpAnyH_take (i := 11) (v := .bool false) rfl (by kernel_rfl) (by kernel_rfl) (by kernel_rfl) (fun _ _ _ h => h) (Or.inl ⟨by rfl, fun x hx => by go_simp⟩) hSq4 ?_
          simp only [Act.put, List.getElem_toArray, List.getElem_cons_zero, List.getElem_cons_succ, List.setIfInBounds_toArray, List.set_cons_zero, List.set_cons_succ]
          refine wpAnyH_take (i := 12) (v := .bool false) rfl (by kernel_rfl) (by kernel_rfl) (by kernel_rfl) (fun _ _ _ h => h) (Or.inl ⟨by rfl, fun x hx => by go_simp⟩) hSq4 ?_
          simp only [Act.put, List.getElem_toArray, List.getElem_cons_zero, List.getElem_cons_succ, List.setIfInBounds_toArray, List.set_cons_zero, List.set_cons_succ]
          refine wpAnyH_take (i := 13) (v := .pointer (some ⟨Bx, 64, none⟩)) rfl (by kernel_rfl) (by kernel_rfl) (by kernel_rfl) (fun _ _ _ h => h) (Or.inl ⟨by rfl, fun x hx => by go_simp⟩) hSq4 ?_
          simp only [Act.put, List.getElem_toArray, List.getElem_cons_zero, List.getElem_cons_succ, List.setIfInBounds_toArray, List.set_cons_zero, List.set_cons_succ]
          refine wpAnyH_take (i := 14) (v := .int .i64 y.1.d) rfl (by kernel_rfl) (by kernel_rfl) (by kernel_rfl) (fun _ _ _ h => h) (Or.inl ⟨by rfl, fun x hx => by have hc := vx_d (blk_rangeP hx.1); rw [Nat.zero_add] at hc; go_simp⟩) hSq4 ?_
          simp only [Act.put, List.getElem_toArray, List.getElem_cons_zero, List.getElem_cons_succ, List.setIfInBounds_toArray, List.set_cons_zero, List.set_cons_succ]
          refine wpAnyH_take (i := 15) (v := .pointer (some ⟨b9, 64, none⟩)) rfl (by kernel_rfl) (by kernel_rfl) (by kernel_rfl) (fun _ _ _ h => h) (Or.inl ⟨by rfl, fun x hx => by go_simp⟩) hSq4 ?_
          simp only [Act.put, List.getElem_toArray, List.getElem_cons_zero, List.getElem_cons_succ, List.setIfInBounds_toArray, List.set_cons_zero, List.set_cons_succ]
          refine wpAnyH_take (i := 16) (v := .int .i64 v.d) rfl (by kernel_rfl) (by kernel_rfl) (by kernel_rfl) (fun _ _ _ h => h) (Or.inl ⟨by rfl, fun x hx => by have hc := vx_d (blk_rangeP hx.2.1); rw [Nat.zero_add] at hc; go_simp⟩) hSq4 ?_
          simp only [Act.put, List.getElem_toArray, List.getElem_cons_zero, List.getElem_cons_succ, List.setIfInBounds_toArray, List.set_cons_zero, List.set_cons_succ]
          refine wpAnyH_take (i := 17) (v := .bool false) rfl (by kernel_rfl) (by kernel_rfl) (by kernel_rfl) (fun _ _ _ h => h) (Or.inl ⟨by rfl, fun x hx => by go_simp⟩) hSq4 ?_
          simp only [Act.put, List.getElem_toArray, List.getElem_cons_zero, List.getElem_cons_succ, List.setIfInBounds_toArray, List.set_cons_zero, List.set_cons_succ]
          refine wpAnyH_take (i := 18) (v := .bool false) rfl (by kernel_rfl) (by kernel_rfl) (by kernel_rfl) (fun _ _ _ h => h) (Or.inl ⟨by rfl, fun x hx => by go_simp⟩) hSq4 ?_
          simp only [Act.put, List.getElem_toArray, List.getElem_cons_zero, List.getElem_cons_succ, List.setIfInBounds_toArray, List.set_cons_zero, List.set_cons_succ]
          refine wpAnyH_take (i := 19) (v := undef) rfl (by kernel_rfl) (by kernel_rfl) (by kernel_rfl) (fun _ _ _ h => h) (Or.inr ⟨by rfl, rfl⟩) hSq4 ?_
          simp only [Act.put, List.getElem_toArray, List.getElem_cons_zero, List.getElem_cons_succ, List.setIfInBounds_toArray, List.set_cons_zero, List.set_cons_succ]
          refine wpAnyH_take (i := 20) (v := undef) rfl (by kernel_rfl) (by kernel_rfl) (by kernel_rfl) (fun _ _ _ h => h) (Or.inr ⟨by rfl, rfl⟩) hSq4 ?_
          simp only [Act.put, List.getElem_toArray, List.getElem_cons_zero, List.getElem_cons_succ, List.setIfInBounds_toArray, List.set_cons_zero, List.set_cons_succ]
          refine wpAnyH_take (i := 21) (v := undef) rfl (by kernel_rfl) (by kernel_rfl) (by kernel_rfl) (fun _ _ _ h => h) (Or.inr ⟨by rfl, rfl⟩) hSq4 ?_
          simp only [Act.put, List.getElem_toArray, List.getElem_cons_zero, List.getElem_cons_succ, List.setIfInBounds_toArray, List.set_cons_zero, List.set_cons_succ]
          refine wpAnyH_take (i := 22) (v := undef) rfl (by kernel_rfl) (by kernel_rfl) (by kernel_rfl) (fun _ _ _ h => h) (Or.inr ⟨by rfl, rfl⟩) hSq4 ?_
          simp only [Act.put, List.getElem_toArray, List.getElem_cons_zero, List.getElem_cons_succ, List.setIfInBounds_toArray, List.set_cons_zero, List.set_cons_succ]
          refine wpAnyH_take (i := 23) (v := undef) rfl (by kernel_rfl) (by kernel_rfl) (by kernel_rfl) (fun _ _ _ h => h) (Or.inr ⟨by rfl, rfl⟩) hSq4 ?_
          simp only [Act.put, List.getElem_toArray, List.getElem_cons_zero, List.getElem_cons_succ, List.setIfInBounds_toArray, List.set_cons_zero, List.set_cons_succ]
          refine wpAnyH_take (i := 24) (v := undef) rfl (by kernel_rfl) (by kernel_rfl) (by kernel_rfl) (fun _ _ _ h => h) (Or.inr ⟨by rfl, rfl⟩) hSq4 ?_
          simp only [Act.put, List.getElem_toArray, List.getElem_cons_zero, List.getElem_cons_succ, List.setIfInBounds_toArray, List.set_cons_zero, List.set_cons_succ]
          refine wpAnyH_take (i := 25) (v := undef) rfl (by kernel_rfl) (by kernel_rfl) (by kernel_rfl) (fun _ _ _ h => h) (Or.inr ⟨by rfl, rfl⟩) hSq4 ?_
          simp only [Act.put, List.getElem_toArray, List.getElem_cons_zero, List.getElem_cons_succ, List.setIfInBounds_toArray, List.set_cons_zero, List.set_cons_succ]
          refine wpAnyH_take (i := 26) (v := .bool false) rfl (by kernel_rfl) (by kernel_rfl) (by kernel_rfl) (fun _ _ _ h => h) (Or.inl ⟨by rfl, fun x hx => by go_simp⟩) hSq4 ?_
          simp only [Act.put, List.getElem_toArray, List.getElem_cons_zero, List.getElem_cons_succ, List.setIfInBounds_toArray, List.set_cons_zero, List.set_cons_succ]
          refine wpAnyH_take (i := 27) (v := .bool false) rfl (by kernel_rfl) (by kernel_rfl) (by kernel_rfl) (fun _ _ _ h => h) (Or.inl ⟨by rfl, fun x hx => by go_simp⟩) hSq4 ?_
          simp only [Act.put, List.getElem_toArray, List.getElem_cons_zero, List.getElem_cons_succ, List.setIfInBounds_toArray, List.set_cons_zero, List.set_cons_succ]
          refine wpAnyH_done (by kernel_rfl) ?_ _
          refine hK2 _ _ ?_
          refine wpIn_cond_false (by rfl) ?_
          refine wpIn_skip ?_
          exact ⟨KeepsFrom.of_grownBy (below_grown hSq4.2.2.2 none) (fun j e => by cases e), KpC.below hSq4.2.2.2, hSq4.2.2.1, hSq4.2.1⟩
        · have hd3 : decide (y.1.d = v.d) = true := decide_eq_true heq
          have hd4 : (y.1.d == v.d) = true := beq_iff_eq.2 heq
          clear heq
          refine wpIn_region_held_drew (S := fun x => Blk x (Bx) y.1.cells.toArray 35 ∧ Blk x (b9) v.cells.toArray 35 ∧ HdI w sp mb R4 b5 kk L5 Ds x ∧ Below W.heap.size W x) (.round l) (fun _ _ h => h) (by rfl) (by kernel_rfl) ⟨bX.drew, hb9.drew, hi9.below (below_drewN (Below.refl _ _) 1), below_drewN (Below.refl _ _) 1⟩ (fun hSq5 => ?_)
          refine wpAnyH_take (i := 0) (v := .pointer (some ⟨Bx, 64, none⟩)) rfl (by kernel_rfl) (by kernel_rfl) (by kernel_rfl) (fun _ _ _ h => h) (Or.inl ⟨by rfl, fun x hx => by go_simp⟩) hSq5 ?_
          simp only [Act.put, List.getElem_toArray, List.getElem_cons_zero, List.getElem_cons_succ, List.setIfInBounds_toArray, List.set_cons_zero, List.set_cons_succ]
          refine wpAnyH_take (i := 1) (v := .int .i64 y.1.d) rfl (by kernel_rfl) (by kernel_rfl) (by kernel_rfl) (fun _ _ _ h => h) (Or.inl ⟨by rfl, fun x hx => by have hc := vx_d (blk_rangeP hx.1); rw [Nat.zero_add] at hc; go_simp⟩) hSq5 ?_
          simp only [Act.put, List.getElem_toArray, List.getElem_cons_zero, List.getElem_cons_succ, List.setIfInBounds_toArray, List.set_cons_zero, List.set_cons_succ]
          refine wpAnyH_take (i := 2) (v := .pointer (some ⟨b9, 64, none⟩)) rfl (by kernel_rfl) (by kernel_rfl) (by kernel_rfl) (fun _ _ _ h => h) (Or.inl ⟨by rfl, fun x hx => by go_simp⟩) hSq5 ?_
          simp only [Act.put, List.getElem_toArray, List.getElem_cons_zero, List.getElem_cons_succ, List.setIfInBounds_toArray, List.set_cons_zero, List.set_cons_succ]
          refine wpAnyH_take (i := 3) (v := .int .i64 v.d) rfl (by kernel_rfl) (by kernel_rfl) (by kernel_rfl) (fun _ _ _ h => h) (Or.inl ⟨by rfl, fun x hx => by have hc := vx_d (blk_rangeP hx.2.1); rw [Nat.zero_add] at hc; go_simp⟩) hSq5 ?_
          simp only [Act.put, List.getElem_toArray, List.getElem_cons_zero, List.getElem_cons_succ, List.setIfInBounds_toArray, List.set_cons_zero, List.set_cons_succ]
          refine wpAnyH_take (i := 4) (v := .bool false) rfl (by kernel_rfl) (by kernel_rfl) (by kernel_rfl) (fun _ _ _ h => h) (Or.inl ⟨by rfl, fun x hx => by go_simp⟩) hSq5 ?_
          simp only [Act.put, List.getElem_toArray, List.getElem_cons_zero, List.getElem_cons_succ, List.setIfInBounds_toArray, List.set_cons_zero, List.set_cons_succ]
          refine wpAnyH_take (i := 5) (v := .bool false) rfl (by kernel_rfl) (by kernel_rfl) (by kernel_rfl) (fun _ _ _ h => h) (Or.inl ⟨by rfl, fun x hx => by go_simp⟩) hSq5 ?_
          simp only [Act.put, List.getElem_toArray, List.getElem_cons_zero, List.getElem_cons_succ, List.setIfInBounds_toArray, List.set_cons_zero, List.set_cons_succ]
          refine wpAnyH_take (i := 6) (v := .pointer (some ⟨Bx, 64, none⟩)) rfl (by kernel_rfl) (by kernel_rfl) (by kernel_rfl) (fun _ _ _ h => h) (Or.inl ⟨by rfl, fun x hx => by go_simp⟩) hSq5 ?_
          simp only [Act.put, List.getElem_toArray, List.getElem_cons_zero, List.getElem_cons_succ, List.setIfInBounds_toArray, List.set_cons_zero, List.set_cons_succ]
          refine wpAnyH_take (i := 7) (v := .int .i64 y.1.d) rfl (by kernel_rfl) (by kernel_rfl) (by kernel_rfl) (fun _ _ _ h => h) (Or.inl ⟨by rfl, fun x hx => by have hc := vx_d (blk_rangeP hx.1); rw [Nat.zero_add] at hc; go_simp⟩) hSq5 ?_
          simp only [Act.put, List.getElem_toArray, List.getElem_cons_zero, List.getElem_cons_succ, List.setIfInBounds_toArray, List.set_cons_zero, List.set_cons_succ]
          refine wpAnyH_take (i := 8) (v := .pointer (some ⟨sp, 0, none⟩)) rfl (by kernel_rfl) (by kernel_rfl) (by kernel_rfl) (fun _ _ _ h => h) (Or.inl ⟨by rfl, fun x hx => by have hc := hx.2.2.1.box.cell; go_simp⟩) hSq5 ?_
          simp only [Act.put, List.getElem_toArray, List.getElem_cons_zero, List.getElem_cons_succ, List.setIfInBounds_toArray, List.set_cons_zero, List.set_cons_succ]
          refine wpAnyH_ready (rs := [9]) (by kernel_rfl) (by simp) ?_
          refine AllReadyH.cons rfl (fun K hK => ?_) AllReadyH.nil
          go_simp
          go_wp2_with (go_at_call 10; refine (cF.out _ hSq5.2.2.1.sto).mono ?_; rintro e yq6 ⟨rfl, bq7⟩)
          refine hK.out _ _ ⟨hSq5.1.below bq7 hSq5.1.lt, hSq5.2.1.below bq7 hSq5.2.1.lt, hSq5.2.2.1.below bq7, hSq5.2.2.2.trans (bq7.mono (hSq5.2.2.2.size))⟩ (fun hSq8 => ?_)
          clear hK K hSq5 bq7
          refine wpAnyH_take (i := 10) (v := .bool false) rfl (by kernel_rfl) (by kernel_rfl) (by kernel_rfl) (fun _ _ _ h => h) (Or.inl ⟨by rfl, fun x hx => by go_simp⟩) hSq8 ?_
          simp only [Act.put, List.getElem_toArray, List.getElem_cons_zero, List.getElem_cons_succ, List.setIfInBounds_toArray, List.set_cons_zero, List.set_cons_succ]
          refine wpAnyH_take (i := 11) (v := .bool false) rfl (by kernel_rfl) (by kernel_rfl) (by kernel_rfl) (fun _ _ _ h => h) (Or.inl ⟨by rfl, fun x hx => by go_simp⟩) hSq8 ?_
          simp only [Act.put, List.getElem_toArray, List.getElem_cons_zero, List.getElem_cons_succ, List.setIfInBounds_toArray, List.set_cons_zero, List.set_cons_succ]
          refine wpAnyH_take (i := 12) (v := .bool false) rfl (by kernel_rfl) (by kernel_rfl) (by kernel_rfl) (fun _ _ _ h => h) (Or.inl ⟨by rfl, fun x hx => by go_simp⟩) hSq8 ?_
          simp only [Act.put, List.getElem_toArray, List.getElem_cons_zero, List.getElem_cons_succ, List.setIfInBounds_toArray, List.set_cons_zero, List.set_cons_succ]
          refine wpAnyH_take (i := 13) (v := .pointer (some ⟨Bx, 64, none⟩)) rfl (by kernel_rfl) (by kernel_rfl) (by kernel_rfl) (fun _ _ _ h => h) (Or.inl ⟨by rfl, fun x hx => by go_simp⟩) hSq8 ?_
          simp only [Act.put, List.getElem_toArray, List.getElem_cons_zero, List.getElem_cons_succ, List.setIfInBounds_toArray, List.set_cons_zero, List.set_cons_succ]
          refine wpAnyH_take (i := 14) (v := .int .i64 y.1.d) rfl (by kernel_rfl) (by kernel_rfl) (by kernel_rfl) (fun _ _ _ h => h) (Or.inl ⟨by rfl, fun x hx => by have hc := vx_d (blk_rangeP hx.1); rw [Nat.zero_add] at hc; go_simp⟩) hSq8 ?_
          simp only [Act.put, List.getElem_toArray, List.getElem_cons_zero, List.getElem_cons_succ, List.setIfInBounds_toArray, List.set_cons_zero, List.set_cons_succ]
          refine wpAnyH_take (i := 15) (v := .pointer (some ⟨b9, 64, none⟩)) rfl (by kernel_rfl) (by kernel_rfl) (by kernel_rfl) (fun _ _ _ h => h) (Or.inl ⟨by rfl, fun x hx => by go_simp⟩) hSq8 ?_
          simp only [Act.put, List.getElem_toArray, List.getElem_cons_zero, List.getElem_cons_succ, List.setIfInBounds_toArray, List.set_cons_zero, List.set_cons_succ]
          refine wpAnyH_take (i := 16) (v := .int .i64 v.d) rfl (by kernel_rfl) (by kernel_rfl) (by kernel_rfl) (fun _ _ _ h => h) (Or.inl ⟨by rfl, fun x hx => by have hc := vx_d (blk_rangeP hx.2.1); rw [Nat.zero_add] at hc; go_simp⟩) hSq8 ?_
          simp only [Act.put, List.getElem_toArray, List.getElem_cons_zero, List.getElem_cons_succ, List.setIfInBounds_toArray, List.set_cons_zero, List.set_cons_succ]
          refine wpAnyH_take (i := 17) (v := .bool true) rfl (by kernel_rfl) (by kernel_rfl) (by kernel_rfl) (fun _ _ _ h => h) (Or.inl ⟨by rfl, fun x hx => by go_simp⟩) hSq8 ?_
          simp only [Act.put, List.getElem_toArray, List.getElem_cons_zero, List.getElem_cons_succ, List.setIfInBounds_toArray, List.set_cons_zero, List.set_cons_succ]
          refine wpAnyH_take (i := 18) (v := .bool true) rfl (by kernel_rfl) (by kernel_rfl) (by kernel_rfl) (fun _ _ _ h => h) (Or.inl ⟨by rfl, fun x hx => by go_simp⟩) hSq8 ?_
          simp only [Act.put, List.getElem_toArray, List.getElem_cons_zero, List.getElem_cons_succ, List.setIfInBounds_toArray, List.set_cons_zero, List.set_cons_succ]
          refine wpAnyH_take (i := 19) (v := .pointer (some ⟨Bx, 0, none⟩)) rfl (by kernel_rfl) (by kernel_rfl) (by kernel_rfl) (fun _ _ _ h => h) (Or.inl ⟨by rfl, fun x hx => by go_simp⟩) hSq8 ?_
          simp only [Act.put, List.getElem_toArray, List.getElem_cons_zero, List.getElem_cons_succ, List.setIfInBounds_toArray, List.set_cons_zero, List.set_cons_succ]
          refine wpAnyH_take (i := 20) (v := .slice (some ⟨Bx, 0, none⟩) 32 32) rfl (by kernel_rfl) (by kernel_rfl) (by kernel_rfl) (fun _ _ _ h => h) (Or.inl ⟨by rfl, fun x hx => by go_simp⟩) hSq8 ?_
          simp only [Act.put, List.getElem_toArray, List.getElem_cons_zero, List.getElem_cons_succ, List.setIfInBounds_toArray, List.set_cons_zero, List.set_cons_succ]
          refine wpAnyH_take (i := 21) rfl (by kernel_rfl) (by kernel_rfl) (by kernel_rfl) (fun _ _ _ h => h) (yieldsIf_convBlk (by rfl) 42 9 5 (.tmp 88) rfl Try.underlying42 Try.underlying5 Try.underlying9 Bx 0 32 32 y.1.id y.1.hi (by rfl) (fun x hx => vx_id (blk_rangeP hx.1))) hSq8 ?_
          simp only [Act.put, List.getElem_toArray, List.getElem_cons_zero, List.getElem_cons_succ, List.setIfInBounds_toArray, List.set_cons_zero, List.set_cons_succ]
          refine wpAnyH_take (i := 22) (v := .pointer (some ⟨b9, 0, none⟩)) rfl (by kernel_rfl) (by kernel_rfl) (by kernel_rfl) (fun _ _ _ h => h) (Or.inl ⟨by rfl, fun x hx => by go_simp⟩) hSq8 ?_
          simp only [Act.put, List.getElem_toArray, List.getElem_cons_zero, List.getElem_cons_succ, List.setIfInBounds_toArray, List.set_cons_zero, List.set_cons_succ]
          refine wpAnyH_take (i := 23) (v := .slice (some ⟨b9, 0, none⟩) 32 32) rfl (by kernel_rfl) (by kernel_rfl) (by kernel_rfl) (fun _ _ _ h => h) (Or.inl ⟨by rfl, fun x hx => by go_simp⟩) hSq8 ?_
          simp only [Act.put, List.getElem_toArray, List.getElem_cons_zero, List.getElem_cons_succ, List.setIfInBounds_toArray, List.set_cons_zero, List.set_cons_succ]
          refine wpAnyH_take (i := 24) rfl (by kernel_rfl) (by kernel_rfl) (by kernel_rfl) (fun _ _ _ h => h) (yieldsIf_convBlk (by rfl) 42 9 5 (.tmp 91) rfl Try.underlying42 Try.underlying5 Try.underlying9 b9 0 32 32 v.id v.hi (by rfl) (fun x hx => vx_id (blk_rangeP hx.2.1))) hSq8 ?_
          simp only [Act.put, List.getElem_toArray, List.getElem_cons_zero, List.getElem_cons_succ, List.setIfInBounds_toArray, List.set_cons_zero, List.set_cons_succ]
          refine wpAnyH_take (i := 25) (v := .bool false) rfl (by kernel_rfl) (by kernel_rfl) (by kernel_rfl) (fun _ _ _ h => h) (Or.inl ⟨by rfl, fun x hx => by go_simp⟩) hSq8 ?_
          simp only [Act.put, List.getElem_toArray, List.getElem_cons_zero, List.getElem_cons_succ, List.setIfInBounds_toArray, List.set_cons_zero, List.set_cons_succ]
          refine wpAnyH_take (i := 26) (v := .bool false) rfl (by kernel_rfl) (by kernel_rfl) (by kernel_rfl) (fun _ _ _ h => h) (Or.inl ⟨by rfl, fun x hx => by go_simp⟩) hSq8 ?_
          simp only [Act.put, List.getElem_toArray, List.getElem_cons_zero, List.getElem_cons_succ, List.setIfInBounds_toArray, List.set_cons_zero, List.set_cons_succ]
          refine wpAnyH_take (i := 27) (v := .bool false) rfl (by kernel_rfl) (by kernel_rfl) (by kernel_rfl) (fun _ _ _ h => h) (Or.inl ⟨by rfl, fun x hx => by go_simp⟩) hSq8 ?_
          simp only [Act.put, List.getElem_toArray, List.getElem_cons_zero, List.getElem_cons_succ, List.setIfInBounds_toArray, List.set_cons_zero, List.set_cons_succ]
          refine wpAnyH_done (by kernel_rfl) ?_ _
          refine hK2 _ _ ?_
          refine wpIn_cond_false (by rfl) ?_
          refine wpIn_skip ?_
          exact ⟨KeepsFrom.of_grownBy (below_grown hSq8.2.2.2 none) (fun j e => by cases e), KpC.below hSq8.2.2.2, hSq8.2.2.1, hSq8.2.1⟩
      case done =>
        rintro D xs W hD _ ⟨hi9, hb9⟩ hK9
        have hDn : D ∉ Ds := fun e => by have := hB8.2.2.2.2.2 D e; omega
        have HI9 : Hid (HdI w sp mb R4 b5 kk L5 (D :: Ds) W) := ⟨hi9.sto, hi9.res, hi9.box, hi9.bel, hi9.mks.add hK9 hDn (Nat.le_trans hB8.2.2.2.2.1 hD)⟩
        clear hi9 hb9 hK9 hDn hB8 hbs
        go_wp2_with fail
        refine hK _ _ ⟨i + 1, L5, v.d, D :: Ds, _, _, _, _, _, _, _, _, _, _, _, _, _, _, _, _, _, _, _, _, _, _, _, _, _, _, _, _, _, _, _, _, _, _, _, _, _, _, _, _, _, _, _, by omega, by omega, rfl, ?_, rfl, HI9, HDK⟩ ?_
        · go_num
        · simp [intOf]; omega
  · clear hK
    have hc4 := HI.out.res.cell
    have hf4 := HI.out.res.frozen
    go_wp2_with fail
    obtain ⟨hmk, hfin⟩ := HI.out.done (Nat.le_of_eq HR4.out.symm)
    exact leaves_marks Ds _ hmk HI.out.mks.nd (fun w' hw' => ⟨.bool true, results_cell1 rfl (by rfl) (hfin w' hw').1 Try.underlying4 rfl, rfl, (hfin w' hw').2⟩)
theorem walkDagHead {w0 : World} (a0 : Int) (wf0 : (Lit.int .u8 a0).wf = true) (v1 : Value) (rs : List Rv) (h1 : RvAt w0 v1 rs) (m1 : rs.length ≤ maxLen) (w : World) (hw : w0 = w := by rfl) :
    Calls Try.prog 3 #[.int .u8 a0, v1] w fun e w' => e = .returned (.bool true) ∧ Below w.heap.size w w' := by
  by_cases h60 : rs.length ≤ 60
  · exact dagHead_few a0 wf0 v1 rs h1 m1 h60 w hw
  · exact dagHead_big a0 wf0 v1 rs h1 m1 (by omega) w hw
end Go.Proofs.Ytodnmhflafpefaa
