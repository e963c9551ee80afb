/-
  What the dag laws read; vertices built of fields; a function that leaves with marks.
-/
import Derived.Test.YtodnmhflafpefaaDagIns
import Derived.Test.YtodnmhflafpefaaBookOpen
import Derived.Test.YtodnmhflafpefaaBookMark
import Derived.WalkLawsBesides
import Derived.Laws.ResultCell
import Derived.Deep.LoopGhost
import Derived.RangeFuncNested
import Derived.RangeFuncBound
import Derived.RangeFuncCalls
import Derived.RangeFuncLeaves
import Derived.RangeFuncBox
import Derived.Shelf.Abstract
import Derived.Shelf.RegionOpen
import Derived.WalkKit
import Derived.OwnWalkIn
import Derived.TacticsInMore
import Derived.LoopNIn
import Derived.LoopIn
import Derived.Deep.RegionHeld
import Derived.Deep.Cut
import Derived.Outline
import Derived.Handy
set_option linter.unusedSimpArgs false
set_option linter.unusedVariables false
namespace Go.Proofs.Ytodnmhflafpefaa
open Go.RowKit

theorem fill_midX {place : Nat → Option (Nat × Nat)} {rest : List (Nat × Value)} {i : Nat} {l A B C v : List Value} {x : Value} (hx : x.cells = v.toArray) (hl : l = A ++ (B ++ C)) (hp : place i = some (A.length, v.length)) (hB : B.length = v.length) :
    Instr.fill place l.toArray ((i, x) :: rest) = Instr.fill place (A ++ (v ++ C)).toArray rest := by
  subst hl
  have hF : Instr.fill place (A ++ (B ++ C)).toArray ((i, x) :: rest) = Instr.fill place (Array.foldl (fun cs (x : Value × Nat) => cs.setIfInBounds (A.length + x.2) x.1) (A ++ (B ++ C)).toArray (v.toArray.zipIdx)) rest := by
    conv => lhs; rw [Instr.fill]
    rw [hp]
    dsimp only
    rw [hx]
    split
    · rename_i h
      simp at h
      omega
    · rfl
  rw [hF]
  congr 1
  obtain ⟨h1, h2⟩ := Go.Great.foldl_set A.length v 0 (A ++ (B ++ C)).toArray
  have e : (Array.foldl (fun cs (x : Value × Nat) => cs.setIfInBounds (A.length + x.2) x.1) (A ++ (B ++ C)).toArray (v.toArray.zipIdx)) = (v.zipIdx 0).foldl (fun cs (x : Value × Nat) => cs.setIfInBounds (A.length + x.2) x.1) (A ++ (B ++ C)).toArray := by
    rw [← Array.foldl_toList]
    simp
  refine e.trans ?_
  apply Array.ext_getElem?
  intro k
  rw [h2 k]
  simp only [List.getElem?_toArray, List.size_toArray, Nat.add_zero]
  by_cases hk1 : k < A.length
  · rw [if_neg (by omega), List.getElem?_append_left hk1, List.getElem?_append_left hk1]
  · by_cases hk2 : k < A.length + v.length
    · rw [if_pos ⟨by omega, by omega, by simp; omega⟩, List.getElem?_append_right (by omega), List.getElem?_append_left (by omega)]
    · rw [if_neg (by omega), List.getElem?_append_right (l₂ := B ++ C) (by omega), List.getElem?_append_right (l₂ := v ++ C) (by omega), List.getElem?_append_right (l₁ := B) (by omega), List.getElem?_append_right (l₁ := v) (by omega), hB]

theorem Try.zeroVxL : (Try.prog.info? 35).bind (·.zero) = some (.agg ((List.replicate 32 (0 : UInt8)).map bv ++ ((List.replicate 32 (0 : UInt8)).map bv ++ [Value.int .i64 0, Value.int .i64 0])).toArray) := by kernel_rfl
theorem vx_built3 (r : Rv) : Try.prog.built 35 [(0, .agg (r.id.map bv).toArray), (1, .agg (r.par.map bv).toArray), (2, .int .i64 r.d)] = some (Rv.mk r.id r.par r.d 0 r.hi r.hp).cells.toArray := by
  rw [built_struct Try.zeroVxL Try.underlying35 (places := [(0, 32), (32, 32), (64, 1), (65, 1)]) (by kernel_rfl), Value.cells]
  refine (fill_midX (A := []) (B := (List.replicate 32 (0 : UInt8)).map bv) (C := (List.replicate 32 (0 : UInt8)).map bv ++ [Value.int .i64 0, Value.int .i64 0]) (v := r.id.map bv) rfl (by rfl) (by simp [r.hi]) (by simp [r.hi])).trans ?_
  refine (fill_midX (A := r.id.map bv) (B := (List.replicate 32 (0 : UInt8)).map bv) (C := [.int .i64 0, .int .i64 0]) (v := r.par.map bv) rfl (by simp) (by rw [List.length_map, List.length_map, r.hi, r.hp]; rfl) (by simp [r.hp])).trans ?_
  refine (fill_midX (A := r.id.map bv ++ r.par.map bv) (B := [.int .i64 0]) (C := [.int .i64 0]) (v := [.int .i64 r.d]) rfl (by simp) (by rw [List.length_append, List.length_map, List.length_map, r.hi, r.hp]; rfl) rfl).trans ?_
  simp [Instr.fill, Rv.cells]
theorem vx_built4 (r : Rv) : Try.prog.built 35 [(0, .agg (r.id.map bv).toArray), (1, .agg (r.par.map bv).toArray), (2, .int .i64 r.d), (3, .int .i64 r.x)] = some r.cells.toArray := by
  rw [built_struct Try.zeroVxL Try.underlying35 (places := [(0, 32), (32, 32), (64, 1), (65, 1)]) (by kernel_rfl), Value.cells]
  refine (fill_midX (A := []) (B := (List.replicate 32 (0 : UInt8)).map bv) (C := (List.replicate 32 (0 : UInt8)).map bv ++ [Value.int .i64 0, Value.int .i64 0]) (v := r.id.map bv) rfl (by rfl) (by simp [r.hi]) (by simp [r.hi])).trans ?_
  refine (fill_midX (A := r.id.map bv) (B := (List.replicate 32 (0 : UInt8)).map bv) (C := [.int .i64 0, .int .i64 0]) (v := r.par.map bv) rfl (by simp) (by rw [List.length_map, List.length_map, r.hi, r.hp]; rfl) (by simp [r.hp])).trans ?_
  refine (fill_midX (A := r.id.map bv ++ r.par.map bv) (B := [.int .i64 0]) (C := [.int .i64 0]) (v := [.int .i64 r.d]) rfl (by simp) (by rw [List.length_append, List.length_map, List.length_map, r.hi, r.hp]; rfl) rfl).trans ?_
  refine (fill_midX (A := r.id.map bv ++ r.par.map bv ++ [.int .i64 r.d]) (B := [.int .i64 0]) (C := []) (v := [.int .i64 r.x]) rfl (by simp) (by rw [List.length_append, List.length_append, List.length_map, List.length_map, r.hi, r.hp]; rfl) rfl).trans ?_
  simp [Instr.fill, Rv.cells]
theorem rv_id {w : World} {g o : Nat} {c : Rv} (h : w.rangeAt g o c.cells) : w.rangeAt g o (c.id.map bv) := fun j u hj => by
  have hlt : j < c.id.length := by have := (List.getElem?_eq_some_iff.1 hj).1; simpa using this
  exact h j u (by rw [Rv.cells, List.getElem?_append_left (by simpa using hlt)]; exact hj)
theorem rv_par {w : World} {g o : Nat} {c : Rv} (h : w.rangeAt g o c.cells) : w.rangeAt g (o + 32) (c.par.map bv) := fun j u hj => by
  have hlt : j < c.par.length := by have := (List.getElem?_eq_some_iff.1 hj).1; simpa using this
  have := h (32 + j) u (by
    rw [Rv.cells, List.getElem?_append_right (by simp [c.hi]), List.length_map, c.hi, Nat.add_sub_cancel_left, List.getElem?_append_left (by simpa using hlt)]
    exact hj)
  rwa [← Nat.add_assoc] at this
theorem rv_x {w : World} {g o : Nat} {c : Rv} (h : w.rangeAt g o c.cells) : w.cell? ⟨g, o + 65, none⟩ = some (.int .i64 c.x) := h 65 _ (by
  rw [Rv.cells, List.getElem?_append_right (by simp [c.hi]), List.length_map, c.hi, List.getElem?_append_right (by simp [c.hp]), List.length_map, c.hp]; rfl)
theorem Rv.one (v : Rv) : ∀ u ∈ v.cells, u.oneCell' = true := by
  intro u hu
  rcases List.mem_append.1 hu with h | h
  · exact bs_one v.id u h
  · rcases List.mem_append.1 h with h | h
    · exact bs_one v.par u h
    · simp at h
      rcases h with rfl | rfl <;> rfl
abbrev RvAt := RAt Rv.cells
theorem Try.cellsRv : Try.prog.cellsOf 34 = 66 := by kernel_rfl
theorem Try.cellsV_h : Try.prog.cellsOf 32 = 32 := by kernel_rfl
theorem Try.cellsV_i : Try.prog.cellsOf 3 = 1 := by kernel_rfl
section
open Go.ChangeShapes Go.WideShapes
variable {H : Type} {enc : TypeId × Value → H} {w : World} {base : Nat} {spare : Nat → Bool} {held : Bool} {fuel : Nat} {x : DataW H × List MemPlace}
theorem rv_join (l : List Value) (h : l.length = 66) : l = (l.drop 0).take 32 ++ ((l.drop 32).take 32 ++ ((l.drop 64).take 1 ++ (l.drop 65).take 1)) := by
  have e : ∀ (a n m : Nat), (l.drop a).take n ++ (l.drop (a + n)).take m = (l.drop a).take (n + m) := fun a n m => by rw [← List.drop_drop, ← List.take_add]
  rw [e 64 1 1, e 32 32 2, e 0 32 34, List.drop_zero, List.take_of_length_le (by omega)]
set_option maxRecDepth 100000 in
theorem trod_rv {l : List Value} (h : DataW.trod enc Try.prog w base spare held fuel 34 l = some x) : ∃ c : Rv, True ∧ l = c.cells := by
  obtain ⟨xs, m, _, _, hl, hx, hf⟩ := DataW.trod_struct Try.underlying34 h
  rw [Try.cellsRv] at hl
  match xs, hx with
  | [y0, y1, y2, y3], _ =>
    have f0 : DataW.trod enc Try.prog w base spare held m 32 ((l.drop 0).take (Try.prog.cellsOf 32)) = some y0 := hf 0 _ rfl
    have f1 : DataW.trod enc Try.prog w base spare held m 32 ((l.drop 32).take (Try.prog.cellsOf 32)) = some y1 := hf 1 _ rfl
    have f2 : DataW.trod enc Try.prog w base spare held m 3 ((l.drop 64).take (Try.prog.cellsOf 3)) = some y2 := hf 2 _ rfl
    have f3 : DataW.trod enc Try.prog w base spare held m 3 ((l.drop 65).take (Try.prog.cellsOf 3)) = some y3 := hf 3 _ rfl
    rw [Try.cellsV_h] at f0 f1
    rw [Try.cellsV_i] at f2 f3
    obtain ⟨a, ha, e0⟩ := trod_hash f0
    obtain ⟨b, hb, e1⟩ := trod_hash f1
    obtain ⟨n, e2, _, _⟩ := trod_i64 f2
    obtain ⟨n2, e3, _, _⟩ := trod_i64 f3
    refine ⟨⟨a, b, n, n2, ha, hb⟩, trivial, ?_⟩
    rw [rv_join l hl, e0, e1, e2, e3]
    rfl
theorem elems_ratX {α : Type} {cells : α → List Value} {size : Nat} (hs : ∀ x, (cells x).length = size) (h0 : 0 < size) {w : World} {ao : Option Addr} {n c : Nat} {l : List α} (h : Elems cells size w ao n l) : RAt cells w (.slice ao n c) l := by
  rcases h.2 with h1 | ⟨b, off, rfl, hlt, hc⟩
  · subst h1
    exact .inl ⟨List.eq_nil_of_length_eq_zero h.1, _, _, rfl⟩
  · refine .inr ⟨b, off, c, by rw [h.1], hlt, fun j u hj => ?_⟩
    have hjl : j < l.length * size := by have := (List.getElem?_eq_some_iff.1 hj).1; rwa [flat_len l (fun x _ => hs x)] at this
    have hi : j / size < l.length := (Nat.div_lt_iff_lt_mul h0).2 hjl
    have hm : j % size < size := Nat.mod_lt _ h0
    have e1 := flat_at hs l (j / size) l[j / size] (j % size) (List.getElem?_eq_getElem hi) hm
    have e2 : j / size * size + j % size = j := by rw [Nat.mul_comm]; exact Nat.div_add_mod j size
    rw [e2, hj] at e1
    have := hc (j / size) hi (j % size) u e1.symm
    rwa [Nat.add_assoc, e2] at this
set_option maxRecDepth 100000 in
theorem open_rvs {v : Value} {d : DataW H} {p : List MemPlace} {r : Reach} {b0 : Nat} (hv : Value.okWide Try.prog w r b0 22 v) (h : DataW.Trod enc Try.prog w base spare held 22 v d p) :
    ∃ xs, RvAt w v xs ∧ xs.length ≤ maxLen := by
  obtain ⟨ao, len, cap, xs, rfl, hm, he, _⟩ := open_elems (cells := Rv.cells) (size := 66) (ok := fun _ => True) Try.underlying22 Try.cellsRv (fun c => ⟨by rw [Rv.cells_len]; omega, by rw [Rv.cells_len]; omega⟩) (fun l m y hl => trod_rv hl) hv h
  exact ⟨xs, elems_ratX Rv.cells_len (by omega) he, by rw [he.1]; exact hm⟩
end
theorem results_cell1 {P : Program} {fn : Func} {p : Tmp} {ty : TypeId} (h : fn.results = #[.cell p ty]) {tmps : Array Value} {w : World} {g : Nat} {v : Value} {d : TypeDesc} (hp : tmps.getD p undef = .pointer (some ⟨g, 0, none⟩)) (hc : w.cell? ⟨g, 0, none⟩ = some v) (hu : P.underlying ty = some d) (hd : d.isRow = false) :
    (results fn tmps).run P w = .ok v w := by
  have h1 := run_load1 (P := P) hc hu hd
  rw [Array.getD_eq_getD_getElem?] at hp
  simp [results, h, hp, asAddr, h1, Result.andThen, Sem.run_bind, Sem.run_pure]
/-- Blocks for deferred calls: none has come. -/
structure Marks (B : Nat) (Ds : List Nat) (w : World) : Prop where
  at_ : ∀ D ∈ Ds, w.heap[D]? = some (.deferred (some []))
  nd : Ds.Nodup
  lo : ∀ D ∈ Ds, B ≤ D
def markOf (D : Nat) : Deferred := { target := .collected D, args := #[] }
/-- All is as it was but the marks. -/
structure Marked (Ds : List Nat) (w w' : World) : Prop where
  os : w'.os = w.os
  tape : w'.tape = w.tape
  output : w'.output = w.output
  size : w'.heap.size = w.heap.size
  block : ∀ k, k ∉ Ds → w'.heap[k]? = w.heap[k]?
theorem leaves_marks {F : Fence} {n : Nat} {P : Program} {fn : Func} {tmps : Array Value} {R : Ending → World → Prop} : ∀ (Ds : List Nat) (w : World), (∀ D ∈ Ds, w.heap[D]? = some (.deferred (some []))) → Ds.Nodup → (∀ w', Marked Ds w w' → ∃ v, (results fn tmps).run P w' = .ok v w' ∧ R (.returned v) w') → LeavesInM F n P fn tmps R (Ds.map markOf) .returning w
  | [], w, _, _, h => h w ⟨rfl, rfl, rfl, rfl, fun _ _ => rfl⟩
  | D :: Ds, w, h1, h2, h => by
    rw [List.nodup_cons] at h2
    have hD := h1 D List.mem_cons_self
    refine ⟨by simp, .inl ⟨D, _, rfl, run_takeDeferred hD, leaves_marks Ds _ (fun E hE => ?_) h2.2 fun w' hw' => h w' ⟨hw'.os, hw'.tape, hw'.output, ?_, fun k hk => ?_⟩⟩⟩
    · rw [World.putObj_heap_other (fun e => h2.1 (by rw [← e]; exact hE))]
      exact h1 E (List.mem_cons_of_mem _ hE)
    · rw [hw'.size]; simp
    · rw [hw'.block k (fun e => hk (List.mem_cons_of_mem _ e)), World.putObj_heap_other (fun e => hk (by rw [e]; exact List.mem_cons_self))]
theorem Marks.grown {B : Nat} {Ds : List Nat} {w w' : World} {row : Option Nat} (h : Marks B Ds w) (g : w.grownBy w' row) (hr : ∀ r, row = some r → w.heap[r]? ≠ some (.deferred (some []))) : Marks B Ds w' :=
  ⟨fun D hD => (g.block D (Array.getElem?_eq_some_iff.1 (h.at_ D hD)).1 (fun e => hr D e.symm (h.at_ D hD))).trans (h.at_ D hD), h.nd, h.lo⟩
theorem Marks.below {B : Nat} {Ds : List Nat} {w w' : World} (h : Marks B Ds w) (b : Below w.heap.size w w') : Marks B Ds w' := h.grown (below_grown b none) (fun r e => by cases e)
theorem Marks.add {B : Nat} {Ds : List Nat} {w : World} {D : Nat} (h : Marks B Ds w) (hD : w.heap[D]? = some (.deferred (some []))) (hn : D ∉ Ds) (hB : B ≤ D) : Marks B (D :: Ds) w :=
  ⟨fun E hE => by
    rcases List.mem_cons.1 hE with rfl | hE
    · exact hD
    · exact h.at_ E hE, List.nodup_cons.2 ⟨hn, h.nd⟩, fun E hE => by
    rcases List.mem_cons.1 hE with rfl | hE
    · exact hB
    · exact h.lo E hE⟩
/-- A loop whose relation is of the whole frame. -/
theorem wp_loop_k {P : Program} {Q : Exit → Act → World → Prop} {a : Act} {w : World} {c : Code} (I : Act → World → Prop) (μ : Act → World → Nat) (h₀ : I a w)
    (round : ∀ a w, I a w → ∀ K : Act → World → Prop, (∀ a' w', I a' w' → μ a' w' < μ a w → K a' w') → c.wp P (Exit.then K Q) a w) : (Code.loop c).wp P Q a w :=
  wp_loop I μ h₀ fun a w h => round a w h _ fun _ _ h1 h2 => ⟨h1, h2⟩
theorem yieldsIf_convBlk {P : Program} {ops : Array Oper} {S : World → Prop} {o : Oper} {a : Act} (hw : Region.wanted o (yielded ops a.tmps) = true) (src dst e : TypeId) (x : Operand) (ho : o.op = .convert src dst x)
    (hs : P.underlying src = some (.slice e)) (he : P.underlying e = some (.int .u8)) (hd : P.underlying dst = some .string)
    (g off n c : Nat) (l : List UInt8) (hn : l.length = n) (hx : a.eval x = .slice (some ⟨g, off, none⟩) n c) (hS : ∀ w, S w → w.rangeAt g off (l.map bv)) : YieldsIf P ops S o (.string (str l)) a :=
  .inl ⟨hw, fun w hw' => by
    subst hn
    have hr := run_convert_bytes_back (P := P) w src dst e ⟨g, off, none⟩ c l hs he hd (fun j hj => by
      rw [Addr.add_lit]
      exact hS w hw' j _ (by simp [bv, hj]))
    unfold execOp
    simp [ho, hx, hr, Result.andThen]
    rfl⟩
end Go.Proofs.Ytodnmhflafpefaa
