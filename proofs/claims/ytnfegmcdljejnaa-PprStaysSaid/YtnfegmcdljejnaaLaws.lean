/-
  Laws for the walk over blocks known whole: copy from a string, a whole array loaded, stored, handed back. No program here.
-/
import Derived.Test.YtnfegmcdljejnaaStr
import Derived.Lib.BufferWrite
import Derived.Lib.SlBuf
set_option linter.unusedSimpArgs false
set_option linter.unusedVariables false
namespace Go.Proofs.Ytnfegmcdljejnaa
open Go.RowKit

theorem Blk.setRow {w : World} {g : Nat} {cur : Array Value} {t : TypeId} (h : Blk w g cur t) (cs : Array Value) : Blk (w.setRow g cs) g cs t := setRow_heap w g cur cs t (0, 0) h
theorem grown_row (w : World) (g : Nat) (cs : Array Value) : w.grownBy (w.setRow g cs) (some g) :=
  ⟨rfl, rfl, rfl, by simp, fun k _ hk => setRow_other w g k cs (fun e => hk (by rw [e]))⟩
/-- What is written lies in a new block. -/
theorem grown_new {w w1 w2 : World} {row : Option Nat} {g : Nat} (h : w.grownBy w1 row) (h2 : w1.grownBy w2 (some g)) (hg : w.heap.size ≤ g) : w.grownBy w2 row :=
  ⟨h2.os.trans h.os, h2.tape.trans h.tape, h2.output.trans h.output, Nat.le_trans h.size h2.size, fun k hk hr => by
    rw [h2.block k (Nat.lt_of_lt_of_le hk h.size) (fun e => by cases e; omega), h.block k hk hr]⟩
theorem below_new {B : Nat} {w w1 w2 : World} {g : Nat} (h : Below B w w1) (h2 : w1.grownBy w2 (some g)) (hg : B ≤ g) (hs : B ≤ w1.heap.size) : Below B w w2 :=
  h.grown h2 hs (fun k e => by cases e; exact hg)

theorem wpList_copyStr {P : Program} {w : World} {ops : Array Oper} {rest : List Oper} {o : Oper} {a : Act} {Q : Exit → Act → World → Prop} (hgd : o.guard = none) (d s : Operand) (dT sT : TypeId)
    (ho : o.op = .call { callee := .builtin .copy, args := #[d, s], argTypes := #[dT, sT] }) (elem : TypeId) (hu : P.underlying dT = some (.slice elem)) (hsz : (P.info? elem).map (·.size) = some 1)
    (g off dLen dCap : Nat) (l : List UInt8) (hd : a.eval d = .slice (some ⟨g, off, none⟩) dLen dCap) (hs : a.eval s = .string (str l)) (cur : Array Value) (t : TypeId) (hg : Blk w g cur t) (hle : l.length ≤ dLen) (hfit : off + l.length ≤ cur.size) (new : Array Value) (hnew : cur.toList.take off ++ l.map bv ++ cur.toList.drop (off + l.length) = new.toList)
    (h : ∀ w', Blk w' g new t → w.grownBy w' (some g) → wpList P ops Q rest (a.put o.dst (.int .i64 l.length)) w') : wpList P ops Q (o :: rest) a w := by
  have hr := Lib.run_copy_row_string (P := P) w dT sT o.type elem g off dLen dCap (str l) cur t hu hsz hg (by rw [str_size]; exact hle) (by rw [str_size]; exact hfit)
  rw [str_size] at hr
  have hn : (cur.toList.take off ++ l.map bv ++ cur.toList.drop (off + l.length)).toArray = new := by rw [hnew]
  exact Lib.wpList_copy_run w hgd d s dT sT ho _ _ hd hs hr (h _ (by rw [← hn]; exact hg.setRow _) (grown_row _ _ _))

theorem wpList_copyStrNone {P : Program} {w : World} {ops : Array Oper} {rest : List Oper} {o : Oper} {a : Act} {Q : Exit → Act → World → Prop} (hgd : o.guard = none) (d s : Operand) (dT sT : TypeId)
    (ho : o.op = .call { callee := .builtin .copy, args := #[d, s], argTypes := #[dT, sT] }) (elem : TypeId) (hu : P.underlying dT = some (.slice elem)) (hsz : ((P.info? elem).map (·.size)).isSome = true)
    (dp : Option Addr) (dLen dCap : Nat) (hd : a.eval d = .slice dp dLen dCap) (hs : a.eval s = .string (str []))
    (h : wpList P ops Q rest (a.put o.dst (.int .i64 0)) w) : wpList P ops Q (o :: rest) a w := by
  have hr := Lib.run_copy_empty_string (P := P) w dT sT o.type elem dp dLen dCap (str []) hu hsz (by rw [str_size]; rfl)
  exact Lib.wpList_copy_run w hgd d s dT sT ho _ _ hd hs hr h

theorem wpList_loadBlk {P : Program} {ops : Array Oper} {rest : List Oper} {o : Oper} {a : Act} {w : World} {Q : Exit → Act → World → Prop} (hgd : o.guard = none) (ty : TypeId) (x : Operand) (ho : o.op = .load ty x)
    (g : Nat) (hx : a.eval x = .pointer (some ⟨g, 0, none⟩)) (t : TypeId) (cs : Array Value) (d : TypeDesc) (hg : Blk w g cs t)
    (hu : P.underlying ty = some d) (hd : (match d with | .struct _ | .array _ _ => true | _ => false) = true) (hi : (P.info? ty).map (·.size) = some cs.size)
    (h : wpList P ops Q rest (a.put o.dst (.agg cs)) w) : wpList P ops Q (o :: rest) a w :=
  wpList_load_row hgd ty x ho g hx t cs (0, 0) d hg hu hd hi h

theorem wpList_storeBlk {P : Program} {ops : Array Oper} {rest : List Oper} {o : Oper} {a : Act} {w : World} {Q : Exit → Act → World → Prop} (hgd : o.guard = none) (ty : TypeId) (x y : Operand) (ho : o.op = .store ty x y)
    (g : Nat) (cells : Array Value) (hx : a.eval x = .pointer (some ⟨g, 0, none⟩)) (hy : a.eval y = .agg cells)
    (t : TypeId) (old : Array Value) (hg : Blk w g old t) (hi : (P.info? ty).map (·.size) = some cells.size)
    (hold : old.size = cells.size) (h1 : cells.all (·.oneCell') = true)
    (h : ∀ w', Blk w' g cells t → w.grownBy w' (some g) → wpList P ops Q rest (a.put o.dst undef) w') : wpList P ops Q (o :: rest) a w :=
  wpList_store_row hgd ty x y ho g cells hx hy t old hg hi hold h1 (h _ (hg.setRow _) (grown_row _ _ _))

theorem ret_blk {P : Program} {fn : Func} {R : Ending → World → Prop} {a : Act} {w : World} {p : Tmp} {ty : TypeId} (hf : fn.results = #[.cell p ty]) (g : Nat) (t : TypeId) (cs : Array Value) (d : TypeDesc)
    (hp : a.tmps.getD p undef = .pointer (some ⟨g, 0, none⟩)) (hg : Blk w g cs t)
    (hu : P.underlying ty = some d) (hd : (match d with | .struct _ | .array _ _ => true | _ => false) = true) (hi : (P.info? ty).map (·.size) = some cs.size)
    (hdf : a.defers = []) (hR : R (.returned (.agg cs)) w) : bodyPost P fn R .ret a w :=
  bodyPost_ret (results_cell_row hf a.tmps w g t cs (0, 0) d hp hg hu hd hi) hdf hR

/-- 'string(b)', b lying in a block known whole. -/
theorem wpList_convBlk {P : Program} {ops : Array Oper} {rest : List Oper} {o : Oper} {a : Act} {w : World} {Q : Exit → Act → World → Prop} (hgd : o.guard = none) (src dst e : TypeId) (x : Operand) (ho : o.op = .convert src dst x)
    (hs : P.underlying src = some (.slice e)) (he : P.underlying e = some (.int .u8)) (hd : P.underlying dst = some .string)
    (g n c : Nat) (hx : a.eval x = .slice (some ⟨g, 0, none⟩) n c) (cs : Array Value) (t : TypeId) (hg : Blk w g cs t) (l : List UInt8) (hn : l.length = n) (hl : cs.toList.take n = l.map bv)
    (h : wpList P ops Q rest (a.put o.dst (.string (str l))) w) : wpList P ops Q (o :: rest) a w := by
  refine wpList_plain hgd fun K hK => ?_
  subst hn
  have hr := run_convert_bytes_back (P := P) w src dst e ⟨g, 0, none⟩ c l hs he hd (fun j hj => by
    rw [Addr.add_lit, Nat.zero_add]
    refine hg.cell j _ ?_
    have h2 : (cs.toList.take l.length)[j]? = (l.map bv)[j]? := by rw [hl]
    rw [List.getElem?_take_of_lt hj] at h2
    simpa [bv, hj] using h2)
  unfold Oper.wp
  simp [execOp, ho, hx, hr, Result.andThen]
  exact hK _ _ h

theorem bv_all (l : List UInt8) : (l.map bv).toArray.all (·.oneCell') = true := by
  rw [List.all_toArray, List.all_eq_true]
  exact bv_one l
theorem bv_size (l : List UInt8) : (l.map bv).toArray.size = l.length := by simp
end Go.Proofs.Ytnfegmcdljejnaa
