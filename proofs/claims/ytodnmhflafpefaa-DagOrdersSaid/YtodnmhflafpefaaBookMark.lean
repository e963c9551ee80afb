/-
  book: mark.
-/
import Derived.Test.YtodnmhflafpefaaF0
import Derived.Test.YtodnmhflafpefaaBookRep
import Derived.WalkLawsBesides
import Derived.Outline
import Derived.Handy
set_option linter.unusedSimpArgs false
set_option linter.unusedVariables false
namespace Go.Proofs.Ytodnmhflafpefaa
open Go.RowKit

theorem wpList_boxA {P : Program} {ops : Array Oper} {rest : List Oper} {o : Oper} {a : Act} {w : World} {Q : Exit → Act → World → Prop} (hg : o.guard = none) (t : TypeId) (x : Operand) (ho : o.op = .box t x) (cs : Array Value) (hx : a.eval x = .agg cs)
    (h : ∀ w', Below w.heap.size w w' → Blk w' w.heap.size cs t → wpList P ops Q rest (a.put o.dst (.pointer (some ⟨w.heap.size, 0, none⟩))) w') : wpList P ops Q (o :: rest) a w := by
  refine wpList_plain hg fun K hK => ?_
  unfold Oper.wp execOp
  simp [ho, hx, newVar, newRow, Value.cells, Result.andThen]
  exact hK _ _ (h _ (below_alloc1 _ _) (Blk.new _ _ _))
/-- A row of bytes of one's own. -/
def OwnB (w : World) (base : Nat) (v : Value) (bs : List UInt8) : Prop := w.ownsRow base 5 1 v bs.length (bs.map bv)
theorem OwnB.below {w w' : World} {base : Nat} {v : Value} {bs : List UInt8} (h : OwnB w base v bs) (b : Below w.heap.size w w') : OwnB w' base v bs := own_below h b
theorem conv_ownB {P : Program} {base : Nat} {w : World} {v : Value} {bs : List UInt8} {src e dst : TypeId} (hs : P.underlying src = some (.slice e)) (he : P.underlying e = some (.int .u8)) (hd : P.underlying dst = some .string)
    (h : OwnB w base v bs) : (convert src dst v).run P w = .ok (.string (str bs)) w := by
  show _ = Result.ok (Value.string ⟨bs.toArray⟩) w
  rcases h.2 with ⟨rfl, h0⟩ | ⟨g, cap, cur, rfl, _, hg, _, _, _, htk⟩
  · obtain rfl : bs = [] := List.eq_nil_of_length_eq_zero h0
    rw [run_convert_bytes_string w src dst e none 0 0 hs he hd]
    simp [Conv.bytesToString]
    rfl
  · refine run_convert_bytes_back w src dst e ⟨g, 0, none⟩ cap bs hs he hd fun j hj => ?_
    exact World.ownsRow.cells h (g := g) rfl j _ (by simp [bv, hj])
theorem byteV (x : Int) (n : Nat) (h : x = ((n % 256 : Nat) : Int)) : Value.int .u8 x = bv (UInt8.ofNat n) := by subst h; simp [bv]
/-- []byte of four. -/
theorem wpList_bsB4 {P : Program} {ops : Array Oper} {rest : List Oper} {o : Oper} {a : Act} {w : World} {Q : Exit → Act → World → Prop} (hgd : o.guard = none) (t : TypeId) (x0 x1 x2 x3 : Operand) (ho : o.op = .buildSlice t 4 #[(0, x0), (1, x1), (2, x2), (3, x3)])
    (base : Nat) (c0 c1 c2 c3 : UInt8) (h0 : a.eval x0 = bv c0) (h1 : a.eval x1 = bv c1) (h2 : a.eval x2 = bv c2) (h3 : a.eval x3 = bv c3) (hu : P.underlying t = some (.slice 5)) (hz : (P.info? 5).map (fun i => (i.zero, i.size)) = some (some (.int .u8 0), 1)) (hbw : base ≤ w.heap.size)
    (hK : ∀ w', Below w.heap.size w w' → OwnB w' base (.slice (some ⟨w.heap.size, 0, none⟩) 4 4) [c0, c1, c2, c3] → wpList P ops Q rest (a.put o.dst (.slice (some ⟨w.heap.size, 0, none⟩) 4 4)) w') : wpList P ops Q (o :: rest) a w := by
  refine wpList_plain hgd fun K hk => ?_
  cases hi : P.info? 5 with
  | none => simp [hi] at hz
  | some ie =>
    simp [hi] at hz
    obtain ⟨hz1, hz2⟩ := hz
    refine Go.wp_buildSlice t 5 4 #[(0, x0), (1, x1), (2, x2), (3, x3)] ho #[bv c0, bv c1, bv c2, bv c3] ie (.int .u8 0) hu hi hz1 (by rw [hz2]; omega) (by rw [hz2]; omega) ?_ (hk _ _ (hK _ (below_alloc1 _ _) ?_))
    · have e4 : Array.range 4 = #[0, 1, 2, 3] := by decide
      simp [h0, h1, h2, h3, hz2, Instr.fill, Value.cells, bv, e4]
    · refine ⟨rfl, .inr ⟨w.heap.size, 4, #[bv c0, bv c1, bv c2, bv c3], rfl, hbw, ?_, Nat.le_refl _, by unfold maxLen; omega, rfl, rfl⟩⟩
      have := Blk.new w #[bv c0, bv c1, bv c2, bv c3] 5
      exact this
/-- append of bytes that lie in a block. -/
theorem wpList_append_B {P : Program} {ops : Array Oper} {rest : List Oper} {o : Oper} {a : Act} {w : World} {Q : Exit → Act → World → Prop} (hgd : o.guard = none) (s x : Operand) (t : TypeId)
    (ho : o.op = .call { callee := .builtin .append, args := #[s, x], argTypes := #[t, t] }) (base : Nat) (ht : P.underlying t = some (.slice 5)) (hi : (P.info? 5).map (fun i => (i.zero, i.size, i.bytes)) = some (some (.int .u8 0), 1, 1))
    (v : Value) (L : List UInt8) (h : List UInt8) (hs : a.eval s = v) (hown : OwnB w base v L) (g m c : Nat) (hm : m = h.length) (hx : a.eval x = .slice (some ⟨g, 0, none⟩) m c) (e2 : TypeId) (hg : Blk w g (h.map bv).toArray e2) (hn : L.length + m ≤ 1000000000) (hbase : base ≤ w.heap.size)
    (hK : ∀ v' w', OwnB w' base v' (L ++ h) → w.grownBy w' v.ownBlock → wpList P ops Q rest (a.put o.dst v') w') : wpList P ops Q (o :: rest) a w := by
  subst hm
  obtain ⟨i, hi1, hz, hsz, hby⟩ := info_parts hi
  refine wpList_append_own w hgd s x t ho base 5 i (.int .u8 0) 1 1 ht hi1 hz hsz hby rfl (by decide) v _ _ hs hown ⟨g, 0, none⟩ h.length c (h.map bv) hx (by simp) (fun j u hj => by rw [Addr.add_lit, Nat.zero_add]; exact hg.cell j u (by rw [List.getElem?_toArray]; exact hj)) (bs_one h) (by unfold maxLen; omega) (by omega) hbase fun v' w' h2 h3 _ => ?_
  refine hK v' w' ?_ h3
  show w'.ownsRow _ _ _ _ _ _
  rw [List.length_append, List.map_append]; exact h2
theorem Try.infoU8b : (Try.prog.info? 5).map (fun i => (i.zero, i.size)) = some (some (.int .u8 0), 1) := by kernel_rfl
theorem Try.neUH : 5 ≠ 32 := by decide
theorem OwnB.ne_blk {w : World} {base : Nat} {v : Value} {bs : List UInt8} (h : OwnB w base v bs) {q : Nat} {cs : Array Value} {t : TypeId} (hq : Blk w q cs t) (he : 5 ≠ t) : some q ≠ v.ownBlock := fun e2 => own_ne h hq he e2.symm
/-- The text by which a fact is known. -/
def le4 (n : Nat) : List UInt8 := [UInt8.ofNat n, UInt8.ofNat (n / 256), UInt8.ofNat (n / 65536), UInt8.ofNat (n / 16777216)]
def markB (f : FactT) : List UInt8 := le4 f.ins.length ++ (f.ins.flatten ++ f.outs.flatten)
def preT (f : FactT) (j : Nat) : List UInt8 := le4 f.ins.length ++ ((if 0 < j then f.ins.flatten else []) ++ (if 1 < j then f.outs.flatten else []))
theorem flatten32_len : ∀ (l : List HsT), (∀ x ∈ l, x.length = 32) → l.flatten.length = l.length * 32
  | [], _ => rfl
  | x :: l, h => by
    rw [List.flatten_cons, List.length_append, flatten32_len l (fun y hy => h y (List.mem_cons_of_mem _ hy)), h x List.mem_cons_self, List.length_cons]
    omega
theorem preT_len (f : FactT) (j : Nat) (h1 : ∀ x ∈ f.ins, x.length = 32) (h2 : ∀ x ∈ f.outs, x.length = 32) : (preT f j).length ≤ 4 + f.ins.length * 32 + f.outs.length * 32 := by
  have e1 := flatten32_len f.ins h1
  have e2 := flatten32_len f.outs h2
  unfold preT
  rw [List.length_append, List.length_append, show (le4 f.ins.length).length = 4 from rfl]
  by_cases h3 : 0 < j <;> by_cases h4 : 1 < j
  · rw [if_pos h3, if_pos h4, e1, e2]; omega
  · rw [if_pos h3, if_neg h4, e1, List.length_nil]; omega
  · omega
  · rw [if_neg h3, if_neg h4, List.length_nil]; omega
theorem flatten32_take (l : List HsT) (k : Nat) (h : ∀ x ∈ l, x.length = 32) (hl : l.length ≤ 1000000) : (l.take k).flatten.length ≤ 32000000 := by
  rw [flatten32_len _ (fun x hx => h x (List.mem_of_mem_take hx)), List.length_take]
  omega
end Go.Proofs.Ytodnmhflafpefaa
