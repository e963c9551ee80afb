/-
  A row beside a list of places that is the caller's own: they lie apart, and stay so.
-/
import Derived.Test.YtlomofcnknpciaaPprLaw2
set_option linter.unusedSimpArgs false
set_option linter.unusedVariables false
namespace Go.Proofs.Ytlomofcnknpciaa
open Go.RowKit

def RowS (w : World) (r B : Nat) (l : List Sd) (tv : Value) : Prop := ∃ v, Blk w r #[.int .i64 B, v] 138 ∧ SeedsAt w v l ∧ ∀ q, tv.ownBlock = some q → v.ownBlock ≠ some q
theorem RowS.row {w : World} {r B : Nat} {l : List Sd} {tv : Value} (h : RowS w r B l tv) : RowAt w r B l := by
  obtain ⟨v, h1, h2, _⟩ := h
  exact ⟨v, h1, h2⟩
theorem RowS.lt {w : World} {r B : Nat} {l : List Sd} {tv : Value} (h : RowS w r B l tv) : r < w.heap.size := h.row.lt
theorem RowAt.apart {w : World} {r B : Nat} {l : List Sd} (h : RowAt w r B l) (tv : Value) (ht : tv.ownBlock = none) : RowS w r B l tv := by
  obtain ⟨v, h1, h2⟩ := h
  exact ⟨v, h1, h2, fun q hq => by rw [ht] at hq; cases hq⟩
theorem RowS.below {w w' : World} {r B : Nat} {l : List Sd} {tv : Value} (h : RowS w r B l tv) (b : Below w.heap.size w w') : RowS w' r B l tv := by
  obtain ⟨v, h1, h2, h3⟩ := h
  exact ⟨v, h1.below b h1.lt, h2.below b, h3⟩
theorem seeds_lt {w : World} {v : Value} {l : List Sd} (h : SeedsAt w v l) : ∀ q, v.ownBlock = some q → q < w.heap.size := fun q hq => by
  rcases h.2 with ⟨rfl, _⟩ | ⟨g, c, rfl, _, hlt, _⟩
  · simp [Value.ownBlock] at hq
  · simp [Value.ownBlock] at hq; omega
theorem RowS.other {w w' : World} {r B M : Nat} {l : List Sd} {tv : Value} {cs : Array Value} {t : TypeId} (h : RowS w r B l tv) (gr : w.grownBy w' (some M)) (hM : Blk w M cs t) (h0 : ∃ u, cs[0]? = some u ∧ ∀ n, u ≠ .int .i64 n) : RowS w' r B l tv := by
  obtain ⟨v, h1, h2, h3⟩ := h
  have hr := RowAt.other ⟨v, h1, h2⟩ gr hM h0
  have hne : r ≠ M := fun e => by
    subst e
    obtain ⟨u, hu, hu2⟩ := h0
    unfold Blk at h1 hM
    rw [h1] at hM
    simp at hM
    rw [← hM.1] at hu
    simp at hu
    exact hu2 _ hu.symm
  have h4 : Blk w' r #[.int .i64 B, v] 138 := h1.grown gr (by simpa using hne)
  obtain ⟨v', g1, g2⟩ := hr
  obtain rfl := slot_eq h4 g1
  exact ⟨v, g1, g2, h3⟩
/-- Behind an append to the places. -/
theorem RowS.append {w w' : World} {r B : Nat} {l : List Sd} {tv tv' : Value} (h : RowS w r B l tv) (gr : w.grownBy w' tv.ownBlock) (hr : tv.ownBlock ≠ some r) (hq : ∀ q, tv'.ownBlock = some q → tv.ownBlock = some q ∨ w.heap.size ≤ q) : RowS w' r B l tv' := by
  obtain ⟨v, h1, h2, h3⟩ := h
  refine ⟨v, h1.grown gr (fun e => hr e.symm), h2.grown gr (fun q hv e => h3 q e.symm hv), fun q hq' hv => ?_⟩
  rcases hq q hq' with h4 | h4
  · exact h3 q h4 hv
  · have := seeds_lt h2 q hv
    omega
theorem RowS.take {w w' : World} {r B : Nat} {l l' : List Sd} {tv : Value} (h : RowS w r B l tv) (hR : RowAt w' r B l') (mv : RowMove w w' r B) (ht : ∀ q, tv.ownBlock = some q → q < w.heap.size) : RowS w' r B l' tv := by
  obtain ⟨v, h1, h2, h3⟩ := h
  obtain ⟨v', g1, g2⟩ := hR
  refine ⟨v', g1, g2, fun q hq hv => ?_⟩
  rcases mv v v' h1 g1 q hv with h4 | h4
  · exact h3 q hq h4
  · have := ht q hq
    omega
def ints (tk : List Nat) : List Value := tk.map fun (x : Nat) => .int .i64 (x : Int)
theorem ints_one (tk : List Nat) : ∀ u ∈ ints tk, u.oneCell' = true := fun u hu => by
  obtain ⟨_, _, rfl⟩ := List.mem_map.1 hu; rfl
theorem IntsA.own {w : World} {e : TypeId} {base : Nat} {v : Value} {tk : List Nat} (h : w.ownsRow base e 1 v tk.length (ints tk)) : IntsA w v tk := by
  rcases h.2 with ⟨h0, h1⟩ | ⟨g, cap, cur, rfl, hb, hg, h1, h2, h3, h4⟩
  · exact .inl ⟨h0, List.eq_nil_of_length_eq_zero h1⟩
  · refine .inr ⟨g, 0, cap, rfl, lt_of_block hg, fun j x hj => ?_⟩
    have hlt := (List.getElem?_eq_some_iff.1 hj).1
    have e : (cur.toList.take (tk.length * 1))[j]? = some (.int .i64 (x : Int)) := by rw [h4, ints, List.getElem?_map, hj]; rfl
    rw [List.getElem?_take_of_lt (by omega)] at e
    have : cur[j]? = some (.int .i64 (x : Int)) := by simpa using e
    simp [World.cell?, hg, this]
theorem own_lt {w : World} {e : TypeId} {base size n : Nat} {v : Value} {xs : List Value} (h : w.ownsRow base e size v n xs) : ∀ q, v.ownBlock = some q → base ≤ q ∧ q < w.heap.size := fun q hq => h.lt q hq
theorem own_cellsP {w : World} {e : TypeId} {base size n : Nat} {v : Value} {xs : List Value} (h : w.ownsRow base e size v n xs) : v.cells = #[v] := by
  obtain ⟨ao, c, rfl⟩ := own_slice h
  rfl
theorem own_onecell {w : World} {e : TypeId} {base size n : Nat} {v : Value} {xs : List Value} (h : w.ownsRow base e size v n xs) : v.oneCell' = true := by
  obtain ⟨ao, c, rfl⟩ := own_slice h
  rfl
theorem Try.infoInt : (Try.prog.info? 3).map (fun i => (i.zero, i.size, i.bytes)) = some (some (.int .i64 0), 1, 8) := by kernel_rfl
/-- append of one place to a list of one's own. -/
theorem wpList_append_place {ops : Array Oper} {rest : List Oper} {o : Oper} {a : Act} {w : World} {Q : Exit → Act → World → Prop} (hgd : o.guard = none) (s x : Operand)
    (ho : o.op = .call { callee := .builtin .append, args := #[s, x], argTypes := #[24, 24] }) (base : Nat) (v : Value) (tk : List Nat) (hs : a.eval s = v) (hown : w.ownsRow base 3 1 v tk.length (ints tk))
    (g c q : Nat) (hx : a.eval x = .slice (some ⟨g, 0, none⟩) 1 c) (hc : w.cell? ⟨g, 0, none⟩ = some (.int .i64 (q : Int))) (hn : tk.length ≤ 1000000) (hbase : base ≤ w.heap.size)
    (h : ∀ v' w', w'.ownsRow base 3 1 v' (tk ++ [q]).length (ints (tk ++ [q])) → w.grownBy w' v.ownBlock → (∀ q, v'.ownBlock = some q → v.ownBlock = some q ∨ w.heap.size ≤ q) → wpList Try.prog ops Q rest (a.put o.dst v') w') : wpList Try.prog ops Q (o :: rest) a w := by
  obtain ⟨i, hi, hz, hsz, hby⟩ := info_parts Try.infoInt
  refine wpList_append_own2 hgd s x 24 ho base 3 i (.int .i64 0) 1 8 Try.underlying24 hi hz hsz hby rfl (by decide) v _ _ hs hown ⟨g, 0, none⟩ 1 c [.int .i64 (q : Int)] hx rfl (fun j u hj => ?_) (by simp; rfl) (by unfold maxLen; omega) (by omega) hbase fun v' w' h1 h2 h3 => ?_
  · have hlt := (List.getElem?_eq_some_iff.1 hj).1
    obtain rfl : j = 0 := by simp at hlt; omega
    obtain rfl : Value.int .i64 (q : Int) = u := by simpa using hj
    rw [Addr.add_lit]
    exact hc
  · refine h v' w' ?_ h2 h3
    have e : ints (tk ++ [q]) = ints tk ++ [.int .i64 (q : Int)] := by simp [ints]
    rw [e, List.length_append]
    exact h1
theorem Elems.grownO {α : Type} {cells : α → List Value} {size : Nat} {w0 w w' : World} {ao : Option Addr} {len : Nat} {xs : List α} {row : Option Nat} (h0 : Elems cells size w0 ao len xs) (h : Elems cells size w ao len xs) (gr : w.grownBy w' row) (hr : ∀ q, row = some q → w0.heap.size ≤ q) : Elems cells size w' ao len xs := by
  refine ⟨h.1, ?_⟩
  rcases h0.2 with h1 | ⟨b, off, rfl, hb0, _⟩
  · exact .inl h1
  · rcases h.2 with h1 | ⟨b', off', he, hb, hc⟩
    · exact .inl h1
    · simp only [Option.some.injEq, Addr.mk.injEq] at he
      obtain ⟨rfl, rfl, _⟩ := he
      refine .inr ⟨b, off, rfl, Nat.lt_of_lt_of_le hb gr.size, fun i hi j v hj => ?_⟩
      have h7 := hc i hi j v hj
      have h8 := gr.block b hb (fun e => by have := hr b e.symm; omega)
      simp only [World.cell?, h8] at h7 ⊢
      exact h7
/-- A call of a row, as the law's argument has it. -/
structure CallA where
  d : UInt8
  p : Int
def CallA.cells (c : CallA) : List Value := [bv c.d, .int .i64 c.p]
abbrev Calls6 := Elems CallA.cells 2
section
open Go.ChangeShapes Go.WideShapes
variable {H : Type} {enc : TypeId × Value → H} {w : World} {base : Nat} {spare : Nat → Bool} {held : Bool} {fuel : Nat} {x : DataW H × List MemPlace}
theorem drop_take_join {α : Type} (l : List α) (a n m : Nat) : (l.drop a).take n ++ (l.drop (a + n)).take m = (l.drop a).take (n + m) := by
  rw [← List.drop_drop, ← List.take_add]
theorem Try.cellsCall : Try.prog.cellsOf 95 = 2 := by kernel_rfl
set_option maxRecDepth 100000 in
theorem trod_call {l : List Value} (h : DataW.trod enc Try.prog w base spare held fuel 95 l = some x) : ∃ c : CallA, (-9223372036854775808 ≤ c.p ∧ c.p ≤ 9223372036854775807) ∧ l = c.cells := by
  obtain ⟨xs, m, _, _, hl, hx, hf⟩ := DataW.trod_struct Try.underlying95 h
  rw [Try.cellsCall] at hl
  match xs, hx with
  | [y0, y1], _ =>
    have f0 : DataW.trod enc Try.prog w base spare held m 5 ((l.drop 0).take (Try.prog.cellsOf 5)) = some y0 := hf 0 _ rfl
    have f1 : DataW.trod enc Try.prog w base spare held m 3 ((l.drop 1).take (Try.prog.cellsOf 3)) = some y1 := hf 1 _ rfl
    rw [Try.cellsU8] at f0
    rw [Try.cellsIntE] at f1
    obtain ⟨k, e0⟩ := trod_u8 f0
    obtain ⟨n, e1, n1, n2⟩ := trod_i64 f1
    refine ⟨⟨k, n⟩, ⟨n1, n2⟩, ?_⟩
    have hj : l = (l.drop 0).take 1 ++ (l.drop 1).take 1 := by
      rw [drop_take_join l 0 1 1, List.drop_zero, List.take_of_length_le (by omega)]
    rw [hj, e0, e1]
    rfl
end
end Go.Proofs.Ytlomofcnknpciaa
