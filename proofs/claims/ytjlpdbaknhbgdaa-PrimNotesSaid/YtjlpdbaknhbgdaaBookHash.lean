/-
  Rows of digests of one's own; the law's plain; the document's Has and Alike.
-/
import Derived.Test.YtjlpdbaknhbgdaaF0
import Derived.Test.YtjlpdbaknhbgdaaShaCmp
import Derived.Test.YtjlpdbaknhbgdaaHashAt
import Derived.Test.YtjlpdbaknhbgdaaRd
set_option linter.unusedSimpArgs false
set_option linter.unusedVariables false
namespace Go.Proofs.Ytjlpdbaknhbgdaa
open Go.RowKit

/-- A row of digests of one's own. -/
def HashOwn (w : World) (base : Nat) (e : TypeId) (v : Value) (l : List (List UInt8)) : Prop := (∀ h ∈ l, h.length = 32) ∧ w.ownsRow base e 32 v l.length (l.flatMap (·.map bv))
theorem HashOwn.below {w w' : World} {base : Nat} {e : TypeId} {v : Value} {l : List (List UInt8)} (h : HashOwn w base e v l) (b : Below w.heap.size w w') : HashOwn w' base e v l := ⟨h.1, own_below h.2 b⟩
theorem HashOwn.kept {w w' : World} {base : Nat} {e : TypeId} {v : Value} {l : List (List UInt8)} {row : Option Nat} (h : HashOwn w base e v l) (gr : w.grownBy w' row) (hr : v.ownBlock = none ∨ v.ownBlock ≠ row) : HashOwn w' base e v l := ⟨h.1, h.2.kept gr hr⟩
theorem HashOwn.at {w : World} {base : Nat} {e : TypeId} {v : Value} {l : List (List UInt8)} (h : HashOwn w base e v l) : HashesAt w v l := HashesAt.own h.2 h.1 rfl
theorem HashOwn.lt {w : World} {base : Nat} {e : TypeId} {v : Value} {l : List (List UInt8)} (h : HashOwn w base e v l) : ∀ q, v.ownBlock = some q → base ≤ q ∧ q < w.heap.size := fun q hq => h.2.lt q hq
theorem HashOwn.nil (w : World) (base : Nat) (e : TypeId) : HashOwn w base e (.slice none 0 0) [] := ⟨fun h hh => (by cases hh), World.ownsRow_nil _ _ _ _⟩
theorem HashOwn.slice {w : World} {base : Nat} {e : TypeId} {v : Value} {l : List (List UInt8)} (h : HashOwn w base e v l) : ∃ ao c, v = .slice ao l.length c := own_slice h.2
theorem bs_one (h : List UInt8) : ∀ u ∈ h.map bv, u.oneCell' = true := fun u hu => by
  obtain ⟨c, _, rfl⟩ := List.mem_map.1 hu
  rfl
/-- append of one digest. -/
theorem wp_append_h {P : Program} {o : Oper} {a : Act} {w : World} {K : Act → World → Prop} {Q : Exit → Act → World → Prop} (s x : Operand) (t : TypeId)
    (ho : o.op = .call { callee := .builtin .append, args := #[s, x], argTypes := #[t, t] }) (base : Nat) (e : TypeId) (ht : P.underlying t = some (.slice e)) (hi : (P.info? e).map (fun i => (i.zero, i.size, i.bytes)) = some (some (.agg Z32), 32, 32))
    (v : Value) (L : List (List UInt8)) (h : List UInt8) (hh : h.length = 32) (hs : a.eval s = v) (hown : HashOwn w base e v L) (g c : Nat) (hx : a.eval x = .slice (some ⟨g, 0, none⟩) 1 c) (e2 : TypeId) (hg : Blk w g (h.map bv).toArray e2) (hn : L.length ≤ 1000000) (hbase : base ≤ w.heap.size)
    (hK : ∀ v' w', HashOwn w' base e v' (L ++ [h]) → w.grownBy w' v.ownBlock → K (a.put o.dst v') w') : o.wp P a w K Q := by
  obtain ⟨i, hi1, hz, hsz, hby⟩ := info_parts hi
  have e1 : (L ++ [h]).flatMap (·.map bv) = L.flatMap (·.map bv) ++ h.map bv := by simp
  refine wp_append_own w s x t ho base e i (.agg Z32) 32 32 ht hi1 hz hsz hby rfl (by decide) v _ _ hs hown.2 ⟨g, 0, none⟩ 1 c (h.map bv) hx (by simp [hh]) (fun j u hj => by rw [Addr.add_lit, Nat.zero_add]; exact hg.cell j u (by rw [List.getElem?_toArray]; exact hj)) (bs_one h) (by unfold maxLen; omega) (by omega) hbase fun v' w' h2 h3 _ => ?_
  refine hK v' w' ⟨fun q hq => ?_, by rw [e1, List.length_append]; exact h2⟩ h3
  rcases List.mem_append.1 hq with hq | hq
  · exact hown.1 q hq
  · rw [List.mem_singleton.1 hq]; exact hh
theorem wpList_append_h {P : Program} {ops : Array Oper} {rest : List Oper} {o : Oper} {a : Act} {w : World} {Q : Exit → Act → World → Prop} (hgd : o.guard = none) (s x : Operand) (t : TypeId)
    (ho : o.op = .call { callee := .builtin .append, args := #[s, x], argTypes := #[t, t] }) (base : Nat) (e : TypeId) (ht : P.underlying t = some (.slice e)) (hi : (P.info? e).map (fun i => (i.zero, i.size, i.bytes)) = some (some (.agg Z32), 32, 32))
    (v : Value) (L : List (List UInt8)) (h : List UInt8) (hh : h.length = 32) (hs : a.eval s = v) (hown : HashOwn w base e v L) (g c : Nat) (hx : a.eval x = .slice (some ⟨g, 0, none⟩) 1 c) (e2 : TypeId) (hg : Blk w g (h.map bv).toArray e2) (hn : L.length ≤ 1000000) (hbase : base ≤ w.heap.size)
    (hK : ∀ v' w', HashOwn w' base e v' (L ++ [h]) → w.grownBy w' v.ownBlock → wpList P ops Q rest (a.put o.dst v') w') : wpList P ops Q (o :: rest) a w :=
  wpList_plain hgd fun _ hk => wp_append_h s x t ho base e ht hi v L h hh hs hown g c hx e2 hg hn hbase fun v' w' h1 h2 => hk _ _ (hK v' w' h1 h2)
/-- []T of one digest: the new block and the new world get names. -/
theorem wp_bsH {P : Program} {o : Oper} {a : Act} {w : World} {K : Act → World → Prop} {Q : Exit → Act → World → Prop} (t e : TypeId) (x : Operand) (ho : o.op = .buildSlice t 1 #[(0, x)])
    (h : List UInt8) (hh : h.length = 32) (hx : a.eval x = .agg (h.map bv).toArray) (hu : P.underlying t = some (.slice e)) (hz : (P.info? e).map (fun i => (i.zero, i.size)) = some (some (.agg Z32), 32))
    (hK : ∀ g w', g = w.heap.size → w'.heap.size = g + 1 → Below w.heap.size w w' → Blk w' g (h.map bv).toArray e → K (a.put o.dst (.slice (some ⟨g, 0, none⟩) 1 1)) w') : o.wp P a w K Q := by
  cases hi : P.info? e with
  | none => simp [hi] at hz
  | some ie =>
    simp [hi] at hz
    obtain ⟨hz1, hz2⟩ := hz
    refine Go.wp_buildSlice t e 1 #[(0, x)] ho (h.map bv).toArray ie (.agg Z32) hu hi hz1 (by rw [hz2]; omega) (by rw [hz2]; omega) ?_ (hK _ _ rfl (by simp) (below_alloc1 _ _) (Blk.new _ _ _))
    have e1 : (#[(0, x)].map fun (i, x) => (i, a.eval x)).toList = (([Value.agg (h.map bv).toArray].zipIdx 0).map fun x => (x.2, x.1)) := by simp [hx]
    rw [e1, hz2, Go.Great.fill_whole (by omega) [.agg (h.map bv).toArray] _ (by simp [Value.cells, hh]) (by simp)]
    simp [Value.cells]
theorem wpList_bsH {P : Program} {ops : Array Oper} {rest : List Oper} {o : Oper} {a : Act} {w : World} {Q : Exit → Act → World → Prop} (hgd : o.guard = none) (t e : TypeId) (x : Operand) (ho : o.op = .buildSlice t 1 #[(0, x)])
    (h : List UInt8) (hh : h.length = 32) (hx : a.eval x = .agg (h.map bv).toArray) (hu : P.underlying t = some (.slice e)) (hz : (P.info? e).map (fun i => (i.zero, i.size)) = some (some (.agg Z32), 32))
    (hK : ∀ g w', g = w.heap.size → w'.heap.size = g + 1 → Below w.heap.size w w' → Blk w' g (h.map bv).toArray e → wpList P ops Q rest (a.put o.dst (.slice (some ⟨g, 0, none⟩) 1 1)) w') : wpList P ops Q (o :: rest) a w :=
  wpList_plain hgd fun _ hk => wp_bsH t e x ho h hh hx hu hz fun g w' h1 h2 h3 h4 => hk _ _ (hK g w' h1 h2 h3 h4)
theorem Try.infoH3 : (Try.prog.info? 25).map (fun i => (i.zero, i.size, i.bytes)) = some (some (.agg Z32), 32, 32) := by kernel_rfl
theorem Try.infoH2 : (Try.prog.info? 25).map (fun i => (i.zero, i.size)) = some (some (.agg Z32), 32) := by kernel_rfl
theorem Try.infoHash3 : (Try.prog.info? 26).map (fun i => (i.zero, i.size, i.bytes)) = some (some (.agg Z32), 32, 32) := by kernel_rfl
theorem Try.infoHash2 : (Try.prog.info? 26).map (fun i => (i.zero, i.size)) = some (some (.agg Z32), 32) := by kernel_rfl
theorem Try.zeroA32 : (Try.prog.info? 25).bind (·.zero) = some (.agg Z32) := by kernel_rfl
end Go.Proofs.Ytjlpdbaknhbgdaa
