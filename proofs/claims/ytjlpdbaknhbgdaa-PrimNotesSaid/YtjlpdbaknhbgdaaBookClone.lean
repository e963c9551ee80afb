/-
  slices.Clone at digests; small laws for Note.
-/
import Derived.Shelf.SlicesE.Clone
import Derived.Ground.SlgnProg
import Derived.Test.YtjlpdbaknhbgdaaBookIs
import Derived.WalkLawsBesides
import Derived.Outline
import Derived.Handy
set_option linter.unusedSimpArgs false
set_option linter.unusedVariables false
namespace Go.Proofs
open Go.Shelf Go.Lib
shelf_lay_g SlLaysE0.n41 Slgn 41 at Try 32 as Try.cloneHs
end Go.Proofs
namespace Go.Proofs.Ytjlpdbaknhbgdaa
open Go.RowKit

theorem HashOwn.empty (w : World) (base : Nat) (e : TypeId) (hbw : base ≤ w.heap.size) : HashOwn (w.alloc (.cells #[] e)) base e (.slice (some ⟨w.heap.size, 0, none⟩) 0 0) [] := by
  refine ⟨fun h hh => (by cases hh), rfl, .inr ⟨w.heap.size, 0, #[], rfl, hbw, ?_, Nat.le_refl _, by unfold maxLen; omega, rfl, rfl⟩⟩
  have := Blk.new w #[] e
  exact this
theorem wpList_append_h0 {P : Program} {ops : Array Oper} {rest : List Oper} {o : Oper} {a : Act} {w : World} {Q : Exit → Act → World → Prop} (hgd : o.guard = none) (s x : Operand) (t : TypeId)
    (ho : o.op = .call { callee := .builtin .append, args := #[s, x], argTypes := #[t, t] }) (base : Nat) (e : TypeId) (ht : P.underlying t = some (.slice e)) (hi : (P.info? e).map (fun i => (i.zero, i.size, i.bytes)) = some (some (.agg Z32), 32, 32))
    (v : Value) (hs : a.eval s = v) (hown : HashOwn w base e v []) (ad : Addr) (c : Nat) (hx : a.eval x = .slice (some ad) 0 c) (hbase : base ≤ w.heap.size)
    (hK : ∀ v' w', HashOwn w' base e v' [] → w.grownBy w' v.ownBlock → wpList P ops Q rest (a.put o.dst v') w') : wpList P ops Q (o :: rest) a w := by
  obtain ⟨i, hi1, hz, hsz, hby⟩ := info_parts hi
  refine wpList_append_own w hgd s x t ho base e i (.agg Z32) 32 32 ht hi1 hz hsz hby rfl (by decide) v _ _ hs hown.2 ad 0 c [] hx rfl (fun j u hj => by simp at hj) (fun u hu => by cases hu) (by unfold maxLen; simp) (by simp) hbase fun v' w' h2 h3 _ => ?_
  exact hK v' w' ⟨fun h hh => (by cases hh), h2⟩ h3
set_option maxHeartbeats 4000000 in
set_option maxRecDepth 100000 in
theorem CloneH_calls (v : Value) (l : List HsT) (w : World) (h : HashesAt w v l) (hn : l.length ≤ 1000000) :
    Calls Try.prog 32 #[v] w fun e w' => ∃ v', e = .returned v' ∧ HashOwn w' w.heap.size 26 v' l ∧ Below w.heap.size w w' := by
  rcases h.2 with ⟨rfl, ao, rfl⟩ | ⟨g, o, c, rfl, hc, hlt, hcell⟩
  · cases ao with
    | some ad =>
      clear h hn
      obtain ⟨base, hbase⟩ : ∃ base, base = w.heap.size := ⟨_, rfl⟩
      have HBS : Hid (base = w.heap.size) := hbase
      rw [← hbase]
      have hbo : ∀ x, (binOp BinOp.eql 23 (.slice (some ad) 0 0) (.slice none 0 0)).run Try.prog x = .ok (.bool false) x := fun x => by kernel_rfl
      go_enter Try.func32, Try.ntmps32
      go_wp2_with (first | ((with_reducible show wpList _ _ _ (⟨some 7, _, _, _, _, _⟩ :: _) _ _); refine wpList_append_h0 rfl (.tmp 5) (.tmp 6) 23 rfl base 26 Try.underlying23 Try.infoHash3 _ (by rfl) (HashOwn.empty w base _ (Nat.le_of_eq HBS.out)) ad 0 (by rfl) (Nat.le_trans (Nat.le_of_eq HBS.out) (below_alloc1 _ _).size) ?_; intro v2 w2 h2 g2))
      go_returns
      exact ⟨_, rfl, h2, by rw [HBS.out]; exact (below_alloc1 w _).grown g2 (below_alloc1 _ _).size (fun q e => by simp [Value.ownBlock] at e; omega)⟩
    | none =>
    have hcall := AnyE.slices_Clone_nil Try.cloneHs 0 0 w
    change Calls Try.prog 32 _ _ _ at hcall
    refine hcall.mono ?_
    rintro e w' ⟨rfl, rfl⟩
    exact ⟨_, rfl, HashOwn.nil _ _ _, Below.refl _ _⟩
  · obtain ⟨i0, hi, hz, hsz, hby⟩ := info_parts Try.infoHash3
    have hcall := AnyE.slices_Clone Try.cloneHs i0 (.agg Z32) 32 32 hi hz hsz hby rfl (by decide) Try.sizeOf26 g o l.length c (l.flatMap (·.map bv)) w (flatMap_len32 l h.1) (by unfold maxLen; omega) (by omega) (fun j u hj => hcell j u hj) (fun u hu => by
      obtain ⟨x, _, hx⟩ := List.mem_flatMap.1 hu
      exact bs_one x u hx)
    change Calls Try.prog 32 _ _ _ at hcall
    refine hcall.mono ?_
    rintro e w' ⟨v', rfl, ho, _, hb⟩
    exact ⟨v', rfl, ⟨h.1, ho⟩, hb⟩
/-- A slice literal of one number. -/
theorem wp_bsI {P : Program} {o : Oper} {a : Act} {w : World} {K : Act → World → Prop} {Q : Exit → Act → World → Prop} (t e : TypeId) (x : Operand) (ho : o.op = .buildSlice t 1 #[(0, x)])
    (n : Nat) (hx : a.eval x = iv n) (hu : P.underlying t = some (.slice e)) (hz : (P.info? e).map (fun i => (i.zero, i.size)) = some (some (.int .i64 0), 1))
    (h : ∀ g w', g = w.heap.size → w'.heap.size = g + 1 → Below w.heap.size w w' → Blk w' g #[iv n] e → K (a.put o.dst (.slice (some ⟨g, 0, none⟩) 1 1)) w') : o.wp P a w K Q := by
  cases hi : P.info? e with
  | none => simp [hi] at hz
  | some ie =>
    simp [hi] at hz
    obtain ⟨hz1, hz2⟩ := hz
    refine Go.wp_buildSlice t e 1 #[(0, x)] ho #[iv n] ie (.int .i64 0) hu hi hz1 (by rw [hz2]; omega) (by rw [hz2]; omega) ?_ (h _ _ rfl (by simp) (below_alloc1 _ _) (Blk.new _ _ _))
    have e1 : (#[(0, x)].map fun (i, x) => (i, a.eval x)).toList = (([iv n].zipIdx 0).map fun x => (x.2, x.1)) := by simp [hx]
    rw [e1, hz2, Go.Great.fill_whole (by omega) [iv n] _ (by simp [Value.cells]) (by simp)]
    simp [Value.cells]
/-- A slice literal of one struct of two cells. -/
theorem wp_bs2 {P : Program} {o : Oper} {a : Act} {w : World} {K : Act → World → Prop} {Q : Exit → Act → World → Prop} (t e : TypeId) (x : Operand) (ho : o.op = .buildSlice t 1 #[(0, x)])
    (cs : Array Value) (hx : a.eval x = .agg cs) (hu : P.underlying t = some (.slice e)) (z : Value) (n : Nat) (hz : (P.info? e).map (fun i => (i.zero, i.size)) = some (some z, n)) (hn : cs.size = n) (h0 : 0 < n) (hb : n ≤ 16777216)
    (h : ∀ g w', g = w.heap.size → w'.heap.size = g + 1 → Below w.heap.size w w' → Blk w' g cs e → K (a.put o.dst (.slice (some ⟨g, 0, none⟩) 1 1)) w') : o.wp P a w K Q := by
  cases hi : P.info? e with
  | none => simp [hi] at hz
  | some ie =>
    simp [hi] at hz
    obtain ⟨hz1, hz2⟩ := hz
    refine Go.wp_buildSlice t e 1 #[(0, x)] ho cs ie z hu hi hz1 (by rw [hz2]; omega) (by rw [hz2]; omega) ?_ (h _ _ rfl (by simp) (below_alloc1 _ _) (Blk.new _ _ _))
    have e1 : (#[(0, x)].map fun (i, x) => (i, a.eval x)).toList = (([Value.agg cs].zipIdx 0).map fun x => (x.2, x.1)) := by simp [hx]
    rw [e1, hz2, Go.Great.fill_whole h0 [.agg cs] _ (by simp [Value.cells, hn]) (by simp)]
    simp [Value.cells]
theorem Try.infoInt2 : (Try.prog.info? 3).map (fun i => (i.zero, i.size)) = some (some (.int .i64 0), 1) := by kernel_rfl
theorem Try.infoFact3 : (Try.prog.info? 68).map (fun i => (i.zero, i.size, i.bytes)) = some (some (.agg #[.slice none 0 0, .slice none 0 0]), 2, 48) := by kernel_rfl
theorem Try.infoFact2 : (Try.prog.info? 68).map (fun i => (i.zero, i.size)) = some (some (.agg #[.slice none 0 0, .slice none 0 0]), 2) := by kernel_rfl
/-- The marks are apart. -/
structure FOk (f : FactT) : Prop where
  ins : ∀ x ∈ f.ins, x.length = 32
  outs : ∀ x ∈ f.outs, x.length = 32
  li : f.ins.length ≤ 1000000
  lo : f.outs.length ≤ 1000000
theorem flatten_inj : ∀ {l m : List HsT}, (∀ x ∈ l, x.length = 32) → (∀ x ∈ m, x.length = 32) → l.flatten = m.flatten → l = m
  | [], [], _, _, _ => rfl
  | [], y :: m, _, h2, h => by
    have := congrArg List.length h
    rw [List.flatten_cons, List.length_append, h2 y List.mem_cons_self] at this
    rw [List.flatten_nil, List.length_nil] at this
    omega
  | x :: l, [], h1, _, h => by
    have := congrArg List.length h
    rw [List.flatten_cons, List.length_append, h1 x List.mem_cons_self] at this
    rw [List.flatten_nil, List.length_nil] at this
    omega
  | x :: l, y :: m, h1, h2, h => by
    rw [List.flatten_cons, List.flatten_cons] at h
    obtain ⟨e1, e2⟩ := List.append_inj h (by rw [h1 x List.mem_cons_self, h2 y List.mem_cons_self])
    rw [e1, flatten_inj (fun z hz => h1 z (List.mem_cons_of_mem _ hz)) (fun z hz => h2 z (List.mem_cons_of_mem _ hz)) e2]
theorem ofNat_mod {a b : Nat} (h : UInt8.ofNat a = UInt8.ofNat b) : a % 256 = b % 256 := by
  have := congrArg UInt8.toNat h
  simpa using this
theorem le4_inj {a b : Nat} (ha : a ≤ 1000000) (hb : b ≤ 1000000) (h : le4 a = le4 b) : a = b := by
  unfold le4 at h
  simp only [List.cons.injEq, and_true] at h
  obtain ⟨h0, h1, h2, _⟩ := h
  have := ofNat_mod h0
  have := ofNat_mod h1
  have := ofNat_mod h2
  omega
theorem markT_inj {f g : FactT} (hf : FOk f) (hg : FOk g) (h : markB f = markB g) : f = g := by
  unfold markB at h
  obtain ⟨e1, e2⟩ := List.append_inj h rfl
  have e3 := le4_inj hf.li hg.li e1
  obtain ⟨e4, e5⟩ := List.append_inj e2 (by rw [flatten32_len _ hf.ins, flatten32_len _ hg.ins, e3])
  have e6 := flatten_inj hf.ins hg.ins e4
  have e7 := flatten_inj hf.outs hg.outs e5
  cases f; cases g
  simp only at e6 e7
  rw [e6, e7]
theorem mark_mem {fs : List FactT} {f : FactT} (hf : FOk f) (hfs : ∀ g ∈ fs, FOk g) : markB f ∈ fs.map markB ↔ f ∈ fs := by
  rw [List.mem_map]
  constructor
  · rintro ⟨g, hg, e⟩
    rw [← markT_inj (hfs g hg) hf e]
    exact hg
  · exact fun h => ⟨f, h, rfl⟩
end Go.Proofs.Ytjlpdbaknhbgdaa
