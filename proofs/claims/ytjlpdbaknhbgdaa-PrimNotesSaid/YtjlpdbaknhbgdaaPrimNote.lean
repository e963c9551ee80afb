/-
  The law PrimNotes: facts that are made, and the list of what each act notes.
-/
import Derived.Test.YtjlpdbaknhbgdaaPrimAct
import Derived.Test.YtjlpdbaknhbgdaaRegInv
import Derived.Test.YtjlpdbaknhbgdaaAwakePrim
import Derived.Test.YtjlpdbaknhbgdaaPlain05
import Derived.Test.YtjlpdbaknhbgdaaBookHas
import Derived.Test.YtjlpdbaknhbgdaaBookSmall
set_option linter.unusedSimpArgs false
set_option linter.unusedVariables false
namespace Go.Proofs.Ytjlpdbaknhbgdaa
open Go.RowKit

def actZ : ActA := ⟨0, List.replicate 32 0, List.replicate 32 0, [], .slice none 0 0, rfl, rfl⟩
theorem Try.zeroAct : (Try.prog.info? 28).bind (·.zero) = some (.agg actZ.cells.toArray) := by kernel_rfl
theorem Try.sizeAct : (Try.prog.info? 28).map (·.size) = some 67 := by kernel_rfl
theorem act_sizeA (c : ActA) : (Try.prog.info? 28).map (·.size) = some c.cells.toArray.size := by rw [List.size_toArray, c.cells_len]; exact Try.sizeAct
theorem act_sizeL (c : ActA) : (Try.prog.info? 28).map (·.size) = some c.cells.length := by rw [c.cells_len]; exact Try.sizeAct
theorem act_hold (c : ActA) : actZ.cells.toArray.size = c.cells.toArray.size := by rw [List.size_toArray, List.size_toArray, actZ.cells_len, c.cells_len]
theorem act_one (c : ActA) (h : c.sv.oneCell' = true) : ∀ x ∈ c.cells, x.oneCell' = true := fun x hx => by
  rw [ActA.cells] at hx
  simp only [List.mem_cons, List.mem_append, List.mem_map, List.not_mem_nil, or_false] at hx
  rcases hx with rfl | ⟨y, _, rfl⟩ | ⟨y, _, rfl⟩ | rfl | rfl
  · rfl
  · rfl
  · rfl
  · rfl
  · exact h
theorem act_all (c : ActA) (h : c.sv.oneCell' = true) : c.cells.toArray.all Value.oneCell' = true := by
  rw [List.all_toArray, List.all_eq_true]
  exact act_one c h
/-- A fact's two lists. -/
def FactV (w : World) (base : Nat) (v : Value) (f : FactT) : Prop := ∃ x y, v = .agg #[x, y] ∧ HashOwn w base 25 x f.ins ∧ HashOwn w base 25 y f.outs
theorem FactV.frm {A : Nat → Prop} {T : TypeId → Prop} {M : Nat → Prop} {w w' : World} {base : Nat} {v : Value} {f : FactT} (h : FactV w base v f) (fr : Frm A T M w w') (h2 : ¬ T 25) : FactV w' base v f := by
  obtain ⟨x, y, e, h3, h4⟩ := h
  exact ⟨x, y, e, h3.frm fr h2, h4.frm fr h2⟩
theorem rfacts_new {w : World} {base : Nat} (hb : base ≤ w.heap.size) (fs : List FactT) (cs : List (Value × Value)) (hl : cs.length = fs.length) (h0 : 0 < fs.length) (h9 : fs.length ≤ 1000)
    (hc : ∀ (i : Nat) (f : FactT) (p : Value × Value), fs[i]? = some f → cs[i]? = some p → HashOwn w base 25 p.1 f.ins ∧ HashOwn w base 25 p.2 f.outs) :
    RFactsOwn (fun _ => False) (w.alloc (.cells (cs.flatMap fun p => [p.1, p.2]).toArray 35)) base (.slice (some ⟨w.heap.size, 0, none⟩) fs.length fs.length) fs := by
  have hlen : ∀ l : List (Value × Value), (l.flatMap fun p => [p.1, p.2]).length = l.length * 2 := fun l => by
    induction l with
    | nil => rfl
    | cons q l ih => rw [List.flatMap_cons, List.length_append, ih]; simp; omega
  have hbl : Below w.heap.size w (w.alloc (.cells (cs.flatMap fun p => [p.1, p.2]).toArray 35)) := below_alloc1 _ _
  refine ⟨cs, ⟨by rw [hlen, hl], .inr ⟨w.heap.size, fs.length, (cs.flatMap fun p => [p.1, p.2]).toArray, rfl, hb, heap_alloc_new w _, Nat.le_refl _, by unfold maxLen; omega, by simp only [List.size_toArray]; rw [hlen, hl], by rw [List.take_of_length_le (by simp only [List.toList_toArray]; rw [hlen, hl]; omega)]⟩⟩, hl, fun q hq => id, fun i f p hi hp => ?_⟩
  obtain ⟨h1, h2⟩ := hc i f p hi hp
  exact ⟨h1.below hbl, h2.below hbl⟩
/-- A slice literal of facts. -/
theorem wp_factsLit {P : Program} {o : Oper} {a : Act} {w : World} {K : Act → World → Prop} {Q : Exit → Act → World → Prop} (t e : TypeId) (n : Nat) (parts : Array (Nat × Operand)) (ho : o.op = .buildSlice t n parts) (he : e = 35) (base : Nat) (hb : base ≤ w.heap.size) (fs : List FactT) (cs : List (Value × Value)) (hn : fs.length = n) (h0 : 0 < n) (h9 : n ≤ 1000) (hl : cs.length = fs.length)
    (hc : ∀ (i : Nat) (f : FactT) (p : Value × Value), fs[i]? = some f → cs[i]? = some p → HashOwn w base 25 p.1 f.ins ∧ HashOwn w base 25 p.2 f.outs)
    (hx : (parts.map fun (i, x) => (i, a.eval x)).toList = ((cs.map fun p => Value.agg #[p.1, p.2]).zipIdx 0).map fun x => (x.2, x.1)) (hu : P.underlying t = some (.slice e)) (hz : (P.info? e).map (fun i => (i.zero, i.size)) = some (some (.agg #[.slice none 0 0, .slice none 0 0]), 2))
    (hK : ∀ v w', Below w.heap.size w w' → RFactsOwn (fun _ => False) w' base v fs → K (a.put o.dst v) w') : o.wp P a w K Q := by
  subst hn
  subst he
  cases hi : P.info? 35 with
  | none => simp [hi] at hz
  | some ie =>
    simp [hi] at hz
    obtain ⟨hz1, hz2⟩ := hz
    refine Go.wp_buildSlice t 35 fs.length parts ho (cs.flatMap fun p => [p.1, p.2]).toArray ie _ hu hi hz1 (by rw [hz2]; omega) (by rw [hz2]; omega) ?_ (hK _ _ (below_alloc1 _ _) (rfacts_new hb fs cs hl h0 h9 hc))
    rw [hx, hz2, Go.Great.fill_whole (by omega) (cs.map fun p => Value.agg #[p.1, p.2]) _ (by
      simp only [List.mem_map, forall_exists_index, and_imp, forall_apply_eq_imp_iff₂]
      intro p hp
      simp [Value.cells]) (by simp [hl])]
    congr 1
    rw [List.flatMap_map]
    simp [Value.cells]
/-- append of a literal of facts to none. -/
theorem wp_rfNil {P : Program} {w : World} {o : Oper} {a : Act} {K : Act → World → Prop} {Q : Exit → Act → World → Prop} (s x : Operand) (t : TypeId) (ho : o.op = .call { callee := .builtin .append, args := #[s, x], argTypes := #[t, t] }) (ht : P.underlying t = some (.slice 35))
    (hi : (P.info? 35).map (fun i => (i.zero, i.size, i.bytes)) = some (some (.agg #[.slice none 0 0, .slice none 0 0]), 2, 48)) (base : Nat) (hb : base ≤ w.heap.size) (fs : List FactT) (hs : a.eval s = .slice none 0 0) (v : Value) (hx : a.eval x = v) (hv : RFactsOwn (fun _ => False) w base v fs) (h0 : 0 < fs.length) (h9 : fs.length ≤ 1000)
    (hK : ∀ v' w', Below w.heap.size w w' → RFactsOwn (fun _ => False) w' base v' fs → K (a.put o.dst v') w') : o.wp P a w K Q := by
  obtain ⟨i, hi1, hz, hsz, hby⟩ := info_parts hi
  obtain ⟨cs, ho', hl, hA, hc⟩ := hv
  rcases ho'.2 with ⟨e, e0⟩ | ⟨g, cap, cur, rfl, hbg, hg, hn, hm, hcs, htk⟩
  · omega
  · have hone : ∀ u ∈ (cs.flatMap fun p => [p.1, p.2]), u.oneCell' = true := fun u hu => by
      obtain ⟨p, hp, hu⟩ := List.mem_flatMap.1 hu
      obtain ⟨j, hj⟩ := List.getElem?_of_mem hp
      obtain ⟨f, hf⟩ : ∃ f, fs[j]? = some f := ⟨fs[j]'(by rw [← hl]; exact (List.getElem?_eq_some_iff.1 hj).1), List.getElem?_eq_getElem _⟩
      obtain ⟨h1, h2⟩ := hc j f p hf hj
      rcases List.mem_cons.1 hu with rfl | hu
      · exact own_one2 h1
      · rw [List.mem_singleton.1 hu]; exact own_one2 h2
    refine wp_append_own w s x t ho base 35 i _ 2 48 ht hi1 hz hsz hby rfl (by decide) _ 0 [] hs (World.ownsRow_nil _ _ _ _) ⟨g, 0, none⟩ fs.length cap (cs.flatMap fun p => [p.1, p.2]) hx ho'.1 (fun j u hj => ?_) hone (by unfold maxLen; omega) (by omega) hb fun v' w' h2 h3 _ => ?_
    · rw [Addr.add_lit, Nat.zero_add]
      have hj2 : j < fs.length * 2 := by rw [← ho'.1]; exact (List.getElem?_eq_some_iff.1 hj).1
      rw [← htk, List.getElem?_take_of_lt hj2] at hj
      have : cur[j]? = some u := by simpa using hj
      simp [World.cell?, hg, this]
    · have hbl : Below w.heap.size w w' := ⟨h3.os, h3.tape, h3.output, h3.size, fun k hk => h3.block k hk (by simp [Value.ownBlock])⟩
      rw [List.nil_append, Nat.zero_add] at h2
      exact hK v' w' hbl ⟨cs, h2, hl, fun q hq => id, fun i f p hi hp => ⟨(hc i f p hi hp).1.below hbl, (hc i f p hi hp).2.below hbl⟩⟩
/-- The lists of facts, one for each act. -/
def NoteOwn (w : World) (base : Nat) (v : Value) (fss : List (List FactT)) : Prop :=
  ∃ cs : List Value, w.ownsRow base 31 1 v fss.length cs ∧ ∀ (i : Nat) (fs : List FactT) (u : Value), fss[i]? = some fs → cs[i]? = some u → RFactsOwn (fun _ => False) w base u fs
theorem NoteOwn.frm {A : Nat → Prop} {T : TypeId → Prop} {M : Nat → Prop} {w w' : World} {base : Nat} {v : Value} {fss : List (List FactT)} (h : NoteOwn w base v fss) (fr : Frm A T M w w') (h0 : ¬ T 31) (h1 : ¬ T 35) (h2 : ¬ T 25) : NoteOwn w' base v fss := by
  obtain ⟨cs, ho, hc⟩ := h
  exact ⟨cs, own_frm ho fr h0, fun i fs u hi hu => (hc i fs u hi hu).frm fr h1 h2⟩
theorem NoteOwn.below {w w' : World} {base : Nat} {v : Value} {fss : List (List FactT)} (h : NoteOwn w base v fss) (b : Below w.heap.size w w') : NoteOwn w' base v fss := h.frm (A := fun _ => False) (T := fun _ => False) (M := fun _ => False) (Frm.ofBelow b) id id id
theorem NoteOwn.slice {w : World} {base : Nat} {v : Value} {fss : List (List FactT)} (h : NoteOwn w base v fss) : ∃ ao c, v = .slice ao fss.length c := by
  obtain ⟨cs, ho, -⟩ := h
  rcases ho.2 with ⟨e, e0⟩ | ⟨g, cap, cur, rfl, -⟩
  · exact ⟨none, 0, by rw [e, e0]⟩
  · exact ⟨_, _, rfl⟩
theorem NoteOwn.get {w : World} {base : Nat} {v : Value} {fss : List (List FactT)} (h : NoteOwn w base v fss) {i : Nat} {fs : List FactT} (hi : fss[i]? = some fs) : ∃ g cap u, v = .slice (some ⟨g, 0, none⟩) fss.length cap ∧ w.cell? ⟨g, i, none⟩ = some u ∧ g < w.heap.size ∧ RFactsOwn (fun _ => False) w base u fs := by
  obtain ⟨cs, ho, hc⟩ := h
  have hlt : i < fss.length := (List.getElem?_eq_some_iff.1 hi).1
  obtain ⟨u, hu⟩ : ∃ u, cs[i]? = some u := ⟨cs[i]'(by rw [ho.1]; omega), List.getElem?_eq_getElem _⟩
  rcases ho.2 with ⟨e, e0⟩ | ⟨g, cap, cur, rfl, hbg, hg, hn, hm, hcs, htk⟩
  · omega
  · refine ⟨g, cap, u, rfl, ?_, lt_of_block hg, hc i fs u hi hu⟩
    rw [← htk, List.getElem?_take_of_lt (by omega)] at hu
    have : cur[i]? = some u := by simpa using hu
    simp [World.cell?, hg, this]
theorem RFactsOwn.get {w : World} {base : Nat} {v : Value} {fs : List FactT} (h : RFactsOwn (fun _ => False) w base v fs) {k : Nat} {f : FactT} (hk : fs[k]? = some f) : ∃ g cap x y, v = .slice (some ⟨g, 0, none⟩) fs.length cap ∧ w.rangeAt g (k * 2) [x, y] ∧ g < w.heap.size ∧ HashOwn w base 25 x f.ins ∧ HashOwn w base 25 y f.outs := by
  obtain ⟨cs, ho, hl, -, hc⟩ := h
  have hlt : k < fs.length := (List.getElem?_eq_some_iff.1 hk).1
  obtain ⟨p, hp⟩ : ∃ p, cs[k]? = some p := ⟨cs[k]'(by omega), List.getElem?_eq_getElem _⟩
  obtain ⟨e1, e2⟩ := pair_at cs k p hp
  rcases ho.2 with ⟨e, e0⟩ | ⟨g, cap, cur, rfl, hbg, hg, hn, hm, hcs, htk⟩
  · omega
  · have hcell : ∀ j u, (cs.flatMap fun p => [p.1, p.2])[j]? = some u → w.cell? ⟨g, j, none⟩ = some u := fun j u hj => by
      have hj2 : j < fs.length * 2 := by rw [← ho.1]; exact (List.getElem?_eq_some_iff.1 hj).1
      rw [← htk, List.getElem?_take_of_lt hj2] at hj
      have : cur[j]? = some u := by simpa using hj
      simp [World.cell?, hg, this]
    exact ⟨g, cap, p.1, p.2, rfl, range2 (hcell _ _ e1) (hcell _ _ e2), lt_of_block hg, hc k f p hk hp⟩
theorem Try.infoRS3 : (Try.prog.info? 31).map (fun i => (i.zero, i.size, i.bytes)) = some (some (.slice none 0 0), 1, 24) := by kernel_rfl
theorem Try.infoRS2 : (Try.prog.info? 31).map (fun i => (i.zero, i.size)) = some (some (.slice none 0 0), 1) := by kernel_rfl
/-- append of one act's facts. -/
theorem wpList_noteAdd {P : Program} {w : World} {ops : Array Oper} {rest : List Oper} {o : Oper} {a : Act} {Q : Exit → Act → World → Prop} (hgd : o.guard = none) (s x : Operand) (t : TypeId) (ho : o.op = .call { callee := .builtin .append, args := #[s, x], argTypes := #[t, t] }) (ht : P.underlying t = some (.slice 31))
    (hi : (P.info? 31).map (fun i => (i.zero, i.size, i.bytes)) = some (some (.slice none 0 0), 1, 24)) (base : Nat) (hb : base ≤ w.heap.size) (fss : List (List FactT)) (fs : List FactT) (v : Value) (hs : a.eval s = v) (hv : NoteOwn w base v fss) (u : Value) (g c : Nat) (hx : a.eval x = .slice (some ⟨g, 0, none⟩) 1 c) (e2 : TypeId) (hg : Blk w g #[u] e2) (hu : RFactsOwn (fun _ => False) w base u fs) (hn : fss.length ≤ 1000000)
    (hK : ∀ v' w', NoteOwn w' base v' (fss ++ [fs]) → Frm (fun _ => False) (fun t => t = 31) (fun _ => False) w w' → Below base w w' → wpList P ops Q rest (a.put o.dst v') w') : wpList P ops Q (o :: rest) a w := by
  refine wpList_plain hgd fun K hKK => ?_
  obtain ⟨cs, h4, h6⟩ := hv
  obtain ⟨i, hi1, hz, hsz, hby⟩ := info_parts hi
  obtain ⟨ao, c2, n2, eu⟩ : ∃ ao n c, u = .slice ao n c := by
    obtain ⟨ao, c, e, -⟩ := hu.at.slice
    exact ⟨_, _, _, e⟩
  refine wp_append_own w s x t ho base 31 i _ 1 24 ht hi1 hz hsz hby rfl (by decide) v _ _ hs h4 ⟨g, 0, none⟩ 1 c [u] hx rfl (fun j q hj => ?_) (fun q hq => ?_) (by unfold maxLen; omega) (by omega) hb fun v' w' g1 g2 _ => ?_
  · rw [Addr.add_lit, Nat.zero_add]
    exact hg.cell j q (by rw [← List.getElem?_toArray] at hj; exact hj)
  · rw [List.mem_singleton.1 hq, eu]; rfl
  have hfr : Frm (fun _ => False) (fun t => t = 31) (fun _ => False) w w' := Frm.grownOwn h4 g2 rfl (fun q hq => id)
  have hbl : Below base w w' := ⟨g2.os, g2.tape, g2.output, g2.size, fun k hk => g2.block k (Nat.lt_of_lt_of_le hk hb) (fun e => by have := (h4.lt k e.symm).1; omega)⟩
  have hT1 : ¬ ((35 : TypeId) = 31) := by decide
  have hT2 : ¬ ((25 : TypeId) = 31) := by decide
  refine hKK _ _ (hK v' w' ⟨cs ++ [u], by rw [List.length_append]; exact g1, fun i gs q hi hq => ?_⟩ hfr hbl)
  have hcl : cs.length = fss.length := by rw [h4.1, Nat.mul_one]
  by_cases hlt : i < fss.length
  · rw [List.getElem?_append_left hlt] at hi
    rw [List.getElem?_append_left (by omega)] at hq
    exact (h6 i gs q hi hq).frm hfr hT1 hT2
  · have e : i = fss.length := by
      have := (List.getElem?_eq_some_iff.1 hi).1
      simp at this; omega
    subst e
    obtain rfl : fs = gs := by simpa using hi
    rw [← hcl] at hq
    obtain rfl : u = q := by simpa using hq
    exact hu.frm hfr hT1 hT2
theorem wpList_bs0N {P : Program} {ops : Array Oper} {rest : List Oper} {o : Oper} {a : Act} {w : World} {Q : Exit → Act → World → Prop} (hgd : o.guard = none) (t e : TypeId) (ho : o.op = .buildSlice t 0 #[]) (hu : P.underlying t = some (.slice e)) (he : e = 31) (z : Value) (n : Nat) (hz : (P.info? e).map (fun i => (i.zero, i.size)) = some (some z, n)) (base : Nat) (hb : base ≤ w.heap.size)
    (hK : ∀ v w', Below w.heap.size w w' → NoteOwn w' base v [] → wpList P ops Q rest (a.put o.dst v) w') : wpList P ops Q (o :: rest) a w := by
  subst he
  refine wpList_plain hgd fun K hk => ?_
  cases hi : P.info? 31 with
  | none => simp [hi] at hz
  | some ie =>
    have hr : (Instr.buildSlice t 0 #[]).run P w = .ok (.slice (some ⟨w.heap.size, 0, none⟩) 0 0) (w.alloc (.cells #[] 31)) := by
      simp [Instr.buildSlice, run_underlying hu, sizeOf, typeInfo, hi, newRow, Instr.fill]
      rw [show Array.range 0 = #[] by kernel_rfl, Array.map_empty]
    unfold Oper.wp execOp
    simp only [ho, List.map_toArray, List.map_nil, Sem.run_bind, hr, Result.andThen_ok]
    refine hk _ _ (hK _ _ (below_alloc1 _ _) ⟨[], ⟨rfl, .inr ⟨w.heap.size, 0, #[], rfl, hb, heap_alloc_new w _, Nat.le_refl _, by unfold maxLen; omega, rfl, rfl⟩⟩, fun i fs u hi => by simp at hi⟩)
theorem HashOwn.two {w : World} {base q : Nat} {e : TypeId} {h k : HsT} (hg : Blk w q ((h ++ k).map bv).toArray e) (hh : h.length = 32) (hk : k.length = 32) (hb : base ≤ q) : HashOwn w base e (.slice (some ⟨q, 0, none⟩) 2 2) [h, k] :=
  ⟨fun x hx => by
    rcases List.mem_cons.1 hx with rfl | hx
    · exact hh
    · rw [List.mem_singleton.1 hx]; exact hk, by simp [hh, hk], .inr ⟨q, 2, ((h ++ k).map bv).toArray, rfl, hb, hg, Nat.le_refl _, by unfold maxLen; omega, by simp [hh, hk], by rw [List.take_of_length_le (by simp [hh, hk])]; simp⟩⟩
/-- From one world to the next, as long as an act is noted. -/
structure Tr (Bb : Nat) (o o' : Option BkSt) (w w' : World) : Prop where
  frm : BkFrm (fun _ => False) o w w'
  bel : Below Bb w w'
  bk : BkAt (fun _ => False) w Bb o' → BkAt (fun _ => False) w' Bb o'
theorem Tr.refl (Bb : Nat) (o o' : Option BkSt) (w : World) : Tr Bb o o' w w := ⟨BkFrm.refl _ _, Below.refl _ _, id⟩
theorem Tr.ofBelow {Bb : Nat} {o o' : Option BkSt} {w w' : World} (b : Below w.heap.size w w') (h : Bb ≤ w.heap.size) : Tr Bb o o' w w' := ⟨BkFrm.ofBelow b, b.mono h, fun k => k.below b⟩
theorem HashOwn.tr {Bb Bq : Nat} {o o' : Option BkSt} {w w' : World} {v : Value} {L : List HsT} (h : HashOwn w Bq 25 v L) (t : Tr Bb o o' w w') : HashOwn w' Bq 25 v L := h.frm t.frm (by unfold NT; decide)
theorem FactV.tr {Bb Bq : Nat} {o o' : Option BkSt} {w w' : World} {v : Value} {f : FactT} (h : FactV w Bq v f) (t : Tr Bb o o' w w') : FactV w' Bq v f := h.frm t.frm (by unfold NT; decide)
theorem RFactsOwn.tr {Bb Bq : Nat} {o o' : Option BkSt} {w w' : World} {v : Value} {fs : List FactT} (h : RFactsOwn (fun _ => False) w Bq v fs) (t : Tr Bb o o' w w') : RFactsOwn (fun _ => False) w' Bq v fs := h.frm t.frm (by unfold NT; decide) (by unfold NT; decide)
/-- What holds as long as an act is noted. -/
structure NS (N0 : Nat) (W0 : World) (Bb : Nat) (o o' : Option BkSt) (nv : Value) (fss : List (List FactT)) (bs : List (Nat × List Value × TypeId)) (y : World) : Prop where
  bk : BkAt (fun _ => False) y Bb o ∨ BkAt (fun _ => False) y Bb o'
  note : NoteOwn y Bb nv fss
  bel : Below N0 W0 y
  size : Bb ≤ y.heap.size
  blk : ∀ b ∈ bs, Blk y b.1 b.2.1.toArray b.2.2
section
variable {N0 : Nat} {W0 : World} {Bb : Nat} {o o' : Option BkSt} {nv : Value} {fss : List (List FactT)} {bs : List (Nat × List Value × TypeId)} {y y' : World}
theorem NS.below (h : NS N0 W0 Bb o o' nv fss bs y) (b : Below y.heap.size y y') (hN : N0 ≤ Bb) : NS N0 W0 Bb o o' nv fss bs y' :=
  ⟨h.bk.imp (fun k => k.below b) (fun k => k.below b), h.note.below b, h.bel.trans (b.mono (Nat.le_trans hN h.size)), Nat.le_trans h.size b.size, fun q hq => (h.blk q hq).below b (h.blk q hq).lt⟩
theorem NS.drew (h : NS N0 W0 Bb o o' nv fss bs y) (hN : N0 ≤ Bb) : NS N0 W0 Bb o o' nv fss bs y.drew := h.below (below_drewN (Below.refl _ _) 1) hN
theorem NS.tr (h : NS N0 W0 Bb o o' nv fss bs y) (t : Tr Bb o o' y y') (k : BkAt (fun _ => False) y' Bb o') (hN : N0 ≤ Bb) (hT : ∀ b ∈ bs, ¬ NT b.2.2) : NS N0 W0 Bb o o' nv fss bs y' :=
  ⟨.inr k, h.note.frm t.frm (by unfold NT; decide) (by unfold NT; decide) (by unfold NT; decide), h.bel.trans (t.bel.mono hN), Nat.le_trans h.size t.frm.size, fun q hq => (h.blk q hq).frm t.frm (hT q hq)⟩
theorem NS.mem (h : NS N0 W0 Bb o o' nv fss bs y) {g : Nat} {cs : List Value} {t : TypeId} (k : Nat) (hk : bs[k]? = some (g, cs, t)) : Blk y g cs.toArray t := h.blk _ (List.mem_of_getElem? hk)
theorem bkNote_idem (o : Option BkSt) (f : FactT) : bkNote (bkNote o f) f = bkNote o f := by
  cases o with
  | none => rfl
  | some s =>
    simp only [bkNote, Option.map_some, Option.some.injEq, BkSt.mk.injEq, true_and, and_true]
    unfold noteT
    split
    · rfl
    · rw [if_pos (.inr (by simp))]
/-- A call that notes. -/
theorem NS.call {f : FactT} {P : Program} {fn : FuncId} {args : Array Value} {r : Value} (ho : o' = bkNote o f) (hN : N0 ≤ Bb) (hT : ∀ b ∈ bs, ¬ NT b.2.2) (h : NS N0 W0 Bb o o' nv fss bs y)
    (C : ∀ q, (q = o ∨ q = o') → bkPtr q = bkPtr o → BkAt (fun _ => False) y Bb q → Calls P fn args y fun e w' => e = .returned r ∧ BkAt (fun _ => False) w' Bb (bkNote q f) ∧ BkFrm (fun _ => False) q y w' ∧ Below Bb y w') :
    Calls P fn args y fun e w' => e = .returned r ∧ BkAt (fun _ => False) w' Bb o' ∧ NS N0 W0 Bb o o' nv fss bs w' ∧ Tr Bb o o' y w' := by
  rcases h.bk with k | k
  · refine (C o (.inl rfl) rfl k).mono fun e w' ⟨h1, h2, h3, h4⟩ => ?_
    rw [← ho] at h2
    have t : Tr Bb o o' y w' := ⟨h3, h4, fun _ => h2⟩
    exact ⟨h1, h2, h.tr t h2 hN hT, t⟩
  · refine (C o' (.inr rfl) (by rw [ho, bkPtr_note]) k).mono fun e w' ⟨h1, h2, h3, h4⟩ => ?_
    have e2 : bkNote o' f = o' := by rw [ho]; exact bkNote_idem o f
    rw [e2] at h2
    have h5 : BkFrm (fun _ => False) o y w' := by
      rw [ho] at h3
      exact h3.note
    have t : Tr Bb o o' y w' := ⟨h5, h4, fun _ => h2⟩
    exact ⟨h1, h2, h.tr t h2 hN hT, t⟩
end
/-- What holds between the acts. -/
structure PNI (N0 : Nat) (W0 : World) (Bb : Nat) (bk sm nm dm : Nat) (nv : Value) (fss : List (List FactT)) (i : Nat) (y : World) : Prop where
  bk : BkAt (fun _ => False) y Bb (some ⟨bk, sm, nm, dm, fss.flatten.foldl noteT [], fun _ => none⟩)
  note : NoteOwn y Bb nv fss
  bel : Below N0 W0 y
  size : Bb ≤ y.heap.size
  len : fss.length = i
  small : ∀ f ∈ fss.flatten, FSmall f
  cnt : fss.flatten.length ≤ 3 * i
theorem PNI.fsb {N0 : Nat} {W0 : World} {Bb bk sm nm dm i : Nat} {nv : Value} {fss : List (List FactT)} {y : World} (h : PNI N0 W0 Bb bk sm nm dm nv fss i y) : FsB (fss.flatten.foldl noteT []) (3 * i) := by
  have := FsB.nil.fold h.small
  exact this.mono (by have := h.cnt; omega)
theorem PNI.room {N0 : Nat} {W0 : World} {Bb bk sm nm dm i : Nat} {nv : Value} {fss : List (List FactT)} {y : World} (h : PNI N0 W0 Bb bk sm nm dm nv fss i y) (hi : i ≤ 40) (k : Nat) (hk : k ≤ 10) : BkRoom k (some ⟨bk, sm, nm, dm, fss.flatten.foldl noteT [], fun _ => none⟩) :=
  h.fsb.room rfl (by omega) (by omega)
theorem PNI.roomN {N0 : Nat} {W0 : World} {Bb bk sm nm dm i : Nat} {nv : Value} {fss : List (List FactT)} {y : World} (h : PNI N0 W0 Bb bk sm nm dm nv fss i y) (hi : i ≤ 40) {f : FactT} (hf : FSmall f) : BkRoom 1 (some ⟨bk, sm, nm, dm, noteT (fss.flatten.foldl noteT []) f, fun _ => none⟩) :=
  (h.fsb.note hf).room rfl (by omega) (by omega)
theorem PNI.next {N0 : Nat} {W0 : World} {Bb bk sm nm dm i : Nat} {nv nv' : Value} {fss : List (List FactT)} {y y' : World} (h : PNI N0 W0 Bb bk sm nm dm nv fss i y) {F : List FactT} (hb : BkAt (fun _ => False) y' Bb (some ⟨bk, sm, nm, dm, F.foldl noteT (fss.flatten.foldl noteT []), fun _ => none⟩)) (hn : NoteOwn y' Bb nv' (fss ++ [F])) (hl : Below N0 W0 y') (hs : Bb ≤ y'.heap.size) (hF : ∀ f ∈ F, FSmall f) (h3 : F.length ≤ 3) : PNI N0 W0 Bb bk sm nm dm nv' (fss ++ [F]) (i + 1) y' := by
  have e : (fss ++ [F]).flatten = fss.flatten ++ F := by simp
  refine ⟨by rw [e, List.foldl_append]; exact hb, hn, hl, hs, by simp [h.len], ?_, ?_⟩
  · rw [e]
    intro f hf
    rcases List.mem_append.1 hf with hf | hf
    · exact h.small f hf
    · exact hF f hf
  · rw [e, List.length_append]
    have := h.cnt
    omega
theorem pairs1 {w : World} {base : Nat} {f1 : FactT} {x1 y1 : Value} (h1 : HashOwn w base 25 x1 f1.ins) (h2 : HashOwn w base 25 y1 f1.outs) (i : Nat) (f : FactT) (p : Value × Value) (hf : [f1][i]? = some f) (hp : [(x1, y1)][i]? = some p) : HashOwn w base 25 p.1 f.ins ∧ HashOwn w base 25 p.2 f.outs := by
  match i, hf, hp with
  | 0, hf, hp =>
    obtain rfl : f1 = f := by simpa using hf
    obtain rfl : (x1, y1) = p := by simpa using hp
    exact ⟨h1, h2⟩
theorem pairs3 {w : World} {base : Nat} {f1 f2 f3 : FactT} {x1 y1 x2 y2 x3 y3 : Value} (h1 : HashOwn w base 25 x1 f1.ins) (h2 : HashOwn w base 25 y1 f1.outs) (h3 : HashOwn w base 25 x2 f2.ins) (h4 : HashOwn w base 25 y2 f2.outs) (h5 : HashOwn w base 25 x3 f3.ins) (h6 : HashOwn w base 25 y3 f3.outs)
    (i : Nat) (f : FactT) (p : Value × Value) (hf : [f1, f2, f3][i]? = some f) (hp : [(x1, y1), (x2, y2), (x3, y3)][i]? = some p) : HashOwn w base 25 p.1 f.ins ∧ HashOwn w base 25 p.2 f.outs := by
  match i, hf, hp with
  | 0, hf, hp =>
    obtain rfl : f1 = f := by simpa using hf
    obtain rfl : (x1, y1) = p := by simpa using hp
    exact ⟨h1, h2⟩
  | 1, hf, hp =>
    obtain rfl : f2 = f := by simpa using hf
    obtain rfl : (x2, y2) = p := by simpa using hp
    exact ⟨h3, h4⟩
  | 2, hf, hp =>
    obtain rfl : f3 = f := by simpa using hf
    obtain rfl : (x3, y3) = p := by simpa using hp
    exact ⟨h5, h6⟩
theorem conv_off {w : World} {g off n : Nat} {l : List UInt8} (hn : l.length = n) (h : w.rangeAt g off (l.map bv)) : (convert 45 9 (.slice (some ⟨g, off, none⟩) n n)).run Try.prog w = .ok (.string (str l)) w := by
  subst hn
  exact run_convert_bytes_back (P := Try.prog) w 45 9 5 ⟨g, off, none⟩ l.length l Try.underlying45 Try.underlying5 Try.underlying9 (fun j hj => by
      rw [Addr.add_lit]
      refine h j _ ?_
      rw [List.getElem?_map, List.getElem?_eq_getElem hj]
      simp [bv, hj])
/-- A slice literal of one slice. -/
theorem wpList_bs1S {P : Program} {ops : Array Oper} {rest : List Oper} {o : Oper} {a : Act} {w : World} {Q : Exit → Act → World → Prop} (hgd : o.guard = none) (t e : TypeId) (x : Operand) (ho : o.op = .buildSlice t 1 #[(0, x)])
    (u : Value) (hx : a.eval x = u) (h1 : u.cells = #[u]) (hu : P.underlying t = some (.slice e)) (z : Value) (hz : (P.info? e).map (fun i => (i.zero, i.size)) = some (some z, 1))
    (hK : ∀ g w', Below w.heap.size w w' → Blk w' g #[u] e → wpList P ops Q rest (a.put o.dst (.slice (some ⟨g, 0, none⟩) 1 1)) w') : wpList P ops Q (o :: rest) a w := by
  refine wpList_plain hgd fun _ hk => ?_
  cases hi : P.info? e with
  | none => simp [hi] at hz
  | some ie =>
    simp [hi] at hz
    obtain ⟨hz1, hz2⟩ := hz
    refine Go.wp_buildSlice t e 1 #[(0, x)] ho #[u] ie z hu hi hz1 (by rw [hz2]; omega) (by rw [hz2]; omega) ?_ (hk _ _ (hK _ _ (below_alloc1 _ _) (Blk.new _ _ _)))
    have e1 : (#[(0, x)].map fun (i, x) => (i, a.eval x)).toList = (([u].zipIdx 0).map fun x => (x.2, x.1)) := by simp [hx]
    rw [e1, hz2, Go.Great.fill_whole (by omega) [u] _ (by simp [h1]) (by simp)]
    simp [h1]
theorem Below.ofFrm {T : TypeId → Prop} {M : Nat → Prop} {n base : Nat} {w w' : World} (b : Below base w w') (f : Frm (fun q => q < n) T M w w') (hn : n ≤ w.heap.size) : Below n w w' :=
  ⟨b.os, b.tape, b.output, f.size, fun k hk => by
    have hlt : k < w.heap.size := Nat.lt_of_lt_of_le hk hn
    rw [f.2 k _ hk (Array.getElem?_eq_getElem hlt), Array.getElem?_eq_getElem hlt]⟩
theorem small_fsb {l : List FactT} {n : Nat} (h : ∀ f ∈ l, FSmall f) (hn : l.length ≤ n) : FsB (l.foldl noteT []) n := by
  have := FsB.nil.fold h
  exact this.mono (by omega)
theorem flat_take {α : Type} (l : List (List α)) (i : Nat) (x : List α) (h : l[i]? = some x) : (l.take (i + 1)).flatten = (l.take i).flatten ++ x := by
  rw [List.take_add_one, h]
  simp
theorem flat_mem {α : Type} {l : List (List α)} {i k : Nat} {x : List α} (h : l[i]? = some x) {f : α} (hf : f ∈ (l.take i).flatten ++ x.take k) : f ∈ l.flatten := by
  rcases List.mem_append.1 hf with hf | hf
  · obtain ⟨y, hy, hf⟩ := List.mem_flatten.1 hf
    exact List.mem_flatten.2 ⟨y, List.mem_of_mem_take hy, hf⟩
  · exact List.mem_flatten.2 ⟨x, List.mem_of_getElem? h, List.mem_of_mem_take hf⟩
theorem flat_len {α : Type} {l : List (List α)} {i k : Nat} {x : List α} (h : l[i]? = some x) : ((l.take i).flatten ++ x.take k).length ≤ l.flatten.length := by
  have h1 : (l.take i ++ l.drop i).flatten.length = l.flatten.length := by rw [List.take_append_drop]
  have h2 : l.drop i = x :: l.drop (i + 1) := by
    obtain ⟨hlt, e⟩ := List.getElem?_eq_some_iff.1 h
    rw [List.drop_eq_getElem_cons hlt, e]
  rw [h2, List.flatten_append, List.flatten_cons] at h1
  rw [List.length_append, List.length_append] at h1
  rw [List.length_append, List.length_take]
  omega
theorem RFactsOwn.slice9 {A : Nat → Prop} {w : World} {base : Nat} {v : Value} {fs : List FactT} (h : RFactsOwn A w base v fs) : ∃ ao c, v = .slice ao fs.length c := by
  obtain ⟨ao, c, e, -⟩ := h.at.slice
  exact ⟨_, _, e⟩
end Go.Proofs.Ytjlpdbaknhbgdaa
