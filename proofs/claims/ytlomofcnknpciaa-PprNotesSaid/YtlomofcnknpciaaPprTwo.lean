/-
  ppr, with a book: what the two laws carry from step to step: the row, the document's row, the places taken, the keys, the book.
-/
import Derived.Test.YtlomofcnknpciaaPprTakeBk
import Derived.Test.YtlomofcnknpciaaPprFacts
import Derived.Test.YtlomofcnknpciaaPprRowS
import Derived.Test.YtlomofcnknpciaaBookSmall
import Derived.Laws.AppendOwnNone
set_option linter.unusedSimpArgs false
set_option linter.unusedVariables false
namespace Go.Proofs.Ytlomofcnknpciaa
open Go.RowKit

theorem TakeFrm.frm {A : Nat → Prop} {o : Option BkSt} {Bb r : Nat} {w w' : World} {cs : Array Value} (f : TakeFrm A o Bb r w w') (hr : Blk w r cs 138) : Frm (fun q => A q ∧ q ≠ r) (fun t => NT t ∨ t = 138) (bkMaps o) w w' := by
  refine ⟨⟨f.size, fun q ob h1 h2 h3 => ?_⟩, fun q ob ha h1 => f.own q ob ha.2 (.inl ha.1) h1⟩
  by_cases hq : q = r
  · subst hq
    rw [hr] at h1
    obtain rfl := Option.some.inj h1
    exact absurd (.inr rfl) (h2 _ _ _ rfl)
  · exact f.typ q ob hq h1 (fun cs t fz e hn => h2 cs t fz e (.inl hn)) h3
theorem TakeFrm.below {A : Nat → Prop} {o : Option BkSt} {Bb r b : Nat} {w w' : World} (f : TakeFrm A o Bb r w w') (h1 : b ≤ Bb) (h2 : b ≤ r) (h3 : Bb ≤ w.heap.size) : Below b w w' :=
  ⟨f.b0.os, f.b0.tape, f.b0.output, f.b0.size, fun k hk => by
    have hlt : k < w.heap.size := by omega
    exact (f.own k _ (by omega) (.inr (by omega)) (Array.getElem?_eq_getElem hlt)).trans (Array.getElem?_eq_getElem hlt).symm⟩
theorem BkAt.storeO {A : Nat → Prop} {w w' : World} {B : Nat} {o : Option BkSt} {row : Option Nat} (h : BkAt A w B o) (g : w.grownBy w' row) (hr : ∀ q, row = some q → A q) : BkAt A w' B o := by
  cases row with
  | some q => exact h.store (hr q rfl) g
  | none => exact h.frm (A' := fun _ => False) (T := fun _ => False) (Frm.grownNone g) ⟨id, id, id, id⟩
structure PSt (A : Nat → Prop) (w : World) (base Bb r M B : Nat) (root : List UInt8) (rt : List Sd) (tk : List Nat) (ks : List HsT) (tv vk : Value) (s : BkSt) (wr : World) : Prop where
  row : ∃ v, Blk wr r #[.int .i64 B, v] 138 ∧ SeedsAt wr v rt ∧ ∀ q, v.ownBlock = some q → A q ∧ tv.ownBlock ≠ some q ∧ vk.ownBlock ≠ some q
  ar : A r
  m : Blk wr M (rcells root B tv).toArray 33
  mA : ¬ A M
  ints : wr.ownsRow base 3 1 tv tk.length (ints tk)
  keys : HashOwn wr base 23 vk ks
  atv : ∀ q, tv.ownBlock = some q → A q
  akv : ∀ q, vk.ownBlock = some q → A q
  aw : ∀ q, A q → q < wr.heap.size
  bk : BkAt A wr Bb (some s)
  bel : Below base w wr
  bb : base ≤ Bb
  br : base ≤ r
  bm : base ≤ M
section PS
variable {A : Nat → Prop} {w : World} {base Bb r M B : Nat} {root : List UInt8} {rt : List Sd} {tk : List Nat} {ks : List HsT} {tv vk : Value} {s : BkSt} {wr : World}
theorem PSt.bs (h : PSt A w base Bb r M B root rt tk ks tv vk s wr) : Bb ≤ wr.heap.size := BkAt.le h.bk
theorem PSt.bsize (h : PSt A w base Bb r M B root rt tk ks tv vk s wr) : base ≤ wr.heap.size := Nat.le_trans h.bb h.bs
theorem PSt.rowAt (h : PSt A w base Bb r M B root rt tk ks tv vk s wr) : RowAt wr r B rt := by
  obtain ⟨v, h1, h2, h3⟩ := h.row
  exact ⟨v, h1, h2⟩
theorem PSt.rowIn (h : PSt A w base Bb r M B root rt tk ks tv vk s wr) : RowIn A wr r B := by
  obtain ⟨v, h1, h2, h3⟩ := h.row
  refine ⟨h.ar, fun v' h4 q hq => ?_⟩
  obtain rfl := slot_eq h1 h4
  exact (h3 q hq).1
theorem PSt.intsA (h : PSt A w base Bb r M B root rt tk ks tv vk s wr) : IntsA wr tv tk := IntsA.own h.ints
theorem PSt.below {wr' : World} (h : PSt A w base Bb r M B root rt tk ks tv vk s wr) (b : Below wr.heap.size wr wr') : PSt A w base Bb r M B root rt tk ks tv vk s wr' := by
  obtain ⟨v, h1, h2, h3⟩ := h.row
  exact ⟨⟨v, h1.below b h1.lt, h2.below b, h3⟩, h.ar, h.m.below b h.m.lt, h.mA, own_below h.ints b, h.keys.below b, h.atv, h.akv, fun q hq => Nat.lt_of_lt_of_le (h.aw q hq) b.size, h.bk.below b, h.bel.trans (b.mono h.bsize), h.bb, h.br, h.bm⟩
theorem PSt.drew (h : PSt A w base Bb r M B root rt tk ks tv vk s wr) : PSt A w base Bb r M B root rt tk ks tv vk s wr.drew := h.below (below_drewN (Below.refl _ _) 1)
/-- What writes in other types leaves all. -/
theorem PSt.frm {T : TypeId → Prop} {Mp : Nat → Prop} {wr' : World} {s' : BkSt} (h : PSt A w base Bb r M B root rt tk ks tv vk s wr) (f : Frm A T Mp wr wr') (b : Below base wr wr') (hT : ¬ T 33) (k : BkAt A wr' Bb (some s')) : PSt A w base Bb r M B root rt tk ks tv vk s' wr' := by
  obtain ⟨v, h1, h2, h3⟩ := h.row
  exact ⟨⟨v, h1.agr f h.ar, h2.agr f (fun q hq => (h3 q hq).1), h3⟩, h.ar, h.m.frm f hT, h.mA, own_agr h.ints f h.atv, h.keys.agr f h.akv, h.atv, h.akv, fun q hq => Nat.lt_of_lt_of_le (h.aw q hq) f.size, k, h.bel.trans b, h.bb, h.br, h.bm⟩
theorem PSt.look {wr' : World} {s' : BkSt} (h : PSt A w base Bb r M B root rt tk ks tv vk s wr) (k : BkAt A wr' Bb (some s')) (f : BkFrm A (some s) wr wr') (b : Below Bb wr wr') : PSt A w base Bb r M B root rt tk ks tv vk s' wr' :=
  h.frm f (b.mono h.bb) (by unfold NT; decide) k
theorem PSt.take {A' : Nat → Prop} {wr' : World} {s' : BkSt} {rt' : List Sd} (h : PSt A w base Bb r M B root rt tk ks tv vk s wr) (hR : RowAt wr' r B rt') (f : TakeFrm A (some s) Bb r wr wr') (mv : RowMove wr wr' r B)
    (h1 : ∀ q, A q → A' q) (h2 : ∀ q, A' q → A q ∨ wr.heap.size ≤ q) (h3 : ∀ q, A' q → q < wr'.heap.size) (h4 : BkAt A' wr' Bb (some s')) (h5 : RowIn A' wr' r B) : PSt A' w base Bb r M B root rt' tk ks tv vk s' wr' := by
  obtain ⟨v, g1, g2, g3⟩ := h.row
  obtain ⟨v', e1, e2⟩ := hR
  have ff := f.frm g1
  refine ⟨⟨v', e1, e2, fun q hq => ?_⟩, h1 r h.ar, h.m.frm ff (by unfold NT; decide), fun ha => (h2 M ha).elim h.mA (fun e => by have := h.m.lt; omega), own_agr h.ints ff (fun q hq => ⟨h.atv q hq, fun e => own_ne h.ints g1 (by decide) (e ▸ hq)⟩), h.keys.frm ff (by unfold NT; decide), fun q hq => h1 q (h.atv q hq), fun q hq => h1 q (h.akv q hq), h3, h4, h.bel.trans (f.below h.bb h.br h.bs), h.bb, h.br, h.bm⟩
  refine ⟨h5.2 v' e1 q hq, fun e => ?_, fun e => ?_⟩
  · rcases mv v v' g1 e1 q hq with h6 | h6
    · exact (g3 q h6).2.1 e
    · have := h.aw q (h.atv q e); omega
  · rcases mv v v' g1 e1 q hq with h6 | h6
    · exact (g3 q h6).2.2 e
    · have := h.aw q (h.akv q e); omega
/-- A key more. -/
theorem PSt.addKey {wr' : World} {vk' : Value} {ks' : List HsT} (h : PSt A w base Bb r M B root rt tk ks tv vk s wr) (hk : HashOwn wr' base 23 vk' ks') (g : wr.grownBy wr' vk.ownBlock) (hq : ∀ q, vk'.ownBlock = some q → vk.ownBlock = some q ∨ wr.heap.size ≤ q) :
    PSt (fun q => A q ∨ vk'.ownBlock = some q) w base Bb r M B root rt tk ks' tv vk' s wr' := by
  obtain ⟨v, g1, g2, g3⟩ := h.row
  have f : Frm (fun _ => False) (fun t => t = 23) (fun _ => False) wr wr' := Frm.grownOwn h.keys.2 g rfl (fun q hq ha => ha)
  have hA2 : ∀ q, (A q ∨ vk'.ownBlock = some q) → A q ∨ wr.heap.size ≤ q := fun q hq' => hq'.elim .inl (fun e => (hq q e).imp (h.akv q) id)
  refine ⟨⟨v, g1.frm f (by decide), g2.grown g (fun q hv e => (g3 q hv).2.2 (by rw [← e])), fun q hv => ⟨.inl (g3 q hv).1, (g3 q hv).2.1, fun e => ?_⟩⟩, .inl h.ar, h.m.frm f (by decide), fun ha => (hA2 M ha).elim h.mA (fun e => by have := h.m.lt; omega), own_frm h.ints f (by decide), hk, fun q e => .inl (h.atv q e), fun q e => .inr e, fun q ha => ?_, (h.bk.widen hA2).storeO g (fun q e => .inl (h.akv q e)), h.bel.grown g h.bsize (fun q e => (h.keys.2.lt q e).1), h.bb, h.br, h.bm⟩
  · rcases hq q e with h6 | h6
    · exact (g3 q hv).2.2 h6
    · have := h.aw q (g3 q hv).1; omega
  · rcases ha with ha | ha
    · exact Nat.lt_of_lt_of_le (h.aw q ha) g.size
    · exact (hk.2.lt q ha).2
/-- A taken place more: appended, and stored into the document's row. -/
theorem PSt.addTaken {wr2 wr3 : World} {tv' : Value} {x : Nat} (h : PSt A w base Bb r M B root rt tk ks tv vk s wr) (ho : wr2.ownsRow base 3 1 tv' (tk ++ [x]).length (Go.Proofs.Ytlomofcnknpciaa.ints (tk ++ [x]))) (g : wr.grownBy wr2 tv.ownBlock) (hq : ∀ q, tv'.ownBlock = some q → tv.ownBlock = some q ∨ wr.heap.size ≤ q)
    (hM : Blk wr3 M (rcells root B tv').toArray 33) (gS : wr2.grownBy wr3 (some M)) :
    PSt (fun q => A q ∨ tv'.ownBlock = some q) w base Bb r M B root rt (tk ++ [x]) ks tv' vk s wr3 := by
  obtain ⟨v, g1, g2, g3⟩ := h.row
  have f : Frm (fun _ => False) (fun t => t = 3) (fun _ => False) wr wr2 := Frm.grownOwn h.ints g rfl (fun q hq ha => ha)
  have f2 : Frm (fun _ => False) (fun t => t = 33) (fun _ => False) wr2 wr3 := Frm.grownBlk (h.m.frm f (by decide)) gS rfl id
  have hA2 : ∀ q, (A q ∨ tv'.ownBlock = some q) → A q ∨ wr.heap.size ≤ q := fun q hq' => hq'.elim .inl (fun e => (hq q e).imp (h.atv q) id)
  have hM0 : ¬ (A M ∨ tv'.ownBlock = some M) := fun ha => (hA2 M ha).elim h.mA (fun e => by have := h.m.lt; omega)
  refine ⟨⟨v, (g1.frm f (by decide)).frm f2 (by decide), (g2.grown g (fun q hv e => (g3 q hv).2.1 (by rw [← e]))).grown gS (fun q hv e => h.mA (by obtain rfl := Option.some.inj e; exact (g3 _ hv).1)), fun q hv => ⟨.inl (g3 q hv).1, fun e => ?_, (g3 q hv).2.2⟩⟩, .inl h.ar, hM, hM0, own_frm ho f2 (by decide), (h.keys.frm f (by decide)).frm f2 (by decide), fun q e => .inr e, fun q e => .inl (h.akv q e), fun q ha => ?_, ((h.bk.widen hA2).storeO g (fun q e => .inl (h.atv q e))).frm f2 ⟨by decide, by decide, by decide, by decide⟩, (h.bel.grown g h.bsize (fun q e => (h.ints.lt q e).1)).grown gS (Nat.le_trans h.bsize g.size) (fun q e => by obtain rfl := Option.some.inj e; exact h.bm), h.bb, h.br, h.bm⟩
  · rcases hq q e with h6 | h6
    · exact (g3 q hv).2.1 h6
    · have := h.aw q (g3 q hv).1; omega
  · rcases ha with ha | ha
    · exact Nat.lt_of_lt_of_le (h.aw q ha) (Nat.le_trans g.size gS.size)
    · exact Nat.lt_of_lt_of_le (ho.lt q ha).2 gS.size
end PS
/-- Few facts, each of few secrets. -/
structure FsOk (fs : List FactT) (n : Nat) : Prop where
  ok : ∀ f ∈ fs, FOk f
  len : fs.length ≤ n
  ins : (fs.flatMap (·.ins)).length ≤ n
  outs : (fs.flatMap (·.outs)).length ≤ 2 * n
theorem FsOk.nil : FsOk [] 0 := ⟨fun f h => (by cases h), by simp, by simp, by simp⟩
theorem FsOk.mono {fs : List FactT} {n m : Nat} (h : FsOk fs n) (hm : n ≤ m) : FsOk fs m := ⟨h.ok, Nat.le_trans h.len hm, Nat.le_trans h.ins hm, by have := h.outs; omega⟩
theorem FsOk.note {fs : List FactT} {n : Nat} {f : FactT} (h : FsOk fs n) (hf : FOk f) (h1 : f.ins.length ≤ 1) (h2 : f.outs.length ≤ 2) : FsOk (noteT fs f) (n + 1) := by
  refine ⟨noteT_ok h.ok hf, ?_, ?_, ?_⟩
  · have := noteT_len1 fs f; have := h.len; omega
  · have := noteT_ins fs f; have := h.ins; omega
  · have : ((noteT fs f).flatMap (·.outs)).length ≤ (fs.flatMap (·.outs)).length + f.outs.length := by
      unfold noteT
      split
      · omega
      · rw [List.flatMap_append, List.length_append]; simp
    have := h.outs; omega
theorem FsOk.fold {l : List FactT} : ∀ {fs : List FactT} {n : Nat}, FsOk fs n → (∀ f ∈ l, FOk f ∧ f.ins.length ≤ 1 ∧ f.outs.length ≤ 2) → FsOk (l.foldl noteT fs) (n + l.length) := by
  induction l with
  | nil => intro fs n h _; exact h
  | cons f l ih =>
    intro fs n h hl
    have hf := hl f (List.mem_cons_self ..)
    have := ih (h.note hf.1 hf.2.1 hf.2.2) (fun g hg => hl g (List.mem_cons_of_mem _ hg))
    rw [List.foldl_cons, List.length_cons]
    exact this.mono (by omega)
theorem FsOk.univLe {fs : List FactT} {n : Nat} (h : FsOk fs n) {a : List HsT} (ha : a.length ≤ 100000) (hn : n ≤ 100000) : (univ fs a).length ≤ 500000 := by
  have := h.outs
  unfold univ
  rw [List.length_append]
  omega
theorem FsOk.room {fs : List FactT} {n k : Nat} {s : BkSt} (h : FsOk fs n) (hs : s.fs = fs) (hn : n ≤ 100000) (hk : k ≤ 100000) : BkRoom k (some s) := by
  have h1 := h.len
  have h2 := h.ins
  rw [← hs] at h1 h2
  exact ⟨by omega, by omega⟩
theorem factAt_small {root : List UInt8} (B p lv : Nat) (h : root.length = 32) : FOk (factAt root B p lv) ∧ (factAt root B p lv).ins.length ≤ 1 ∧ (factAt root B p lv).outs.length ≤ 2 := by
  refine ⟨factAt_ok B p lv h, ?_, ?_⟩ <;> (rw [factAt]; split <;> simp)
theorem factsT_small {root : List UInt8} (B : Nat) (tk : List Nat) (p : Nat) (h : root.length = 32) : ∀ f ∈ factsT root B tk p, FOk f ∧ f.ins.length ≤ 1 ∧ f.outs.length ≤ 2 := factsK_all root B tk p (fun lv => factAt_small B p lv h) _
theorem bkNotes_some : ∀ (l : List FactT) (s : BkSt), bkNotes (some s) l = some { s with fs := l.foldl noteT s.fs }
  | [], s => rfl
  | f :: l, s => by
    show bkNotes (bkNote (some s) f) l = _
    exact bkNotes_some l { s with fs := noteT s.fs f }
end Go.Proofs.Ytlomofcnknpciaa
set_option linter.unusedSimpArgs false
set_option linter.unusedVariables false
namespace Go.Proofs.Ytlomofcnknpciaa
open Go.RowKit

set_option maxHeartbeats 4000000 in
set_option maxRecDepth 100000 in
theorem New6B_calls (a : List UInt8) (B : Nat) (w : World) (ha : a.length = 32) (h1 : 1 ≤ B) (h2 : B ≤ 32) :
    Calls Try.prog 18 #[.agg (a.map bv).toArray, .int .i64 B] w fun e w' => ∃ r v, e = .returned (.tuple #[.pointer (some ⟨r, 0, none⟩), .int .i64 0]) ∧ w.heap.size ≤ r ∧ Blk w' r #[.int .i64 B, v] 138 ∧ SeedsAt w' v [⟨0, 0, a⟩] ∧ (∀ q, v.ownBlock = some q → w.heap.size ≤ q) ∧ Below w.heap.size w w' := by
  have HA := Lib.hid ha
  clear ha
  have hA0 : Blk (w.alloc (.cells (a.map bv).toArray 23)) w.heap.size (a.map bv).toArray 23 := Blk.new _ _ _
  have hb0 : Below w.heap.size w (w.alloc (.cells (a.map bv).toArray 23)) := (Below.refl _ _).alloc (Nat.le_refl _) _
  have hs0 : (w.alloc (.cells (a.map bv).toArray 23)).heap.size = w.heap.size + 1 := by simp
  have hd1 : decide ((B : Int) < 1) = false := by simp; omega
  have hd2 : decide ((32 : Int) < (B : Int)) = false := by simp; omega
  go_enter Try.func18, Try.ntmps18
  go_wp2_with (first | ((with_reducible show wpList _ _ _ (⟨some 13, _, _, _, _, _⟩ :: _) _ _); refine wpList_loadBlk rfl 23 (.tmp 2) rfl w.heap.size (by rfl) _ _ _ hA0 Try.underlying23 rfl (by rw [bv_size, HA.out]; exact Try.sizeHash) ?_) | ((with_reducible show wpList _ _ _ (⟨some 14, _, _, _, _, _⟩ :: _) _ _); refine wpList_buildCells rfl 135 #[(2, .tmp 13)] rfl _ (Try.builtSeed0 a HA.out) ?_) | ((with_reducible show wpList _ _ _ (⟨some 15, _, _, _, _, _⟩ :: _) _ _); refine wpList_bsOne rfl 136 135 (.tmp 14) rfl (Sd.cells ⟨0, 0, a⟩).toArray (by rfl) Try.underlying136 _ 34 Try.zsSeed (by rw [List.size_toArray]; exact Sd.cells_len _ HA.out) (by omega) (by omega) ?_) | ((with_reducible show wpList _ _ _ (⟨some 16, _, _, _, _, _⟩ :: _) _ _); refine wpList_buildCells rfl 138 #[(0, .tmp 12), (1, .tmp 15)] rfl _ (by kernel_rfl) ?_))
  go_returns
  generalize w.alloc (.cells (a.map bv).toArray 23) = W0 at hA0 hb0 hs0 ⊢
  have hb := (Blk.new W0 (Sd.cells ⟨0, 0, a⟩).toArray 135).alloc (.cells #[.int .i64 B, .slice (some ⟨w.heap.size + 1, 0, none⟩) 1 1] 138)
  rw [hs0] at hb
  refine ⟨w.heap.size + 1 + 1, _, rfl, by omega, Blk.newAt (by simp [hs0]), ?_, (fun q hq => by simp [Value.ownBlock] at hq; omega), (hb0.alloc hb0.size _).alloc (by simp; omega) _⟩
  refine ⟨by simp [HA.out], .inr ⟨w.heap.size + 1, 1, rfl, Nat.le_refl _, by simp [hs0], fun j u hj => ?_⟩⟩
  rw [List.flatMap_cons, List.flatMap_nil, List.append_nil] at hj
  exact hb.cell j u (by rw [List.getElem?_toArray]; exact hj)
theorem wpList_append_hsP {P : Program} {ops : Array Oper} {rest : List Oper} {o : Oper} {a : Act} {w : World} {Q : Exit → Act → World → Prop} (hgd : o.guard = none) (s x : Operand) (t : TypeId)
    (ho : o.op = .call { callee := .builtin .append, args := #[s, x], argTypes := #[t, t] }) (base : Nat) (e : TypeId) (ht : P.underlying t = some (.slice e)) (hi : P.info? e = P.info? e ∧ (P.info? e).map (fun i => (i.zero, i.size, i.bytes)) = some (some (.agg Z32), 32, 32))
    (v : Value) (L L2 : List (List UInt8)) (hs : a.eval s = v) (hown : HashOwn w base e v L) (v2 : Value) (hx : a.eval x = v2) (h2 : HashesAt w v2 L2) (hn : L.length + L2.length ≤ 1000000) (hbase : base ≤ w.heap.size)
    (hK : ∀ v' w', HashOwn w' base e v' (L ++ L2) → w.grownBy w' v.ownBlock → (∀ q, v'.ownBlock = some q → v.ownBlock = some q ∨ w.heap.size ≤ q) → wpList P ops Q rest (a.put o.dst v') w') : wpList P ops Q (o :: rest) a w := by
  obtain ⟨i, hi1, hz, hsz, hby⟩ := info_parts hi.2
  have e1 : (L ++ L2).flatMap (·.map bv) = L.flatMap (·.map bv) ++ L2.flatMap (·.map bv) := by simp
  have hfl : ∀ l : List (List UInt8), (∀ h ∈ l, h.length = 32) → (l.flatMap (·.map bv)).length = l.length * 32 := fun l hl => by
    induction l with
    | nil => rfl
    | cons q l ih => rw [List.flatMap_cons, List.length_append, List.length_map, hl q List.mem_cons_self, ih (fun h hh => hl h (List.mem_cons_of_mem _ hh)), List.length_cons]; omega
  have hone : ∀ u ∈ L2.flatMap (·.map bv), u.oneCell' = true := fun u hu => by
    obtain ⟨q, _, hq⟩ := List.mem_flatMap.1 hu
    exact bs_one q u hq
  have h32 : ∀ q ∈ L ++ L2, q.length = 32 := fun q hq => by
    rcases List.mem_append.1 hq with hq | hq
    · exact hown.1 q hq
    · exact h2.1 q hq
  rcases h2.2 with ⟨rfl, ao, rfl⟩ | ⟨g, o', c, rfl, hc, hlt, hcell⟩
  · cases ao with
    | none =>
      refine wpList_append_own_none hgd s x t ho base e i 32 ht hi1 v _ _ hs hown.2 hx (hK v w (by rw [List.append_nil]; exact hown) (World.grownBy.refl _ _) (fun q h => .inl h))
    | some ad =>
      refine wpList_plain hgd fun K hk => wp_append_own3 s x t ho base e i (.agg Z32) 32 32 ht hi1 hz hsz hby rfl (by decide) v _ _ hs hown.2 ad 0 0 [] hx (by simp) (fun j u hj => by simp at hj) (fun u hu => by cases hu) (by unfold maxLen; omega) (by omega) hbase fun v' w' g2 g3 g4 => hk _ _ (hK v' w' ⟨h32, ?_⟩ g3 g4)
      rw [List.append_nil] at g2 ⊢
      exact g2
  · refine wpList_plain hgd fun K hk => wp_append_own3 s x t ho base e i (.agg Z32) 32 32 ht hi1 hz hsz hby rfl (by decide) v _ _ hs hown.2 ⟨g, o', none⟩ L2.length c (L2.flatMap (·.map bv)) hx (hfl L2 h2.1) (fun j u hj => by rw [Addr.add_mid]; exact hcell j u hj) hone (by unfold maxLen; omega) (by omega) hbase fun v' w' g2 g3 g4 => hk _ _ (hK v' w' ⟨h32, ?_⟩ g3 g4)
    rw [e1, List.length_append]
    exact g2
/-- A slice literal of one number. -/
theorem wp_bsInt {P : Program} {o : Oper} {a : Act} {w : World} {K : Act → World → Prop} {Q : Exit → Act → World → Prop} (t : TypeId) {e : TypeId} (x : Operand) (ho : o.op = .buildSlice t 1 #[(0, x)])
    (n : Int) (hx : a.eval x = .int .i64 n) (hu : P.underlying t = some (.slice e)) (hz : (P.info? e).map (fun i => (i.zero, i.size)) = some (some (.int .i64 0), 1))
    (h : K (a.put o.dst (.slice (some ⟨w.heap.size, 0, none⟩) 1 1)) (w.alloc (.cells #[.int .i64 n] e))) : o.wp P a w K Q := by
  cases hi : P.info? e with
  | none => simp [hi] at hz
  | some ie =>
    simp [hi] at hz
    obtain ⟨hz1, hz2⟩ := hz
    refine Go.wp_buildSlice t e 1 #[(0, x)] ho #[.int .i64 n] ie (.int .i64 0) hu hi hz1 (by rw [hz2]; omega) (by rw [hz2]; omega) ?_ h
    have e1 : (#[(0, x)].map fun (i, x) => (i, a.eval x)).toList = (([Value.int .i64 n].zipIdx 0).map fun x => (x.2, x.1)) := by simp [hx]
    rw [e1, hz2, Go.Great.fill_whole (by omega) [Value.int .i64 n] _ (by simp [Value.cells]) (by simp)]
    simp [Value.cells]
theorem wp_append_placeP {o : Oper} {a : Act} {w : World} {K : Act → World → Prop} {Q : Exit → Act → World → Prop} (s x : Operand)
    (ho : o.op = .call { callee := .builtin .append, args := #[s, x], argTypes := #[24, 24] }) (base : Nat) (v : Value) (tk : List Nat) (hs : a.eval s = v) (hown : w.ownsRow base 3 1 v tk.length (ints tk))
    (g c q : Nat) (hx : a.eval x = .slice (some ⟨g, 0, none⟩) 1 c) (hc : w.cell? ⟨g, 0, none⟩ = some (.int .i64 (q : Int))) (hn : tk.length ≤ 1000000) (hbase : base ≤ w.heap.size)
    (h : ∀ v' w', w'.ownsRow base 3 1 v' (tk ++ [q]).length (ints (tk ++ [q])) → w.grownBy w' v.ownBlock → (∀ q, v'.ownBlock = some q → v.ownBlock = some q ∨ w.heap.size ≤ q) → K (a.put o.dst v') w') : o.wp Try.prog a w K Q := by
  obtain ⟨i, hi, hz, hsz, hby⟩ := info_parts Try.infoInt
  refine wp_append_own3 s x 24 ho base 3 i (.int .i64 0) 1 8 Try.underlying24 hi hz hsz hby rfl (by decide) v _ _ hs hown ⟨g, 0, none⟩ 1 c [.int .i64 (q : Int)] hx rfl (fun j u hj => ?_) (by simp; rfl) (by unfold maxLen; omega) (by omega) hbase fun v' w' h1 h2 h3 => ?_
  · have hlt := (List.getElem?_eq_some_iff.1 hj).1
    obtain rfl : j = 0 := by simp at hlt; omega
    obtain rfl : Value.int .i64 (q : Int) = u := by simpa using hj
    rw [Addr.add_lit]
    exact hc
  · refine h v' w' ?_ h2 h3
    have e : ints (tk ++ [q]) = ints tk ++ [.int .i64 (q : Int)] := by simp [ints]
    rw [e, List.length_append]
    exact h1
/-- A world behind another one that wrote nothing of the elder one. -/
def Since (y x : World) : Prop := Below y.heap.size y x
theorem Since.refl (y : World) : Since y y := Below.refl _ _
theorem Since.below {y x x' : World} (h : Since y x) (b : Below x.heap.size x x') : Since y x' := Below.trans h (b.mono (Below.size h))
theorem Since.drew {y x : World} (h : Since y x) : Since y x.drew := h.below (below_drewN (Below.refl _ _) 1)
theorem PSt.start {w y0 y1 wr : World} {base b sm nm dm r M B : Nat} {root : List UInt8} {v : Value} (hb : BookIs (fun q => q < y0.heap.size) y1 y0.heap.size b sm nm dm [] (fun _ => none)) (hs : Since y1 wr) (hr : y1.heap.size ≤ r) (hrow : Blk wr r #[.int .i64 B, v] 138) (hsd : SeedsAt wr v [⟨0, 0, root⟩])
    (hq : ∀ q, v.ownBlock = some q → y1.heap.size ≤ q) (hMl : y1.heap.size ≤ M) (hM : Blk wr M (rcells root B (.slice none 0 0)).toArray 33) (hroot : root.length = 32) (hbase : base ≤ y0.heap.size) (hbel : Below base w wr) :
    PSt (fun q => q = r ∨ v.ownBlock = some q) w base y0.heap.size r M B root [⟨0, 0, root⟩] [] [] (.slice none 0 0) (.slice none 0 0) ⟨b, sm, nm, dm, [], fun _ => none⟩ wr := by
  have h0 : BkAt (fun q => q < y0.heap.size) y1 y0.heap.size (some ⟨b, sm, nm, dm, [], fun _ => none⟩) := ⟨hb, fun f h => (by cases h), fun s v h => by cases h⟩
  have h1 : BkAt (fun q => q = r ∨ v.ownBlock = some q) wr y0.heap.size (some ⟨b, sm, nm, dm, [], fun _ => none⟩) := (h0.widen (fun q h => .inr (h.elim (fun e => e ▸ hr) (hq q)))).below hs
  have hy : y0.heap.size ≤ y1.heap.size := BkAt.le h0
  refine ⟨⟨v, hrow, hsd, fun q h => ⟨.inr h, by simp [Value.ownBlock], by simp [Value.ownBlock]⟩⟩, .inl rfl, hM, ?_, World.ownsRow_nil _ _ _ _, ⟨by simp, World.ownsRow_nil _ _ _ _⟩, fun q h => by simp [Value.ownBlock] at h, fun q h => by simp [Value.ownBlock] at h, ?_, h1, hbel, hbase, by omega, by omega⟩
  · rintro (e | e)
    · subst e
      have := hrow.symm.trans hM
      simp at this
    · obtain ⟨u, hu1, hu2⟩ := rcells_first root B (.slice none 0 0) hroot
      rcases hsd.2 with ⟨e1, _⟩ | ⟨g, c, e1, _, _, hc⟩
      · subst e1; simp [Value.ownBlock] at e
      · subst e1
        obtain rfl : g = M := by simpa [Value.ownBlock] using e
        have h2 := hc 0 (.int .i64 0) (by simp [Sd.cells])
        have h3 := hM.cell 0 u hu1
        rw [h3] at h2
        exact hu2 _ (Option.some.inj h2)
  · rintro q (e | e)
    · rw [e]; exact hrow.lt
    · exact seeds_lt hsd q e
variable {A : Nat → Prop} {w : World} {base Bb r M B : Nat} {root : List UInt8} {tk : List Nat} {ks : List HsT} {tv vk : Value} {s : BkSt} {y : World} {n : Nat}
theorem PSt.ok (hroot : root.length = 32) (hl : (rowT root B tk).length ≤ 1000000) : RowOk B (rowT root B tk) :=
  ⟨fun s hs => ⟨(row_mem hroot s hs).1, (row_mem hroot s hs).2.1⟩, hl⟩
/-- The taking's contract on what the laws carry. -/
theorem PSt.take_calls (h : PSt A w base Bb r M B root (rowT root B tk) tk ks tv vk s y) (hfs : FsOk s.fs n) (hn : n ≤ 90000) (hroot : root.length = 32) (hB : B ≤ 32) (hl : (rowT root B tk).length ≤ 1000000) (p : Int) (hp1 : -9223372036854775808 ≤ p) (hp2 : p ≤ 9223372036854775807) :
    Calls Try.prog 19 #[.pointer (some ⟨r, 0, none⟩), .pointer (some ⟨s.b, 0, none⟩), .int .i64 p] y fun e w' => ∃ A', e = .returned (.tuple #[.agg ((lookT B p (rowT root B tk)).1.map bv).toArray, .int .i64 (lookT B p (rowT root B tk)).2]) ∧ PSt A' w base Bb r M B root (takeT B p (rowT root B tk)) tk ks tv vk { s with fs := (lookF B p (rowT root B tk)).foldl noteT s.fs } w' ∧ TakeFrm A (some s) Bb r y w' ∧ (∀ q, A q → A' q) ∧ (∀ q, A' q → A q ∨ y.heap.size ≤ q) :=
  (TakeO_calls r B p _ Bb (some s) _ rfl y h.bk (hfs.room rfl (by omega) (by omega)) h.bs h.aw h.rowAt h.rowIn hB (PSt.ok hroot hl) hp1 hp2).mono fun e w' ⟨h1, h2, h3, h4, A', h5, h6, h7, h8, h9⟩ =>
    ⟨A', h1, h.take h2 h3 h4 h5 h6 h7 (by rw [bkNotes_some] at h8; exact h8) h9, h3, h5, h6⟩
theorem PSt.look_calls (h : PSt A w base Bb r M B root (rowT root B tk) tk ks tv vk s y) (hfs : FsOk s.fs n) (hn : n ≤ 90000) (hroot : root.length = 32) (hB : B ≤ 32) (hl : (rowT root B tk).length ≤ 1000000) (p : Int) (hp1 : -9223372036854775808 ≤ p) (hp2 : p ≤ 9223372036854775807) :
    Calls Try.prog 49 #[.pointer (some ⟨r, 0, none⟩), .pointer (some ⟨s.b, 0, none⟩), .int .i64 p] y fun e w' => e = .returned (.tuple #[.agg ((lookT B p (rowT root B tk)).1.map bv).toArray, .int .i64 (lookT B p (rowT root B tk)).2]) ∧ PSt A w base Bb r M B root (rowT root B tk) tk ks tv vk { s with fs := (lookF B p (rowT root B tk)).foldl noteT s.fs } w' ∧ BkFrm A (some s) y w' :=
  (LookO_calls r B p _ Bb (some s) _ rfl y h.bk (hfs.room rfl (by omega) (by omega)) h.bs h.aw h.rowAt hB (PSt.ok hroot hl) hp1 hp2).mono fun e w' ⟨h1, h2, h3, h4⟩ =>
    ⟨h1, h.look (by rw [bkNotes_some] at h2; exact h2) h3 h4, h3⟩
theorem IntsA.take {ao : Option Addr} {c : Nat} (h : IntsA y (.slice ao tk.length c) tk) (k : Nat) (hk : k ≤ tk.length) (hnz : tk ≠ []) : IntsA y (.slice ao k c) (tk.take k) := by
  have hl : (tk.take k).length = k := by rw [List.length_take]; omega
  rcases h with ⟨h1, h2⟩ | ⟨g, o, c', h1, h2, h3⟩
  · exact absurd h2 hnz
  · injection h1 with e1 e2 e3
    subst e1
    refine .inr ⟨g, o, c, by rw [hl], h2, fun j x hj => h3 j x ?_⟩
    have := (List.getElem?_eq_some_iff.1 hj).1
    rwa [List.getElem?_take_of_lt (by omega)] at hj
theorem RFactsOwn.agr {A0 A' : Nat → Prop} {T : TypeId → Prop} {Mp : Nat → Prop} {w w' : World} {base : Nat} {v : Value} {fs : List FactT} (h : RFactsOwn A0 w base v fs) (f : Frm A' T Mp w w') (hA : ∀ q, v.ownBlock = some q → A' q) (h2 : ¬ T 22) : RFactsOwn A0 w' base v fs := by
  obtain ⟨cs, ho, hl, h0, hc⟩ := h
  exact ⟨cs, own_agr ho f hA, hl, h0, fun i g p hi hp => ⟨(hc i g p hi hp).1.frm f h2, (hc i g p hi hp).2.frm f h2⟩⟩
theorem RFactsOwn.lt {A0 : Nat → Prop} {w : World} {base : Nat} {v : Value} {fs : List FactT} (h : RFactsOwn A0 w base v fs) : ∀ q, v.ownBlock = some q → base ≤ q ∧ q < w.heap.size := by
  obtain ⟨cs, ho, -⟩ := h
  exact fun q hq => ho.lt q hq
/-- One fact out of a row of facts: its two lists lie in one place. -/
theorem RFactsOwn.item {A0 : Nat → Prop} {w : World} {base : Nat} {v : Value} {fs : List FactT} (h : RFactsOwn A0 w base v fs) (i : Nat) (f : FactT) (hi : fs[i]? = some f) : ∃ g c x z, v = .slice (some ⟨g, 0, none⟩) fs.length c ∧ g < w.heap.size ∧ w.rangeAt g (i * 2) [x, z] ∧ HashOwn w base 22 x f.ins ∧ HashOwn w base 22 z f.outs := by
  obtain ⟨cs, ho, hl, -, hc⟩ := h
  have hlt : i < fs.length := (List.getElem?_eq_some_iff.1 hi).1
  obtain ⟨p, hp⟩ : ∃ p, cs[i]? = some p := ⟨cs[i]'(by omega), List.getElem?_eq_getElem _⟩
  obtain ⟨e1, e2⟩ := pair_at cs i p hp
  obtain ⟨h5, h6⟩ := hc i f p hi hp
  rcases ho.2 with ⟨h0, h1⟩ | ⟨g, cap, cur, rfl, hb, hg, h1, h2, h3, h4⟩
  · omega
  · have hcell : ∀ j u, (cs.flatMap fun p => [p.1, p.2])[j]? = some u → w.cell? ⟨g, j, none⟩ = some u := fun j u hj => by
      have hj2 : j < fs.length * 2 := by rw [← ho.1]; exact (List.getElem?_eq_some_iff.1 hj).1
      rw [← h4, List.getElem?_take_of_lt hj2] at hj
      have : cur[j]? = some u := by simpa using hj
      simp [World.cell?, hg, this]
    refine ⟨g, cap, p.1, p.2, rfl, lt_of_block hg, fun j u hj => ?_, h5, h6⟩
    have hlt2 := (List.getElem?_eq_some_iff.1 hj).1
    simp at hlt2
    rcases (by omega : j = 0 ∨ j = 1) with rfl | rfl
    · obtain rfl : p.1 = u := by simpa using hj
      exact hcell _ _ e1
    · obtain rfl : p.2 = u := by simpa using hj
      exact hcell _ _ e2
theorem RFactsOwn.slice4 {A0 : Nat → Prop} {w : World} {base : Nat} {v : Value} {fs : List FactT} (h : RFactsOwn A0 w base v fs) : ∃ ao c, v = .slice ao fs.length c := by
  obtain ⟨cs, ho, -⟩ := h
  exact own_slice ho
/-- The facts of the first places taken. -/
def notedK (root : List UInt8) (B : Nat) (tk : List Nat) : Nat → List FactT
  | 0 => []
  | n + 1 => (factsT root B (tk.take n) (tk.getD n 0)).foldl noteT (notedK root B tk n)
def notedT (root : List UInt8) (B : Nat) (tk : List Nat) : List FactT := notedK root B tk tk.length
theorem notedK_app (root : List UInt8) (B : Nat) (tk : List Nat) (p : Nat) : ∀ n, n ≤ tk.length → notedK root B (tk ++ [p]) n = notedK root B tk n
  | 0, _ => rfl
  | n + 1, h => by
    rw [notedK, notedK, notedK_app root B tk p n (by omega), List.take_append_of_le_length (by omega)]
    congr 2
    rw [List.getD_eq_getElem?_getD, List.getD_eq_getElem?_getD, List.getElem?_append_left (by omega)]
theorem notedT_snoc (root : List UInt8) (B : Nat) (tk : List Nat) (p : Nat) : notedT root B (tk ++ [p]) = (factsT root B tk p).foldl noteT (notedT root B tk) := by
  rw [notedT, List.length_append, List.length_singleton, notedK, notedK_app root B tk p _ (Nat.le_refl _), notedT]
  congr 2
  · rw [List.take_append_of_le_length (Nat.le_refl _), List.take_length]
  · rw [List.getD_eq_getElem?_getD]; simp
theorem builtR6v (B : Nat) (h : List UInt8) (hh : h.length = 32) (ao : Option Addr) (n c : Nat) : Try.prog.built 33 [(0, .agg (h.map bv).toArray), (1, .int .i64 B), (2, .slice ao n c)] = some (rcells h B (.slice ao n c)).toArray := by
  rw [built_struct Try.zeroR6 Try.underlying33 (places := [(0, 32), (32, 1), (33, 1)]) (by kernel_rfl), Value.cells]
  refine (fill_midV (A := []) (B := (List.replicate 32 (0 : UInt8)).map bv) (C := [.int .i64 0, .slice none 0 0]) (v := h.map bv) rfl rfl (by rw [List.length_map, hh]; rfl) (by simp [hh])).trans ?_
  refine (fill_midV (A := h.map bv) (B := [.int .i64 0]) (C := [.slice none 0 0]) (v := [.int .i64 B]) rfl rfl (by rw [List.length_map, hh]; rfl) rfl).trans ?_
  refine (fill_midV (A := h.map bv ++ [.int .i64 B]) (B := [.slice none 0 0]) (C := []) (v := [.slice ao n c]) rfl (by simp) (by rw [List.length_append, List.length_map, hh]; rfl) rfl).trans ?_
  simp [Instr.fill, rcells]
end Go.Proofs.Ytlomofcnknpciaa
