/-
  ppr, with a book: what the two laws carry from step to step: the row, the document's row, the places taken, the keys, the book.
-/
import Derived.Test.YtlomofcnknpciaaPprTakeBk
import Derived.Test.YtlomofcnknpciaaPprFacts
import Derived.Test.YtlomofcnknpciaaPprRowS
set_option linter.unusedSimpArgs false
set_option linter.unusedVariables false
namespace Go.Proofs.Ytlomofcnknpciaa
open Go.RowKit

theorem TakeFrm.frm {A : Nat → Prop} {o : Option BkSt} {Bb r : Nat} {w w' : World} {cs : Array Value} (f : TakeFrm A o Bb r w w') (hr : Blk w r cs 138) : Frm (fun q => A q ∧ q ≠ r) (fun t => NT t ∨ t = 138) (bkMaps o) w w' := by
  refine ⟨⟨f.size, fun q ob h1 h2 h3 => ?_⟩, fun q ob ha h1 => f.own q ob ha.2 (.inl ha.1) h1⟩
  by_cases hq : q = r
  · subst hq
    rw [hr] at h1
    obtain rfl := Option.some.inj h1
    exact absurd (.inr rfl) (h2 _ _ _ rfl)
  · exact f.typ q ob hq h1 (fun cs t fz e hn => h2 cs t fz e (.inl hn)) h3
theorem TakeFrm.below {A : Nat → Prop} {o : Option BkSt} {Bb r b : Nat} {w w' : World} (f : TakeFrm A o Bb r w w') (h1 : b ≤ Bb) (h2 : b ≤ r) (h3 : Bb ≤ w.heap.size) : Below b w w' :=
  ⟨f.b0.os, f.b0.tape, f.b0.output, f.b0.size, fun k hk => by
    have hlt : k < w.heap.size := by omega
    exact (f.own k _ (by omega) (.inr (by omega)) (Array.getElem?_eq_getElem hlt)).trans (Array.getElem?_eq_getElem hlt).symm⟩
theorem BkAt.storeO {A : Nat → Prop} {w w' : World} {B : Nat} {o : Option BkSt} {row : Option Nat} (h : BkAt A w B o) (g : w.grownBy w' row) (hr : ∀ q, row = some q → A q) : BkAt A w' B o := by
  cases row with
  | some q => exact h.store (hr q rfl) g
  | none => exact h.frm (A' := fun _ => False) (T := fun _ => False) (Frm.grownNone g) ⟨id, id, id, id⟩
structure PSt (A : Nat → Prop) (w : World) (base Bb r M B : Nat) (root : List UInt8) (rt : List Sd) (tk : List Nat) (ks : List HsT) (tv vk : Value) (s : BkSt) (wr : World) : Prop where
  row : ∃ v, Blk wr r #[.int .i64 B, v] 138 ∧ SeedsAt wr v rt ∧ ∀ q, v.ownBlock = some q → A q ∧ tv.ownBlock ≠ some q ∧ vk.ownBlock ≠ some q
  ar : A r
  m : Blk wr M (rcells root B tv).toArray 33
  mA : ¬ A M
  ints : wr.ownsRow base 3 1 tv tk.length (ints tk)
  keys : HashOwn wr base 23 vk ks
  atv : ∀ q, tv.ownBlock = some q → A q
  akv : ∀ q, vk.ownBlock = some q → A q
  aw : ∀ q, A q → q < wr.heap.size
  bk : BkAt A wr Bb (some s)
  bel : Below base w wr
  bb : base ≤ Bb
  br : base ≤ r
  bm : base ≤ M
section PS
variable {A : Nat → Prop} {w : World} {base Bb r M B : Nat} {root : List UInt8} {rt : List Sd} {tk : List Nat} {ks : List HsT} {tv vk : Value} {s : BkSt} {wr : World}
theorem PSt.bs (h : PSt A w base Bb r M B root rt tk ks tv vk s wr) : Bb ≤ wr.heap.size := BkAt.le h.bk
theorem PSt.bsize (h : PSt A w base Bb r M B root rt tk ks tv vk s wr) : base ≤ wr.heap.size := Nat.le_trans h.bb h.bs
theorem PSt.rowAt (h : PSt A w base Bb r M B root rt tk ks tv vk s wr) : RowAt wr r B rt := by
  obtain ⟨v, h1, h2, h3⟩ := h.row
  exact ⟨v, h1, h2⟩
theorem PSt.rowIn (h : PSt A w base Bb r M B root rt tk ks tv vk s wr) : RowIn A wr r B := by
  obtain ⟨v, h1, h2, h3⟩ := h.row
  refine ⟨h.ar, fun v' h4 q hq => ?_⟩
  obtain rfl := slot_eq h1 h4
  exact (h3 q hq).1
theorem PSt.intsA (h : PSt A w base Bb r M B root rt tk ks tv vk s wr) : IntsA wr tv tk := IntsA.own h.ints
theorem PSt.below {wr' : World} (h : PSt A w base Bb r M B root rt tk ks tv vk s wr) (b : Below wr.heap.size wr wr') : PSt A w base Bb r M B root rt tk ks tv vk s wr' := by
  obtain ⟨v, h1, h2, h3⟩ := h.row
  exact ⟨⟨v, h1.below b h1.lt, h2.below b, h3⟩, h.ar, h.m.below b h.m.lt, h.mA, own_below h.ints b, h.keys.below b, h.atv, h.akv, fun q hq => Nat.lt_of_lt_of_le (h.aw q hq) b.size, h.bk.below b, h.bel.trans (b.mono h.bsize), h.bb, h.br, h.bm⟩
theorem PSt.drew (h : PSt A w base Bb r M B root rt tk ks tv vk s wr) : PSt A w base Bb r M B root rt tk ks tv vk s wr.drew := h.below (below_drewN (Below.refl _ _) 1)
/-- What writes in other types leaves all. -/
theorem PSt.frm {T : TypeId → Prop} {Mp : Nat → Prop} {wr' : World} {s' : BkSt} (h : PSt A w base Bb r M B root rt tk ks tv vk s wr) (f : Frm A T Mp wr wr') (b : Below base wr wr') (hT : ¬ T 33) (k : BkAt A wr' Bb (some s')) : PSt A w base Bb r M B root rt tk ks tv vk s' wr' := by
  obtain ⟨v, h1, h2, h3⟩ := h.row
  exact ⟨⟨v, h1.agr f h.ar, h2.agr f (fun q hq => (h3 q hq).1), h3⟩, h.ar, h.m.frm f hT, h.mA, own_agr h.ints f h.atv, h.keys.agr f h.akv, h.atv, h.akv, fun q hq => Nat.lt_of_lt_of_le (h.aw q hq) f.size, k, h.bel.trans b, h.bb, h.br, h.bm⟩
theorem PSt.look {wr' : World} {s' : BkSt} (h : PSt A w base Bb r M B root rt tk ks tv vk s wr) (k : BkAt A wr' Bb (some s')) (f : BkFrm A (some s) wr wr') (b : Below Bb wr wr') : PSt A w base Bb r M B root rt tk ks tv vk s' wr' :=
  h.frm f (b.mono h.bb) (by unfold NT; decide) k
theorem PSt.take {A' : Nat → Prop} {wr' : World} {s' : BkSt} {rt' : List Sd} (h : PSt A w base Bb r M B root rt tk ks tv vk s wr) (hR : RowAt wr' r B rt') (f : TakeFrm A (some s) Bb r wr wr') (mv : RowMove wr wr' r B)
    (h1 : ∀ q, A q → A' q) (h2 : ∀ q, A' q → A q ∨ wr.heap.size ≤ q) (h3 : ∀ q, A' q → q < wr'.heap.size) (h4 : BkAt A' wr' Bb (some s')) (h5 : RowIn A' wr' r B) : PSt A' w base Bb r M B root rt' tk ks tv vk s' wr' := by
  obtain ⟨v, g1, g2, g3⟩ := h.row
  obtain ⟨v', e1, e2⟩ := hR
  have ff := f.frm g1
  refine ⟨⟨v', e1, e2, fun q hq => ?_⟩, h1 r h.ar, h.m.frm ff (by unfold NT; decide), fun ha => (h2 M ha).elim h.mA (fun e => by have := h.m.lt; omega), own_agr h.ints ff (fun q hq => ⟨h.atv q hq, fun e => own_ne h.ints g1 (by decide) (e ▸ hq)⟩), h.keys.frm ff (by unfold NT; decide), fun q hq => h1 q (h.atv q hq), fun q hq => h1 q (h.akv q hq), h3, h4, h.bel.trans (f.below h.bb h.br h.bs), h.bb, h.br, h.bm⟩
  refine ⟨h5.2 v' e1 q hq, fun e => ?_, fun e => ?_⟩
  · rcases mv v v' g1 e1 q hq with h6 | h6
    · exact (g3 q h6).2.1 e
    · have := h.aw q (h.atv q e); omega
  · rcases mv v v' g1 e1 q hq with h6 | h6
    · exact (g3 q h6).2.2 e
    · have := h.aw q (h.akv q e); omega
/-- A key more. -/
theorem PSt.addKey {wr' : World} {vk' : Value} {ks' : List HsT} (h : PSt A w base Bb r M B root rt tk ks tv vk s wr) (hk : HashOwn wr' base 23 vk' ks') (g : wr.grownBy wr' vk.ownBlock) (hq : ∀ q, vk'.ownBlock = some q → vk.ownBlock = some q ∨ wr.heap.size ≤ q) :
    PSt (fun q => A q ∨ vk'.ownBlock = some q) w base Bb r M B root rt tk ks' tv vk' s wr' := by
  obtain ⟨v, g1, g2, g3⟩ := h.row
  have f : Frm (fun _ => False) (fun t => t = 23) (fun _ => False) wr wr' := Frm.grownOwn h.keys.2 g rfl (fun q hq ha => ha)
  have hA2 : ∀ q, (A q ∨ vk'.ownBlock = some q) → A q ∨ wr.heap.size ≤ q := fun q hq' => hq'.elim .inl (fun e => (hq q e).imp (h.akv q) id)
  refine ⟨⟨v, g1.frm f (by decide), g2.grown g (fun q hv e => (g3 q hv).2.2 (by rw [← e])), fun q hv => ⟨.inl (g3 q hv).1, (g3 q hv).2.1, fun e => ?_⟩⟩, .inl h.ar, h.m.frm f (by decide), fun ha => (hA2 M ha).elim h.mA (fun e => by have := h.m.lt; omega), own_frm h.ints f (by decide), hk, fun q e => .inl (h.atv q e), fun q e => .inr e, fun q ha => ?_, (h.bk.widen hA2).storeO g (fun q e => .inl (h.akv q e)), h.bel.grown g h.bsize (fun q e => (h.keys.2.lt q e).1), h.bb, h.br, h.bm⟩
  · rcases hq q e with h6 | h6
    · exact (g3 q hv).2.2 h6
    · have := h.aw q (g3 q hv).1; omega
  · rcases ha with ha | ha
    · exact Nat.lt_of_lt_of_le (h.aw q ha) g.size
    · exact (hk.2.lt q ha).2
/-- A taken place more: appended, and stored into the document's row. -/
theorem PSt.addTaken {wr2 wr3 : World} {tv' : Value} {x : Nat} (h : PSt A w base Bb r M B root rt tk ks tv vk s wr) (ho : wr2.ownsRow base 3 1 tv' (tk ++ [x]).length (Go.Proofs.Ytlomofcnknpciaa.ints (tk ++ [x]))) (g : wr.grownBy wr2 tv.ownBlock) (hq : ∀ q, tv'.ownBlock = some q → tv.ownBlock = some q ∨ wr.heap.size ≤ q)
    (hM : Blk wr3 M (rcells root B tv').toArray 33) (gS : wr2.grownBy wr3 (some M)) :
    PSt (fun q => A q ∨ tv'.ownBlock = some q) w base Bb r M B root rt (tk ++ [x]) ks tv' vk s wr3 := by
  obtain ⟨v, g1, g2, g3⟩ := h.row
  have f : Frm (fun _ => False) (fun t => t = 3) (fun _ => False) wr wr2 := Frm.grownOwn h.ints g rfl (fun q hq ha => ha)
  have f2 : Frm (fun _ => False) (fun t => t = 33) (fun _ => False) wr2 wr3 := Frm.grownBlk (h.m.frm f (by decide)) gS rfl id
  have hA2 : ∀ q, (A q ∨ tv'.ownBlock = some q) → A q ∨ wr.heap.size ≤ q := fun q hq' => hq'.elim .inl (fun e => (hq q e).imp (h.atv q) id)
  have hM0 : ¬ (A M ∨ tv'.ownBlock = some M) := fun ha => (hA2 M ha).elim h.mA (fun e => by have := h.m.lt; omega)
  refine ⟨⟨v, (g1.frm f (by decide)).frm f2 (by decide), (g2.grown g (fun q hv e => (g3 q hv).2.1 (by rw [← e]))).grown gS (fun q hv e => h.mA (by obtain rfl := Option.some.inj e; exact (g3 _ hv).1)), fun q hv => ⟨.inl (g3 q hv).1, fun e => ?_, (g3 q hv).2.2⟩⟩, .inl h.ar, hM, hM0, own_frm ho f2 (by decide), (h.keys.frm f (by decide)).frm f2 (by decide), fun q e => .inr e, fun q e => .inl (h.akv q e), fun q ha => ?_, ((h.bk.widen hA2).storeO g (fun q e => .inl (h.atv q e))).frm f2 ⟨by decide, by decide, by decide, by decide⟩, (h.bel.grown g h.bsize (fun q e => (h.ints.lt q e).1)).grown gS (Nat.le_trans h.bsize g.size) (fun q e => by obtain rfl := Option.some.inj e; exact h.bm), h.bb, h.br, h.bm⟩
  · rcases hq q e with h6 | h6
    · exact (g3 q hv).2.1 h6
    · have := h.aw q (g3 q hv).1; omega
  · rcases ha with ha | ha
    · exact Nat.lt_of_lt_of_le (h.aw q ha) (Nat.le_trans g.size gS.size)
    · exact Nat.lt_of_lt_of_le (ho.lt q ha).2 gS.size
end PS
/-- Few facts, each of few secrets. -/
structure FsOk (fs : List FactT) (n : Nat) : Prop where
  ok : ∀ f ∈ fs, FOk f
  len : fs.length ≤ n
  ins : (fs.flatMap (·.ins)).length ≤ n
  outs : (fs.flatMap (·.outs)).length ≤ 2 * n
theorem FsOk.nil : FsOk [] 0 := ⟨fun f h => (by cases h), by simp, by simp, by simp⟩
theorem FsOk.mono {fs : List FactT} {n m : Nat} (h : FsOk fs n) (hm : n ≤ m) : FsOk fs m := ⟨h.ok, Nat.le_trans h.len hm, Nat.le_trans h.ins hm, by have := h.outs; omega⟩
theorem FsOk.note {fs : List FactT} {n : Nat} {f : FactT} (h : FsOk fs n) (hf : FOk f) (h1 : f.ins.length ≤ 1) (h2 : f.outs.length ≤ 2) : FsOk (noteT fs f) (n + 1) := by
  refine ⟨noteT_ok h.ok hf, ?_, ?_, ?_⟩
  · have := noteT_len1 fs f; have := h.len; omega
  · have := noteT_ins fs f; have := h.ins; omega
  · have : ((noteT fs f).flatMap (·.outs)).length ≤ (fs.flatMap (·.outs)).length + f.outs.length := by
      unfold noteT
      split
      · omega
      · rw [List.flatMap_append, List.length_append]; simp
    have := h.outs; omega
theorem FsOk.fold {l : List FactT} : ∀ {fs : List FactT} {n : Nat}, FsOk fs n → (∀ f ∈ l, FOk f ∧ f.ins.length ≤ 1 ∧ f.outs.length ≤ 2) → FsOk (l.foldl noteT fs) (n + l.length) := by
  induction l with
  | nil => intro fs n h _; exact h
  | cons f l ih =>
    intro fs n h hl
    have hf := hl f (List.mem_cons_self ..)
    have := ih (h.note hf.1 hf.2.1 hf.2.2) (fun g hg => hl g (List.mem_cons_of_mem _ hg))
    rw [List.foldl_cons, List.length_cons]
    exact this.mono (by omega)
theorem FsOk.univLe {fs : List FactT} {n : Nat} (h : FsOk fs n) {a : List HsT} (ha : a.length ≤ 100000) (hn : n ≤ 100000) : (univ fs a).length ≤ 500000 := by
  have := h.outs
  unfold univ
  rw [List.length_append]
  omega
theorem FsOk.room {fs : List FactT} {n k : Nat} {s : BkSt} (h : FsOk fs n) (hs : s.fs = fs) (hn : n ≤ 100000) (hk : k ≤ 100000) : BkRoom k (some s) := by
  have h1 := h.len
  have h2 := h.ins
  rw [← hs] at h1 h2
  exact ⟨by omega, by omega⟩
theorem factAt_small {root : List UInt8} (B p lv : Nat) (h : root.length = 32) : FOk (factAt root B p lv) ∧ (factAt root B p lv).ins.length ≤ 1 ∧ (factAt root B p lv).outs.length ≤ 2 := by
  refine ⟨factAt_ok B p lv h, ?_, ?_⟩ <;> (rw [factAt]; split <;> simp)
theorem factsT_small {root : List UInt8} (B : Nat) (tk : List Nat) (p : Nat) (h : root.length = 32) : ∀ f ∈ factsT root B tk p, FOk f ∧ f.ins.length ≤ 1 ∧ f.outs.length ≤ 2 := factsK_all root B tk p (fun lv => factAt_small B p lv h) _
theorem bkNotes_some : ∀ (l : List FactT) (s : BkSt), bkNotes (some s) l = some { s with fs := l.foldl noteT s.fs }
  | [], s => rfl
  | f :: l, s => by
    show bkNotes (bkNote (some s) f) l = _
    exact bkNotes_some l { s with fs := noteT s.fs f }
end Go.Proofs.Ytlomofcnknpciaa
