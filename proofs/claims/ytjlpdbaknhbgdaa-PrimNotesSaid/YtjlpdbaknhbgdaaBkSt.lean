/-
  A book or none: one contract for a note.
-/
import Derived.Test.YtjlpdbaknhbgdaaBookNote
import Derived.Test.YtjlpdbaknhbgdaaBookSmall
set_option linter.unusedSimpArgs false
set_option linter.unusedVariables false
namespace Go.Proofs.Ytjlpdbaknhbgdaa
open Go.RowKit

/-- A book's places, facts and names. -/
structure BkSt where
  b : Nat
  sm : Nat
  nm : Nat
  dm : Nat
  fs : List FactT
  names : List UInt8 → Option Value
def bkPtr : Option BkSt → Value
  | none => .pointer none
  | some s => .pointer (some ⟨s.b, 0, none⟩)
/-- So many notes more may come. -/
def BkRoom (k : Nat) : Option BkSt → Prop
  | none => True
  | some s => s.fs.length + k ≤ 1000000 ∧ (s.fs.flatMap (·.ins)).length + 8 * k ≤ 9000000
def BkAt (A : Nat → Prop) (w : World) (B : Nat) : Option BkSt → Prop
  | none => True
  | some s => BookIs A w B s.b s.sm s.nm s.dm s.fs s.names ∧ (∀ f ∈ s.fs, FOk f) ∧ NamesOk s.names
def bkNote (o : Option BkSt) (f : FactT) : Option BkSt := o.map fun s => { s with fs := noteT s.fs f }
def bkMaps : Option BkSt → Nat → Prop
  | none, _ => False
  | some s, q => q = s.sm ∨ q = s.nm ∨ q = s.dm
def BkFrm (A : Nat → Prop) (o : Option BkSt) (w w' : World) : Prop := Frm A NT (bkMaps o) w w'
theorem bkPtr_note (o : Option BkSt) (f : FactT) : bkPtr (bkNote o f) = bkPtr o := by cases o <;> rfl
theorem bkMaps_note (o : Option BkSt) (f : FactT) : bkMaps (bkNote o f) = bkMaps o := by cases o <;> rfl
section
variable {A : Nat → Prop}
theorem BkFrm.refl (o : Option BkSt) (w : World) : BkFrm A o w w := Frm.refl _
theorem BkFrm.trans {o : Option BkSt} {a b c : World} (h : BkFrm A o a b) (g : BkFrm A o b c) : BkFrm A o a c := Frm.trans h g
theorem BkFrm.ofBelow {o : Option BkSt} {w w' : World} (b : Below w.heap.size w w') : BkFrm A o w w' := Frm.ofBelow b
theorem BkFrm.narrow {A' : Nat → Prop} {o : Option BkSt} {w w' : World} (h : BkFrm A o w w') (hA : ∀ q, A' q → A q) : BkFrm A' o w w' := Frm.narrow h hA
theorem BkFrm.note {o : Option BkSt} {f : FactT} {w w' : World} (h : BkFrm A (bkNote o f) w w') : BkFrm A o w w' := by
  unfold BkFrm at h ⊢
  rwa [bkMaps_note] at h
theorem BkAt.below {w w' : World} {B : Nat} {o : Option BkSt} (h : BkAt A w B o) (b : Below w.heap.size w w') : BkAt A w' B o := by
  cases o with
  | none => trivial
  | some s => exact ⟨h.1.below b, h.2⟩
theorem BkAt.drew {w : World} {B : Nat} {o : Option BkSt} (h : BkAt A w B o) : BkAt A w.drew B o := h.below (below_drewN (Below.refl _ _) 1)
theorem BkAt.narrow {A' : Nat → Prop} {w : World} {B : Nat} {o : Option BkSt} (h : BkAt A w B o) (hA : ∀ q, A' q → A q) : BkAt A' w B o := by
  cases o with
  | none => trivial
  | some s => exact ⟨h.1.narrow hA, h.2⟩
theorem BkAt.widen {A' : Nat → Prop} {w : World} {B : Nat} {o : Option BkSt} (h : BkAt A w B o) (hA : ∀ q, A' q → A q ∨ w.heap.size ≤ q) : BkAt A' w B o := by
  cases o with
  | none => trivial
  | some s => exact ⟨h.1.widen hA, h.2⟩
/-- A write into a block that is none of the book's. -/
theorem BkAt.store {w w' : World} {B : Nat} {o : Option BkSt} {r : Nat} (h : BkAt A w B o) (hr : A r) (g : w.grownBy w' (some r)) : BkAt A w' B o := by
  cases o with
  | none => trivial
  | some s => exact ⟨h.1.apart_ hr g, h.2⟩
end
theorem noteT_len1 (fs : List FactT) (f : FactT) : (noteT fs f).length ≤ fs.length + 1 := by
  unfold noteT
  split <;> simp
theorem noteT_ins (fs : List FactT) (f : FactT) : ((noteT fs f).flatMap (·.ins)).length ≤ (fs.flatMap (·.ins)).length + f.ins.length := by
  unfold noteT
  split
  · omega
  · rw [List.flatMap_append, List.length_append]; simp
theorem BkRoom.note {k : Nat} {o : Option BkSt} {f : FactT} (h : BkRoom (k + 1) o) (hf : f.ins.length ≤ 8) : BkRoom k (bkNote o f) := by
  cases o with
  | none => trivial
  | some s =>
    obtain ⟨h1, h2⟩ := h
    have e1 := noteT_len1 s.fs f
    have e2 := noteT_ins s.fs f
    exact ⟨by show (noteT s.fs f).length + k ≤ _; omega, by show ((noteT s.fs f).flatMap _).length + _ ≤ _; omega⟩
theorem BkRoom.less {k j : Nat} {o : Option BkSt} (h : BkRoom k o) (hj : j ≤ k) : BkRoom j o := by
  cases o with
  | none => trivial
  | some s => obtain ⟨h1, h2⟩ := h; exact ⟨by omega, by omega⟩
theorem noteT_ok {fs : List FactT} {f : FactT} (h : ∀ g ∈ fs, FOk g) (hf : FOk f) : ∀ g ∈ noteT fs f, FOk g := fun g hg => by
  unfold noteT at hg
  split at hg
  · exact h g hg
  · rcases List.mem_append.1 hg with hg | hg
    · exact h g hg
    · rw [List.mem_singleton.1 hg]; exact hf
/-- **Note** of a book, or of none. -/
theorem NoteO_calls {A : Nat → Prop} (x y : Value) (f : FactT) (B : Nat) (o : Option BkSt) (w : World) (ho : BkAt A w B o) (hxy : ∀ w', BkFrm A o w w' → Below B w w' → HashesAt w' x f.ins ∧ HashesAt w' y f.outs) (hf : FOk f) (hr : BkRoom 1 o) (hB : B ≤ w.heap.size) (hAw : ∀ q, A q → q < w.heap.size) :
    Calls Try.prog 26 #[bkPtr o, .agg #[x, y]] w fun e w' => e = .returned (.int .i64 (noteE f)) ∧ BkAt A w' B (bkNote o f) ∧ BkFrm A o w w' ∧ Below B w w' := by
  obtain ⟨hx0, hy0⟩ := hxy w (BkFrm.refl _ _) (Below.refl _ _)
  have hxs : ∃ ao n c, x = .slice ao n c := by obtain ⟨ao, c, e, -⟩ := hx0.slice; exact ⟨_, _, _, e⟩
  by_cases h0 : f.outs = []
  · refine (NoteEmpty_calls (bkPtr o) x y f w hy0 h0 hxs).mono fun e w' ⟨h1, h2⟩ => ⟨by rw [h1, (noteT_empty [] f h0).2], ?_, BkFrm.ofBelow h2, h2.mono hB⟩
    have : bkNote o f = o := by
      cases o with
      | none => rfl
      | some s => simp [bkNote, (noteT_empty s.fs f h0).1]
    rw [this]
    exact ho.below h2
  · cases o with
    | none => exact (NoteNil_calls4 x y f w hy0 h0 hxs hf.lo).mono fun e w' ⟨h1, h2⟩ => ⟨by rw [h1, noteE_ok f h0], trivial, BkFrm.ofBelow h2, h2.mono hB⟩
    | some s =>
      obtain ⟨h1, h2, h3⟩ := ho
      obtain ⟨r1, r2⟩ := hr
      have hxy' : ∀ w', Frm A NT (MM s.sm s.nm) w w' → Below B w w' → HashesAt w' x f.ins ∧ HashesAt w' y f.outs := fun w' g b => hxy w' (g.mono (fun _ e => e) (fun q e => e.elim (fun e => .inl e) (fun e => .inr (.inl e)))) b
      by_cases hm : f ∈ s.fs
      · refine (NoteSeen_calls x y f B s.b s.sm s.nm s.dm s.fs s.names w h1 hxy' hf h2 h0 (by omega) (by omega) hB hm hAw).mono fun e w' ⟨g1, g2⟩ => ⟨by rw [g1, noteE_ok f h0], ?_, BkFrm.ofBelow g2, g2.mono hB⟩
        have : bkNote (some s) f = some s := by simp [bkNote, noteT_mem s.fs f hm]
        rw [this]
        exact ⟨h1.below g2, h2, h3⟩
      · refine (NoteNew_calls x y f B s.b s.sm s.nm s.dm s.fs s.names w h1 hxy' hf h2 h0 (by omega) (by omega) hB hm hAw).mono fun e w' ⟨g1, g2, g3, g4⟩ => ⟨by rw [g1, noteE_ok f h0], ⟨?_, noteT_ok h2 hf, h3⟩, g3.mono (fun _ e => e) (fun q e => e.elim (fun e => .inl e) (fun e => .inr (.inl e))), g4⟩
        show BookIs A w' B s.b s.sm s.nm s.dm (noteT s.fs f) s.names
        rw [noteT_new s.fs f hm h0]
        exact g2
theorem HashesAt.one {w : World} {q c : Nat} {t : TypeId} {h : HsT} (hg : Blk w q (h.map bv).toArray t) (hh : h.length = 32) (hc : 1 ≤ c) : HashesAt w (.slice (some ⟨q, 0, none⟩) 1 c) [h] :=
  ⟨fun x hx => by rw [List.mem_singleton.1 hx]; exact hh, .inr ⟨q, 0, c, rfl, hc, hg.lt, fun j u hj => by
    rw [Nat.zero_add]
    exact hg.cell j u (by rw [List.getElem?_toArray]; simpa using hj)⟩⟩
theorem HashesAt.two {w : World} {q c : Nat} {t : TypeId} {h k : HsT} (hg : Blk w q ((h ++ k).map bv).toArray t) (hh : h.length = 32) (hk : k.length = 32) (hc : 2 ≤ c) : HashesAt w (.slice (some ⟨q, 0, none⟩) 2 c) [h, k] :=
  ⟨fun x hx => by
    rcases List.mem_cons.1 hx with rfl | hx
    · exact hh
    · rw [List.mem_singleton.1 hx]; exact hk, .inr ⟨q, 0, c, rfl, hc, hg.lt, fun j u hj => by
    rw [Nat.zero_add]
    exact hg.cell j u (by rw [List.getElem?_toArray, List.map_append]; simpa using hj)⟩⟩
theorem FOk.of11 {k y : HsT} (hk : k.length = 32) (hy : y.length = 32) : FOk ⟨[k], [y]⟩ :=
  ⟨fun x hx => by rw [List.mem_singleton.1 hx]; exact hk, fun x hx => by rw [List.mem_singleton.1 hx]; exact hy, by simp, by simp⟩
theorem FOk.of21 {a k y : HsT} (ha : a.length = 32) (hk : k.length = 32) (hy : y.length = 32) : FOk ⟨[a, k], [y]⟩ :=
  ⟨fun x hx => by rcases List.mem_cons.1 hx with rfl | hx; exact ha; rw [List.mem_singleton.1 hx]; exact hk, fun x hx => by rw [List.mem_singleton.1 hx]; exact hy, by simp, by simp⟩
/-- The caller's new blocks, beside those it was told of. -/
def wideA (A : Nat → Prop) (w : World) (N : Nat) : Nat → Prop := fun q => A q ∨ (w.heap.size ≤ q ∧ q < N)
theorem wideA_le {A : Nat → Prop} {w W : World} (hA : ∀ q, A q → q < w.heap.size) (b : Below w.heap.size w W) : ∀ q, wideA A w W.heap.size q → q < W.heap.size :=
  fun q h => h.elim (fun h => Nat.lt_of_lt_of_le (hA q h) b.size) (fun h => h.2)
theorem BkAt.wide {A : Nat → Prop} {w W : World} {B : Nat} {o : Option BkSt} (h : BkAt A w B o) (b : Below w.heap.size w W) : BkAt (wideA A w W.heap.size) W B o :=
  (h.widen (fun q h => h.imp id (fun h => h.1))).below b
/-- Behind one note, and a store into a block that the call made. -/
theorem bk_done {A : Nat → Prop} {o o' : Option BkSt} {w W w6 w7 : World} {B r : Nat} (hW : Below w.heap.size w W) (hf : BkFrm (wideA A w W.heap.size) o W w6) (hb : Below B W w6) (hk : BkAt (wideA A w W.heap.size) w6 B o') (hB : B ≤ w.heap.size) (hr : w.heap.size ≤ r) (hr2 : r < W.heap.size) (g : w6.grownBy w7 (some r)) :
    BkAt A w7 B o' ∧ BkFrm A o w w7 ∧ Below B w w7 := by
  refine ⟨(hk.store (.inr ⟨hr, hr2⟩) g).narrow (fun q h => .inl h), ?_, ?_⟩
  · have h1 : BkFrm A o w w6 := BkFrm.trans (BkFrm.ofBelow hW) (hf.narrow (fun q h => .inl h))
    refine ⟨⟨Nat.le_trans h1.size g.size, fun q ob h2 h3 h4 => ?_⟩, fun q ob ha h2 => ?_⟩
    · have h5 := h1.1.2 q ob h2 h3 h4
      have hq := (Array.getElem?_eq_some_iff.1 h2).1
      exact (g.block q (Array.getElem?_eq_some_iff.1 h5).1 (fun e => by have := Option.some.inj e; omega)).trans h5
    · have h5 := h1.2 q ob ha h2
      have hq := (Array.getElem?_eq_some_iff.1 h2).1
      exact (g.block q (Array.getElem?_eq_some_iff.1 h5).1 (fun e => by have := Option.some.inj e; omega)).trans h5
  · exact ((hW.mono hB).trans hb).grown g (by have := hW.size; have := hb.size; omega) (fun q e => by cases e; omega)
/-- A run that has a book under way: how it stood, how it stands; the call's first blocks are none of the book's. -/
structure BkRun (A : Nat → Prop) (o o' : Option BkSt) (w cur : World) (B N : Nat) : Prop where
  at_ : BkAt (wideA A w N) cur B o'
  frm : BkFrm A o w cur
  bel : Below B w cur
  hN : N ≤ cur.heap.size
  hB : B ≤ w.heap.size
  hA : ∀ q, A q → q < w.heap.size
  maps : bkMaps o' = bkMaps o
  ptr : bkPtr o' = bkPtr o
theorem BkRun.start {A : Nat → Prop} {o : Option BkSt} {w W : World} {B : Nat} (hW : Below w.heap.size w W) (ho : BkAt A w B o) (hB : B ≤ w.heap.size) (hA : ∀ q, A q → q < w.heap.size) : BkRun A o o w W B W.heap.size :=
  ⟨ho.wide hW, BkFrm.ofBelow hW, hW.mono hB, Nat.le_refl _, hB, hA, rfl, rfl⟩
theorem BkRun.size {A : Nat → Prop} {o o' : Option BkSt} {w cur : World} {B N : Nat} (h : BkRun A o o' w cur B N) : w.heap.size ≤ cur.heap.size := h.bel.size
theorem BkRun.le {A : Nat → Prop} {o o' : Option BkSt} {w cur : World} {B N : Nat} (h : BkRun A o o' w cur B N) : B ≤ cur.heap.size := Nat.le_trans h.hB h.bel.size
theorem BkRun.aw {A : Nat → Prop} {o o' : Option BkSt} {w cur : World} {B N : Nat} (h : BkRun A o o' w cur B N) : ∀ q, wideA A w N q → q < cur.heap.size :=
  fun q hq => hq.elim (fun hq => Nat.lt_of_lt_of_le (h.hA q hq) h.bel.size) (fun hq => Nat.lt_of_lt_of_le hq.2 h.hN)
theorem BkRun.below {A : Nat → Prop} {o o' : Option BkSt} {w cur new : World} {B N : Nat} (h : BkRun A o o' w cur B N) (b : Below cur.heap.size cur new) : BkRun A o o' w new B N :=
  ⟨h.at_.below b, h.frm.trans (BkFrm.ofBelow b), h.bel.trans (b.mono h.le), Nat.le_trans h.hN b.size, h.hB, h.hA, h.maps, h.ptr⟩
theorem BkRun.drew {A : Nat → Prop} {o o' : Option BkSt} {w cur : World} {B N : Nat} (h : BkRun A o o' w cur B N) : BkRun A o o' w cur.drew B N := h.below (below_drewN (Below.refl _ _) 1)
/-- a callee that noted something. -/
theorem BkRun.call {A : Nat → Prop} {o o' o2 : Option BkSt} {w cur new : World} {B N : Nat} (h : BkRun A o o' w cur B N) (k : BkAt (wideA A w N) new B o2) (f : BkFrm (wideA A w N) o' cur new) (b : Below B cur new) (hm : bkMaps o2 = bkMaps o') (hp : bkPtr o2 = bkPtr o') : BkRun A o o2 w new B N :=
  ⟨k, h.frm.trans (by unfold BkFrm at f ⊢; rw [h.maps] at f; exact f.narrow (fun q h => .inl h)), h.bel.trans b, Nat.le_trans h.hN b.size, h.hB, h.hA, hm.trans h.maps, hp.trans h.ptr⟩
theorem BkRun.note {A : Nat → Prop} {o o' : Option BkSt} {f0 : FactT} {w cur new : World} {B N : Nat} (h : BkRun A o o' w cur B N) (k : BkAt (wideA A w N) new B (bkNote o' f0)) (f : BkFrm (wideA A w N) o' cur new) (b : Below B cur new) : BkRun A o (bkNote o' f0) w new B N :=
  h.call k f b (bkMaps_note _ _) (bkPtr_note _ _)
theorem BkRun.store {A : Nat → Prop} {o o' : Option BkSt} {w cur new : World} {B N r : Nat} (h : BkRun A o o' w cur B N) (g : cur.grownBy new (some r)) (hr : w.heap.size ≤ r) (hr2 : r < N) : BkRun A o o' w new B N := by
  have hle := h.le
  have hB := h.hB
  refine ⟨h.at_.store (.inr ⟨hr, hr2⟩) g, ?_, h.bel.grown g hle (fun q e => by cases e; omega), Nat.le_trans h.hN g.size, h.hB, h.hA, h.maps, h.ptr⟩
  have h1 := h.frm
  refine ⟨⟨Nat.le_trans h1.size g.size, fun q ob h2 h3 h4 => ?_⟩, fun q ob ha h2 => ?_⟩
  · have h5 := h1.1.2 q ob h2 h3 h4
    have hq := (Array.getElem?_eq_some_iff.1 h2).1
    exact (g.block q (Array.getElem?_eq_some_iff.1 h5).1 (fun e => by have := Option.some.inj e; omega)).trans h5
  · have h5 := h1.2 q ob ha h2
    have hq := (Array.getElem?_eq_some_iff.1 h2).1
    exact (g.block q (Array.getElem?_eq_some_iff.1 h5).1 (fun e => by have := Option.some.inj e; omega)).trans h5
theorem BkRun.done {A : Nat → Prop} {o o' : Option BkSt} {w cur : World} {B N : Nat} (h : BkRun A o o' w cur B N) : BkAt A cur B o' ∧ BkFrm A o w cur ∧ Below B w cur :=
  ⟨h.at_.narrow (fun q h => .inl h), h.frm, h.bel⟩
theorem BkRun.pv {A : Nat → Prop} {o o' : Option BkSt} {w cur : World} {B N : Nat} (h : BkRun A o o' w cur B N) {pv : Value} (hp : pv = bkPtr o) : pv = bkPtr o' := hp.trans h.ptr.symm
theorem BkAt.frm {A A' : Nat → Prop} {T : TypeId → Prop} {w w' : World} {B : Nat} {o : Option BkSt} (h : BkAt A w B o) (f : Frm A' T (fun _ => False) w w') (hT : ¬ T 64 ∧ ¬ T 68 ∧ ¬ T 26 ∧ ¬ T 3) : BkAt A w' B o := by
  cases o with
  | none => trivial
  | some s => exact ⟨h.1.frm f hT ⟨id, id, id⟩, h.2⟩
theorem BkAt.le {A : Nat → Prop} {w : World} {B : Nat} {s : BkSt} (h : BkAt A w B (some s)) : B ≤ w.heap.size := by
  obtain ⟨h1, -⟩ := h
  obtain ⟨fv, hk, -⟩ := h1.box
  have e1 := h1.above.1
  have e2 := hk.lt
  omega
theorem FOk.of12 {k y z : HsT} (hk : k.length = 32) (hy : y.length = 32) (hz : z.length = 32) : FOk ⟨[k], [y, z]⟩ :=
  ⟨fun x hx => by rw [List.mem_singleton.1 hx]; exact hk, fun x hx => by rcases List.mem_cons.1 hx with rfl | hx; exact hy; rw [List.mem_singleton.1 hx]; exact hz, by simp, by simp⟩
/-- Many notes. -/
def bkNotes (o : Option BkSt) (l : List FactT) : Option BkSt := l.foldl bkNote o
theorem bkNotes_app (o : Option BkSt) (l m : List FactT) : bkNotes o (l ++ m) = bkNotes (bkNotes o l) m := List.foldl_append
theorem bkNotes_snoc (o : Option BkSt) (l : List FactT) (f : FactT) : bkNotes o (l ++ [f]) = bkNote (bkNotes o l) f := by rw [bkNotes_app]; rfl
theorem bkMaps_notes (o : Option BkSt) (l : List FactT) : bkMaps (bkNotes o l) = bkMaps o := by
  induction l generalizing o with
  | nil => rfl
  | cons f l ih => exact (ih (bkNote o f)).trans (bkMaps_note o f)
theorem bkPtr_notes (o : Option BkSt) (l : List FactT) : bkPtr (bkNotes o l) = bkPtr o := by
  induction l generalizing o with
  | nil => rfl
  | cons f l ih => exact (ih (bkNote o f)).trans (bkPtr_note o f)
theorem BkRoom.notes {k : Nat} : ∀ {l : List FactT} {o : Option BkSt}, BkRoom (l.length + k) o → (∀ f ∈ l, f.ins.length ≤ 8) → BkRoom k (bkNotes o l)
  | [], o, h, _ => h.less (by simp)
  | f :: l, o, h, hf => BkRoom.notes (l := l) (o := bkNote o f) (BkRoom.note (h.less (by simp only [List.length_cons]; omega)) (hf f List.mem_cons_self)) (fun g hg => hf g (List.mem_cons_of_mem _ hg))
/-- A row of one's own that grows, whose elements are none of the book's. -/
theorem BkRun.own {A : Nat → Prop} {o o' : Option BkSt} {w cur new : World} {B N : Nat} (h : BkRun A o o' w cur B N) {base : Nat} {e : TypeId} {size n : Nat} {v : Value} {xs : List Value} (hv : cur.ownsRow base e size v n xs) (hb : w.heap.size ≤ base) (g : cur.grownBy new v.ownBlock)
    (he : ¬ (64 = e) ∧ ¬ (68 = e) ∧ ¬ (26 = e) ∧ ¬ (3 = e)) : BkRun A o o' w new B N := by
  have hle := h.le
  have hB := h.hB
  have hge : ∀ q, v.ownBlock = some q → w.heap.size ≤ q := fun q hq => Nat.le_trans hb (hv.lt q hq).1
  refine ⟨h.at_.frm (A' := fun _ => False) (T := fun t => t = e) (Frm.grownOwn hv g rfl (fun _ _ h => h)) he, ?_, h.bel.grown g hle (fun q e => by have := hge q e; omega), Nat.le_trans h.hN g.size, h.hB, h.hA, h.maps, h.ptr⟩
  have h1 := h.frm
  refine ⟨⟨Nat.le_trans h1.size g.size, fun q ob h2 h3 h4 => ?_⟩, fun q ob ha h2 => ?_⟩
  · have h5 := h1.1.2 q ob h2 h3 h4
    have hq := (Array.getElem?_eq_some_iff.1 h2).1
    exact (g.block q (Array.getElem?_eq_some_iff.1 h5).1 (fun e => by have := hge q e.symm; omega)).trans h5
  · have h5 := h1.2 q ob ha h2
    have hq := (Array.getElem?_eq_some_iff.1 h2).1
    exact (g.block q (Array.getElem?_eq_some_iff.1 h5).1 (fun e => by have := hge q e.symm; omega)).trans h5
/-- A note under way. -/
theorem BkRun.note_calls {A : Nat → Prop} {o o' : Option BkSt} {w cur : World} {B N : Nat} (h : BkRun A o o' w cur B N) {pv : Value} (hpv : pv = bkPtr o) (x y : Value) (f : FactT) (hxy : ∀ w', BkFrm (wideA A w N) o' cur w' → Below B cur w' → HashesAt w' x f.ins ∧ HashesAt w' y f.outs) (hf : FOk f) (hr : BkRoom 1 o') :
    Calls Try.prog 26 #[pv, .agg #[x, y]] cur fun e w' => e = .returned (.int .i64 (noteE f)) ∧ BkRun A o (bkNote o' f) w w' B N ∧ BkFrm (wideA A w N) o' cur w' ∧ Below B cur w' := by
  rw [h.pv hpv]
  exact (NoteO_calls x y f B o' cur h.at_ hxy hf hr h.le h.aw).mono fun e w' ⟨h1, h2, h3, h4⟩ => ⟨h1, h.note h2 h3 h4, h3, h4⟩
end Go.Proofs.Ytjlpdbaknhbgdaa
