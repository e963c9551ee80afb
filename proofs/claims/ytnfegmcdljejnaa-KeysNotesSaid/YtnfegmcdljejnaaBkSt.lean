/-
  A book or none: one contract for a note.
-/
import Derived.Test.YtnfegmcdljejnaaBookNote
import Derived.Test.YtnfegmcdljejnaaBookSmall
set_option linter.unusedSimpArgs false
set_option linter.unusedVariables false
namespace Go.Proofs.Ytnfegmcdljejnaa
open Go.RowKit

/-- A book's places, facts and names. -/
structure BkSt where
  b : Nat
  sm : Nat
  nm : Nat
  dm : Nat
  fs : List FactT
  names : List UInt8 → Option Value
def bkPtr : Option BkSt → Value
  | none => .pointer none
  | some s => .pointer (some ⟨s.b, 0, none⟩)
/-- So many notes more may come. -/
def BkRoom (k : Nat) : Option BkSt → Prop
  | none => True
  | some s => s.fs.length + k ≤ 1000000 ∧ (s.fs.flatMap (·.ins)).length + 8 * k ≤ 9000000
def BkAt (A : Nat → Prop) (w : World) (B : Nat) : Option BkSt → Prop
  | none => True
  | some s => BookIs A w B s.b s.sm s.nm s.dm s.fs s.names ∧ (∀ f ∈ s.fs, FOk f) ∧ NamesOk s.names
def bkNote (o : Option BkSt) (f : FactT) : Option BkSt := o.map fun s => { s with fs := noteT s.fs f }
def bkMaps : Option BkSt → Nat → Prop
  | none, _ => False
  | some s, q => q = s.sm ∨ q = s.nm ∨ q = s.dm
def BkFrm (A : Nat → Prop) (o : Option BkSt) (w w' : World) : Prop := Frm A NT (bkMaps o) w w'
theorem bkPtr_note (o : Option BkSt) (f : FactT) : bkPtr (bkNote o f) = bkPtr o := by cases o <;> rfl
theorem bkMaps_note (o : Option BkSt) (f : FactT) : bkMaps (bkNote o f) = bkMaps o := by cases o <;> rfl
section
variable {A : Nat → Prop}
theorem BkFrm.refl (o : Option BkSt) (w : World) : BkFrm A o w w := Frm.refl _
theorem BkFrm.trans {o : Option BkSt} {a b c : World} (h : BkFrm A o a b) (g : BkFrm A o b c) : BkFrm A o a c := Frm.trans h g
theorem BkFrm.ofBelow {o : Option BkSt} {w w' : World} (b : Below w.heap.size w w') : BkFrm A o w w' := Frm.ofBelow b
theorem BkFrm.narrow {A' : Nat → Prop} {o : Option BkSt} {w w' : World} (h : BkFrm A o w w') (hA : ∀ q, A' q → A q) : BkFrm A' o w w' := Frm.narrow h hA
theorem BkFrm.note {o : Option BkSt} {f : FactT} {w w' : World} (h : BkFrm A (bkNote o f) w w') : BkFrm A o w w' := by
  unfold BkFrm at h ⊢
  rwa [bkMaps_note] at h
theorem BkAt.below {w w' : World} {B : Nat} {o : Option BkSt} (h : BkAt A w B o) (b : Below w.heap.size w w') : BkAt A w' B o := by
  cases o with
  | none => trivial
  | some s => exact ⟨h.1.below b, h.2⟩
theorem BkAt.drew {w : World} {B : Nat} {o : Option BkSt} (h : BkAt A w B o) : BkAt A w.drew B o := h.below (below_drewN (Below.refl _ _) 1)
theorem BkAt.narrow {A' : Nat → Prop} {w : World} {B : Nat} {o : Option BkSt} (h : BkAt A w B o) (hA : ∀ q, A' q → A q) : BkAt A' w B o := by
  cases o with
  | none => trivial
  | some s => exact ⟨h.1.narrow hA, h.2⟩
theorem BkAt.widen {A' : Nat → Prop} {w : World} {B : Nat} {o : Option BkSt} (h : BkAt A w B o) (hA : ∀ q, A' q → A q ∨ w.heap.size ≤ q) : BkAt A' w B o := by
  cases o with
  | none => trivial
  | some s => exact ⟨h.1.widen hA, h.2⟩
/-- A write into a block that is none of the book's. -/
theorem BkAt.store {w w' : World} {B : Nat} {o : Option BkSt} {r : Nat} (h : BkAt A w B o) (hr : A r) (g : w.grownBy w' (some r)) : BkAt A w' B o := by
  cases o with
  | none => trivial
  | some s => exact ⟨h.1.apart_ hr g, h.2⟩
end
theorem noteT_len1 (fs : List FactT) (f : FactT) : (noteT fs f).length ≤ fs.length + 1 := by
  unfold noteT
  split <;> simp
theorem noteT_ins (fs : List FactT) (f : FactT) : ((noteT fs f).flatMap (·.ins)).length ≤ (fs.flatMap (·.ins)).length + f.ins.length := by
  unfold noteT
  split
  · omega
  · rw [List.flatMap_append, List.length_append]; simp
theorem BkRoom.note {k : Nat} {o : Option BkSt} {f : FactT} (h : BkRoom (k + 1) o) (hf : f.ins.length ≤ 8) : BkRoom k (bkNote o f) := by
  cases o with
  | none => trivial
  | some s =>
    obtain ⟨h1, h2⟩ := h
    have e1 := noteT_len1 s.fs f
    have e2 := noteT_ins s.fs f
    exact ⟨by show (noteT s.fs f).length + k ≤ _; omega, by show ((noteT s.fs f).flatMap _).length + _ ≤ _; omega⟩
theorem BkRoom.less {k j : Nat} {o : Option BkSt} (h : BkRoom k o) (hj : j ≤ k) : BkRoom j o := by
  cases o with
  | none => trivial
  | some s => obtain ⟨h1, h2⟩ := h; exact ⟨by omega, by omega⟩
theorem noteT_ok {fs : List FactT} {f : FactT} (h : ∀ g ∈ fs, FOk g) (hf : FOk f) : ∀ g ∈ noteT fs f, FOk g := fun g hg => by
  unfold noteT at hg
  split at hg
  · exact h g hg
  · rcases List.mem_append.1 hg with hg | hg
    · exact h g hg
    · rw [List.mem_singleton.1 hg]; exact hf
/-- **Note** of a book, or of none. -/
theorem NoteO_calls {A : Nat → Prop} (x y : Value) (f : FactT) (B : Nat) (o : Option BkSt) (w : World) (ho : BkAt A w B o) (hxy : ∀ w', BkFrm A o w w' → Below B w w' → HashesAt w' x f.ins ∧ HashesAt w' y f.outs) (hf : FOk f) (hr : BkRoom 1 o) (hB : B ≤ w.heap.size) (hAw : ∀ q, A q → q < w.heap.size) :
    Calls Try.prog 105 #[bkPtr o, .agg #[x, y]] w fun e w' => e = .returned (.int .i64 (noteE f)) ∧ BkAt A w' B (bkNote o f) ∧ BkFrm A o w w' ∧ Below B w w' := by
  obtain ⟨hx0, hy0⟩ := hxy w (BkFrm.refl _ _) (Below.refl _ _)
  have hxs : ∃ ao n c, x = .slice ao n c := by obtain ⟨ao, c, e, -⟩ := hx0.slice; exact ⟨_, _, _, e⟩
  by_cases h0 : f.outs = []
  · refine (NoteEmpty_calls (bkPtr o) x y f w hy0 h0 hxs).mono fun e w' ⟨h1, h2⟩ => ⟨by rw [h1, (noteT_empty [] f h0).2], ?_, BkFrm.ofBelow h2, h2.mono hB⟩
    have : bkNote o f = o := by
      cases o with
      | none => rfl
      | some s => simp [bkNote, (noteT_empty s.fs f h0).1]
    rw [this]
    exact ho.below h2
  · cases o with
    | none => exact (NoteNil_calls4 x y f w hy0 h0 hxs hf.lo).mono fun e w' ⟨h1, h2⟩ => ⟨by rw [h1, noteE_ok f h0], trivial, BkFrm.ofBelow h2, h2.mono hB⟩
    | some s =>
      obtain ⟨h1, h2, h3⟩ := ho
      obtain ⟨r1, r2⟩ := hr
      have hxy' : ∀ w', Frm A NT (MM s.sm s.nm) w w' → Below B w w' → HashesAt w' x f.ins ∧ HashesAt w' y f.outs := fun w' g b => hxy w' (g.mono (fun _ e => e) (fun q e => e.elim (fun e => .inl e) (fun e => .inr (.inl e)))) b
      by_cases hm : f ∈ s.fs
      · refine (NoteSeen_calls x y f B s.b s.sm s.nm s.dm s.fs s.names w h1 hxy' hf h2 h0 (by omega) (by omega) hB hm hAw).mono fun e w' ⟨g1, g2⟩ => ⟨by rw [g1, noteE_ok f h0], ?_, BkFrm.ofBelow g2, g2.mono hB⟩
        have : bkNote (some s) f = some s := by simp [bkNote, noteT_mem s.fs f hm]
        rw [this]
        exact ⟨h1.below g2, h2, h3⟩
      · refine (NoteNew_calls x y f B s.b s.sm s.nm s.dm s.fs s.names w h1 hxy' hf h2 h0 (by omega) (by omega) hB hm hAw).mono fun e w' ⟨g1, g2, g3, g4⟩ => ⟨by rw [g1, noteE_ok f h0], ⟨?_, noteT_ok h2 hf, h3⟩, g3.mono (fun _ e => e) (fun q e => e.elim (fun e => .inl e) (fun e => .inr (.inl e))), g4⟩
        show BookIs A w' B s.b s.sm s.nm s.dm (noteT s.fs f) s.names
        rw [noteT_new s.fs f hm h0]
        exact g2
end Go.Proofs.Ytnfegmcdljejnaa
