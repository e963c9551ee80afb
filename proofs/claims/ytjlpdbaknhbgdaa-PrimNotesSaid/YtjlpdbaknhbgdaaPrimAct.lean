/-
  The laws PrimNotes and PrimLearns: what is read of an act, and what the noting of acts leaves in the book.
-/
import Derived.Test.YtjlpdbaknhbgdaaPrimBk2
import Derived.Test.YtjlpdbaknhbgdaaBookOpen
set_option linter.unusedSimpArgs false
set_option linter.unusedVariables false
namespace Go.Proofs.Ytjlpdbaknhbgdaa
open Go.RowKit

/-- An act, as the law's argument has it. -/
structure ActA where
  d : UInt8
  a : HsT
  b : HsT
  s : List UInt8
  sv : Value
  ha : a.length = 32
  hb : b.length = 32
def ActA.cells (c : ActA) : List Value := bv c.d :: (c.a.map bv ++ (c.b.map bv ++ [.string (str c.s), c.sv]))
theorem ActA.cells_len (c : ActA) : c.cells.length = 67 := by simp [ActA.cells, c.ha, c.hb]
abbrev Acts5 := Elems ActA.cells 67
def ActOk (w : World) (c : ActA) : Prop := ∃ L, HashesAt w c.sv L ∧ L.length ≤ maxLen ∧ c.s.length ≤ maxLen
theorem Try.cellsAct : Try.prog.cellsOf 28 = 67 := by kernel_rfl
theorem Try.cellsA_h : Try.prog.cellsOf 26 = 32 := by kernel_rfl
theorem Try.cellsA_s : Try.prog.cellsOf 9 = 1 := by kernel_rfl
theorem Try.cellsA_u : Try.prog.cellsOf 5 = 1 := by kernel_rfl
section
open Go.ChangeShapes Go.WideShapes
variable {H : Type} {enc : TypeId × Value → H} {w : World} {base : Nat} {held : Bool} {fuel : Nat} {x : DataW H × List MemPlace}
theorem act_join (l : List Value) (h : l.length = 67) : l = (l.drop 0).take 1 ++ ((l.drop 1).take 32 ++ ((l.drop 33).take 32 ++ ((l.drop 65).take 1 ++ (l.drop 66).take 1))) := by
  have e : ∀ (a n m : Nat), (l.drop a).take n ++ (l.drop (a + n)).take m = (l.drop a).take (n + m) := fun a n m => by rw [← List.drop_drop, ← List.take_add]
  rw [e 65 1 1, e 33 32 2, e 1 32 34, e 0 1 66, List.drop_zero, List.take_of_length_le (by omega)]
set_option maxRecDepth 100000 in
theorem trod_act {l : List Value} (h : DataW.trod enc Try.prog w base (fun _ => true) held fuel 28 l = some x) : ∃ c : ActA, ActOk w c ∧ l = c.cells := by
  obtain ⟨xs, m, _, _, hl, hx, hf⟩ := DataW.trod_struct Try.underlying28 h
  rw [Try.cellsAct] at hl
  match xs, hx with
  | [y0, y1, y2, y3, y4], _ =>
    have f0 : DataW.trod enc Try.prog w base (fun _ => true) held m 5 ((l.drop 0).take (Try.prog.cellsOf 5)) = some y0 := hf 0 _ rfl
    have f1 : DataW.trod enc Try.prog w base (fun _ => true) held m 26 ((l.drop 1).take (Try.prog.cellsOf 26)) = some y1 := hf 1 _ rfl
    have f2 : DataW.trod enc Try.prog w base (fun _ => true) held m 26 ((l.drop 33).take (Try.prog.cellsOf 26)) = some y2 := hf 2 _ rfl
    have f3 : DataW.trod enc Try.prog w base (fun _ => true) held m 9 ((l.drop 65).take (Try.prog.cellsOf 9)) = some y3 := hf 3 _ rfl
    have f4 : DataW.trod enc Try.prog w base (fun _ => true) held m 23 ((l.drop 66).take (Try.prog.cellsOf 23)) = some y4 := hf 4 _ rfl
    rw [Try.cellsA_u] at f0
    rw [Try.cellsA_h] at f1 f2
    rw [Try.cellsA_s] at f3
    rw [Try.cellsHs] at f4
    obtain ⟨k, e0⟩ := trod_u8 f0
    obtain ⟨a, ha, e1⟩ := trod_hash f1
    obtain ⟨b, hb, e2⟩ := trod_hash f2
    obtain ⟨s, e3, hs⟩ := trod_str f3
    obtain ⟨v, L, e4, hL, hLm⟩ := trod_hashes f4
    refine ⟨⟨k, a, b, s, v, ha, hb⟩, ⟨L, hL, hLm, hs⟩, ?_⟩
    rw [act_join l hl, e0, e1, e2, e3, e4]
    rfl
set_option maxRecDepth 100000 in
theorem open_acts {v : Value} {d : DataW H} {p : List MemPlace} {r : Reach} {b0 : Nat} (hv : Value.okWide Try.prog w r b0 22 v) (h : DataW.Trod enc Try.prog w base (fun _ => true) held 22 v d p) :
    ∃ ao len cap xs, v = .slice ao len cap ∧ len ≤ maxLen ∧ Acts5 w ao len xs ∧ ∀ x ∈ xs, ActOk w x :=
  open_elems (cells := ActA.cells) (size := 67) (ok := ActOk w) Try.underlying22 Try.cellsAct (fun c => ⟨by rw [ActA.cells_len]; omega, by rw [ActA.cells_len]; omega⟩) (fun l m y hl => trod_act hl) hv h
end
theorem acts_lists {w : World} : ∀ {xs : List ActA}, (∀ x ∈ xs, ActOk w x) → ∃ Ls : List (List HsT), Ls.length = xs.length ∧ ∀ (i : Nat) (c : ActA) (L : List HsT), xs[i]? = some c → Ls[i]? = some L → HashesAt w c.sv L ∧ L.length ≤ maxLen ∧ c.s.length ≤ maxLen
  | [], _ => ⟨[], rfl, fun i c L h => by simp at h⟩
  | c :: xs, h => by
    obtain ⟨Ls, e1, e2⟩ := acts_lists (xs := xs) (fun x hx => h x (List.mem_cons_of_mem _ hx))
    obtain ⟨L, e3⟩ := h c List.mem_cons_self
    refine ⟨L :: Ls, by simp [e1], fun i c' L' h1 h2 => ?_⟩
    cases i with
    | zero =>
      obtain rfl : c = c' := by simpa using h1
      obtain rfl : L = L' := by simpa using h2
      exact e3
    | succ i => exact e2 i c' L' (by simpa using h1) (by simpa using h2)
section
variable {w : World} {g o : Nat} {c : ActA}
theorem act_d (h : w.rangeAt g o c.cells) : w.cell? ⟨g, o, none⟩ = some (.int .u8 (c.d.toNat : Int)) := h 0 _ rfl
theorem act_a (h : w.rangeAt g o c.cells) : w.rangeAt g (o + 1) (c.a.map bv) := fun j u hj => by
  have hlt : j < c.a.length := by have := (List.getElem?_eq_some_iff.1 hj).1; simpa using this
  have := h (j + 1) u (by rw [ActA.cells, List.getElem?_cons_succ, List.getElem?_append_left (by simpa using hlt)]; exact hj)
  rwa [show o + 1 + j = o + (j + 1) by omega]
theorem act_b (h : w.rangeAt g o c.cells) : w.rangeAt g (o + 33) (c.b.map bv) := fun j u hj => by
  have hlt : j < c.b.length := by have := (List.getElem?_eq_some_iff.1 hj).1; simpa using this
  have ha := c.ha
  have := h (j + 33) u (by
    rw [ActA.cells, show j + 33 = (j + 32) + 1 by omega, List.getElem?_cons_succ, List.getElem?_append_right (by simp [ha]), List.length_map, ha, Nat.add_sub_cancel, List.getElem?_append_left (by simpa using hlt)]
    exact hj)
  rwa [show o + 33 + j = o + (j + 33) by omega]
theorem act_s (h : w.rangeAt g o c.cells) : w.cell? ⟨g, o + 65, none⟩ = some (.string (str c.s)) := h 65 _ (by
  rw [ActA.cells, show 65 = 64 + 1 from rfl, List.getElem?_cons_succ, List.getElem?_append_right (by simp [c.ha]), List.length_map, c.ha, List.getElem?_append_right (by simp [c.hb]), List.length_map, c.hb]
  rfl)
theorem act_v (h : w.rangeAt g o c.cells) : w.cell? ⟨g, o + 66, none⟩ = some c.sv := h 66 _ (by
  rw [ActA.cells, show 66 = 65 + 1 from rfl, List.getElem?_cons_succ, List.getElem?_append_right (by simp [c.ha]), List.length_map, c.ha, List.getElem?_append_right (by simp [c.hb]), List.length_map, c.hb]
  rfl)
end
theorem actsLt {w : World} {g off len : Nat} {xs : List ActA} (h : Acts5 w (some ⟨g, off, none⟩) len xs) (h0 : 0 < len) : g < w.heap.size := by
  rcases h.2 with h1 | ⟨b, o, e, hlt, _⟩
  · omega
  · simp only [Option.some.injEq, Addr.mk.injEq] at e
    rw [e.1]; exact hlt
/-- Few facts, each of few secrets. -/
structure FsB (fs : List FactT) (n : Nat) : Prop where
  ok : ∀ f ∈ fs, FOk f
  len : fs.length ≤ n
  ins : (fs.flatMap (·.ins)).length ≤ 2 * n
  outs : (fs.flatMap (·.outs)).length ≤ 40 * n
theorem FsB.nil : FsB [] 0 := ⟨fun f h => (by cases h), by simp, by simp, by simp⟩
theorem FsB.mono {fs : List FactT} {n m : Nat} (h : FsB fs n) (hm : n ≤ m) : FsB fs m := ⟨h.ok, Nat.le_trans h.len hm, by have := h.ins; omega, by have := h.outs; omega⟩
def FSmall (f : FactT) : Prop := FOk f ∧ f.ins.length ≤ 2 ∧ f.outs.length ≤ 40
theorem FsB.note {fs : List FactT} {n : Nat} {f : FactT} (h : FsB fs n) (hf : FSmall f) : FsB (noteT fs f) (n + 1) := by
  obtain ⟨hf, h1, h2⟩ := hf
  refine ⟨noteT_ok h.ok hf, ?_, ?_, ?_⟩
  · have := noteT_len1 fs f; have := h.len; omega
  · have := noteT_ins fs f; have := h.ins; omega
  · have := noteT_outs fs f; have := h.outs; omega
theorem FsB.fold {l : List FactT} : ∀ {fs : List FactT} {n : Nat}, FsB fs n → (∀ f ∈ l, FSmall f) → FsB (l.foldl noteT fs) (n + l.length) := by
  induction l with
  | nil => intro fs n h _; exact h
  | cons f l ih =>
    intro fs n h hl
    have := ih (h.note (hl f List.mem_cons_self)) (fun g hg => hl g (List.mem_cons_of_mem _ hg))
    rw [List.foldl_cons, List.length_cons]
    exact this.mono (by omega)
theorem FsB.univLe {fs : List FactT} {n : Nat} (h : FsB fs n) {a : List HsT} (ha : a.length ≤ 1000) (hn : n ≤ 1000) : (univ fs a).length ≤ 500000 := by
  have := h.outs
  unfold univ
  rw [List.length_append]
  omega
theorem FsB.room {fs : List FactT} {n k : Nat} {s : BkSt} (h : FsB fs n) (hs : s.fs = fs) (hn : n ≤ 1000) (hk : k ≤ 1000) : BkRoom k (some s) := by
  have h1 := h.len
  have h2 := h.ins
  rw [← hs] at h1 h2
  exact ⟨by omega, by omega⟩
/-- What a wrap notes, as a list. -/
def wrapL (p once : HsT) (L : List HsT) : List FactT := [⟨[markT p], [sharedT p once]⟩, ⟨[once], [sharedT p once]⟩, ⟨[sharedT p once], L⟩]
theorem noteT_none (fs : List FactT) (k : HsT) : noteT fs ⟨[k], []⟩ = fs := by simp [noteT]
theorem sealF_some (s : BkSt) (k : HsT) (L : List HsT) : sealF (some s) k L = some { s with fs := noteT s.fs ⟨[k], L⟩ } := by
  unfold sealF
  split
  · rename_i h
    rw [h, noteT_none]
  · rfl
theorem wrapF_some (s : BkSt) (p once : HsT) (L : List HsT) : wrapF (some s) p once L = some { s with fs := (wrapL p once L).foldl noteT s.fs } := sealF_some _ _ _
theorem wrapL_small {p once : HsT} {L : List HsT} (ho : once.length = 32) (hL : ∀ x ∈ L, x.length = 32) (hl : L.length ≤ 40) : ∀ f ∈ wrapL p once L, FSmall f := fun f hf => by
  have hk := sharedT_len p once
  have hm := markT_len p
  simp only [wrapL, List.mem_cons, List.not_mem_nil, or_false] at hf
  rcases hf with rfl | rfl | rfl
  · exact ⟨FOk.of11 hm hk, by simp, by simp⟩
  · exact ⟨FOk.of11 ho hk, by simp, by simp⟩
  · exact ⟨FOk.of1n hk hL (by omega), by simp, hl⟩
theorem nT_sub {fs : List FactT} {f g : FactT} (h : g ∈ noteT fs f) : g ∈ fs ∨ g = f := by
  unfold noteT at h
  split at h
  · exact .inl h
  · rcases List.mem_append.1 h with h | h
    · exact .inl h
    · exact .inr (List.mem_singleton.1 h)
theorem nT_mono {fs : List FactT} {f g : FactT} (h : g ∈ fs) : g ∈ noteT fs f := by
  unfold noteT
  split
  · exact h
  · exact List.mem_append_left _ h
theorem nT_self {fs : List FactT} {f : FactT} (h : f.outs ≠ []) : f ∈ noteT fs f := by
  unfold noteT
  split
  · rename_i h1
    rcases h1 with h1 | h1
    · exact absurd h1 h
    · exact h1
  · exact List.mem_append_right _ (List.mem_singleton.2 rfl)
/-- Who knows the secret key knows the mark, and all that was wrapped. -/
structure LearnT (fs : List FactT) (a m : HsT) (Ls : List (List HsT)) (i : Nat) : Prop where
  mark : Fol fs [a] m
  secs : ∀ j L, j < i → Ls[j]? = some L → ∀ x ∈ L, Fol fs [a] x
  some_ : ∀ f ∈ fs, f.ins ≠ []
theorem LearnT.start (a m : HsT) (Ls : List (List HsT)) : LearnT (noteT [] ⟨[a], [m]⟩) a m Ls 0 := by
  have hmem : (⟨[a], [m]⟩ : FactT) ∈ noteT [] ⟨[a], [m]⟩ := nT_self (by simp)
  refine ⟨.step hmem (fun x hx => .base hx) (by simp), fun j L hj => by omega, fun f hf => ?_⟩
  rcases nT_sub hf with h | rfl
  · cases h
  · simp
theorem LearnT.step {fs : List FactT} {a p once : HsT} {Ls : List (List HsT)} {i : Nat} {L : List HsT} (h : LearnT fs a (markT p) Ls i) (hL : Ls[i]? = some L) : LearnT ((wrapL p once L).foldl noteT fs) a (markT p) Ls (i + 1) := by
  obtain ⟨k, hk⟩ : ∃ k, k = sharedT p once := ⟨_, rfl⟩
  have e : (wrapL p once L).foldl noteT fs = noteT (noteT (noteT fs ⟨[markT p], [k]⟩) ⟨[once], [k]⟩) ⟨[k], L⟩ := by rw [hk]; rfl
  rw [e]
  have hsub : ∀ f ∈ fs, f ∈ noteT (noteT (noteT fs ⟨[markT p], [k]⟩) ⟨[once], [k]⟩) ⟨[k], L⟩ := fun f hf => nT_mono (nT_mono (nT_mono hf))
  have h1 : (⟨[markT p], [k]⟩ : FactT) ∈ noteT (noteT (noteT fs ⟨[markT p], [k]⟩) ⟨[once], [k]⟩) ⟨[k], L⟩ := nT_mono (nT_mono (nT_self (by simp)))
  have hm : Fol (noteT (noteT (noteT fs ⟨[markT p], [k]⟩) ⟨[once], [k]⟩) ⟨[k], L⟩) [a] (markT p) := Fol.mono hsub (fun x hx => .base hx) h.mark
  have hkF : Fol (noteT (noteT (noteT fs ⟨[markT p], [k]⟩) ⟨[once], [k]⟩) ⟨[k], L⟩) [a] k := .step h1 (fun x hx => by rw [List.mem_singleton.1 hx]; exact hm) (by simp)
  refine ⟨hm, fun j M hj hM x hx => ?_, fun f hf => ?_⟩
  · by_cases hji : j < i
    · exact Fol.mono hsub (fun x hx => .base hx) (h.secs j M hji hM x hx)
    · obtain rfl : j = i := by omega
      obtain rfl : L = M := by rw [hL] at hM; exact Option.some.inj hM
      exact .step (nT_self (f := ⟨[k], L⟩) (by intro e0; simp at e0; rw [e0] at hx; cases hx)) (fun y hy => by rw [List.mem_singleton.1 hy]; exact hkF) hx
  · rcases nT_sub hf with hf | rfl
    · rcases nT_sub hf with hf | rfl
      · rcases nT_sub hf with hf | rfl
        · exact h.some_ f hf
        · simp
      · simp
    · simp
theorem fol_none {fs : List FactT} (h : ∀ f ∈ fs, f.ins ≠ []) {x : HsT} (hx : Fol fs [] x) : False := by
  induction hx with
  | base h1 => cases h1
  | step hf _ _ ih =>
    rename_i f y h2 h3
    cases hi : f.ins with
    | nil => exact h f hf hi
    | cons z l => exact ih z (by rw [hi]; exact List.mem_cons_self)
end Go.Proofs.Ytjlpdbaknhbgdaa
