/-
  What is read of the arguments: slices of digests, facts, namings.
-/
import Derived.Test.YtjlpdbaknhbgdaaRd
import Derived.Test.YtjlpdbaknhbgdaaBookRep
import Derived.ChangeSame
set_option linter.unusedSimpArgs false
set_option linter.unusedVariables false
namespace Go.Proofs.Ytjlpdbaknhbgdaa
open Go.RowKit Go.ChangeShapes Go.WideShapes

section
variable {H : Type} {enc : TypeId × Value → H} {w : World} {base : Nat} {held : Bool} {fuel : Nat} {x : DataW H × List MemPlace}
set_option maxRecDepth 100000 in
/-- A slice, element by element, with where it lies. -/
theorem trod_elems {α : Type} {cells : α → List Value} {size : Nat} {ok : α → Prop} {t e : TypeId} {l : List Value}
    (ht : Try.prog.underlying t = some (.slice e)) (hs : Try.prog.cellsOf e = size) (hpos : 0 < size) (h0 : ∀ a, (cells a).length = size)
    (hel : ∀ (l : List Value) (m : Nat) (y : DataW H × List MemPlace), DataW.trod enc Try.prog w base (fun _ => true) held m e l = some y → ∃ a : α, ok a ∧ l = cells a)
    (h : DataW.trod enc Try.prog w base (fun _ => true) held fuel t l = some x) :
    ∃ (ao : Option Addr) (len cap : Nat) (xs : List α), l = [.slice ao len cap] ∧ len ≤ cap ∧ cap ≤ maxLen ∧ xs.length = len ∧ (∀ x ∈ xs, ok x) ∧
      (cap = 0 ∨ ∃ b off, ao = some ⟨b, off, none⟩ ∧ b < w.heap.size ∧ ∀ i (hi : i < xs.length), w.rangeAt b (off + i * size) (cells xs[i])) := by
  rcases Go.Deep.open_slice ht h with ⟨hcs, _⟩ | ⟨a, len, cap, m, n, D, Pl, hcs, hb, hl, hm, hmm, _, hi⟩
  · exact ⟨none, 0, 0, [], hcs, Nat.le_refl _, by simp [maxLen], rfl, by simp, .inl rfl⟩
  · simp only [if_true] at hmm
    subst hmm
    have hex : ∀ i, i < m → ∃ t : α, ok t ∧ ∀ j v, (cells t)[j]? = some v → w.cell? (a.add (i * size + j)) = some v := by
      intro i hlt
      obtain ⟨cs', h1, h2⟩ := hi i hlt
      rw [hs] at h1
      obtain ⟨_, h36, hat⟩ := World.cells?_some h1
      obtain ⟨t, hok, rfl⟩ := hel _ _ _ h2
      refine ⟨t, hok, fun j v hj => ?_⟩
      have hj36 : j < size := by have := (List.getElem?_eq_some_iff.1 hj).1; rw [h0] at this; exact this
      rw [← Go.Deep.add_add, hat j hj36]
      exact hj
    have hlist : ∀ n, n ≤ m → ∃ xs : List α, xs.length = n ∧ (∀ x ∈ xs, ok x) ∧ ∀ i (hi : i < xs.length) j v, (cells xs[i])[j]? = some v → w.cell? (a.add (i * size + j)) = some v := by
      intro n
      induction n with
      | zero => intro _; exact ⟨[], rfl, by simp, fun i hi => absurd hi (by simp)⟩
      | succ n ih =>
        intro hn
        obtain ⟨xs, hx1, hx2, hx3⟩ := ih (by omega)
        obtain ⟨t, ht1, ht2⟩ := hex n (by omega)
        refine ⟨xs ++ [t], by simp [hx1], ?_, ?_⟩
        · intro x hx
          rcases List.mem_append.1 hx with hx | hx
          · exact hx2 x hx
          · simp at hx; subst hx; exact ht1
        · intro i hi j v hj
          by_cases hlt : i < xs.length
          · rw [List.getElem_append_left hlt] at hj
            exact hx3 i hlt j v hj
          · have : i = xs.length := by simp at hi; omega
            subst this
            simp at hj
            rw [hx1]
            exact ht2 j v hj
    obtain ⟨xs, hx1, hx2, hx3⟩ := hlist len hl
    refine ⟨some a, len, m, xs, hcs, hl, hm, hx1, hx2, ?_⟩
    by_cases hz : m = 0
    · exact .inl hz
    · right
      obtain ⟨t, _, ht⟩ := hex 0 (by omega)
      obtain ⟨b, off, spot⟩ := a
      have hc := ht 0 _ (List.getElem?_eq_getElem (by rw [h0]; exact hpos))
      have hsp : spot = none := by simpa [Addr.add] using World.cell?_spot hc
      subst hsp
      refine ⟨b, off, rfl, ?_, fun i hi j v hj => ?_⟩
      · have := World.block_lt_of_cell? _ _ hc
        simpa [Addr.add] using this
      · have := hx3 i hi j v hj
        rw [Addr.add_mid] at this
        rw [Nat.add_assoc]
        exact this
abbrev Hs32 := { l : List UInt8 // l.length = 32 }
set_option maxRecDepth 100000 in
theorem trod_hashes {l : List Value} (h : DataW.trod enc Try.prog w base (fun _ => true) held fuel 23 l = some x) : ∃ v L, l = [v] ∧ HashesAt w v L ∧ L.length ≤ maxLen := by
  obtain ⟨ao, len, cap, xs, hl, h1, h2, h3, -, h4⟩ := trod_elems (α := Hs32) (cells := fun a => a.1.map bv) (size := 32) (ok := fun _ => True) Try.underlying23 Try.cellsHash (by omega) (fun a => by rw [List.length_map, a.2]) (fun l m y hl => by obtain ⟨a, ha, hc⟩ := trod_hash hl; exact ⟨⟨a, ha⟩, trivial, hc⟩) h
  have h32 : ∀ s ∈ xs.map (·.1), s.length = 32 := fun s hs => by
    obtain ⟨a, _, rfl⟩ := List.mem_map.1 hs
    exact a.2
  refine ⟨_, xs.map (·.1), hl, ⟨h32, ?_⟩, by rw [List.length_map]; omega⟩
  rcases h4 with h0 | ⟨b, off, rfl, hb, hc⟩
  · have e : xs = [] := List.eq_nil_of_length_eq_zero (by omega)
    subst e
    refine .inl ⟨rfl, ao, ?_⟩
    rw [h0, show len = 0 by omega]
  · refine .inr ⟨b, off, cap, by rw [List.length_map, h3], by rw [List.length_map, h3]; exact h1, hb, fun j u hj => ?_⟩
    have hflat : ((xs.map (·.1)).flatMap (·.map bv)).length = xs.length * 32 := by rw [flatMap_len32 _ h32, List.length_map]
    have hlt : j < xs.length * 32 := by have := (List.getElem?_eq_some_iff.1 hj).1; omega
    have hi : j / 32 < xs.length := by omega
    have h5 := hashes_at (xs.map (·.1)) (j / 32) (xs[j / 32].1) (j % 32) h32 (by rw [List.getElem?_map, List.getElem?_eq_getElem hi]; rfl) (by omega)
    rw [show 32 * (j / 32) + j % 32 = j by omega, hj] at h5
    have h6 := hc (j / 32) hi (j % 32) u h5.symm
    rwa [show off + j / 32 * 32 + j % 32 = off + j by omega] at h6
set_option maxRecDepth 100000 in
theorem Try.cellsHs : Try.prog.cellsOf 23 = 1 := by kernel_rfl
set_option maxRecDepth 100000 in
theorem Try.cellsFact : Try.prog.cellsOf 68 = 2 := by kernel_rfl
set_option maxRecDepth 100000 in
theorem trod_fact {l : List Value} (h : DataW.trod enc Try.prog w base (fun _ => true) held fuel 68 l = some x) : ∃ a b f, l = [a, b] ∧ HashesAt w a (FactT.ins f) ∧ HashesAt w b f.outs ∧ f.ins.length ≤ maxLen ∧ f.outs.length ≤ maxLen := by
  obtain ⟨y0, y1, n, _, hl, h0, h1⟩ := trod_struct2 Try.underlying68 h
  rw [Try.cellsFact] at hl
  match l, hl with
  | [a, b], _ =>
    obtain ⟨u, L, e1, e2, e3⟩ := trod_hashes h0
    obtain ⟨v, M, e4, e5, e6⟩ := trod_hashes h1
    have c1 : ([a, b].drop 0).take (Try.prog.cellsOf 23) = [a] := by rw [Try.cellsHs]; rfl
    have c2 : ([a, b].drop 1).take (Try.prog.cellsOf 23) = [b] := by rw [Try.cellsHs]; rfl
    have d1 : [a] = [u] := c1.symm.trans e1
    have d2 : [b] = [v] := c2.symm.trans e4
    obtain rfl : a = u := by simpa using d1
    obtain rfl : b = v := by simpa using d2
    exact ⟨a, b, ⟨L, M⟩, rfl, e2, e5, e3, e6⟩
def FBound (f : FactT) : Prop := f.ins.length ≤ maxLen ∧ f.outs.length ≤ maxLen
set_option maxRecDepth 100000 in
theorem trod_facts {l : List Value} (h : DataW.trod enc Try.prog w base (fun _ => true) held fuel 62 l = some x) : ∃ v fs, l = [v] ∧ FactsAt w v fs ∧ fs.length ≤ maxLen ∧ ∀ f ∈ fs, FBound f := by
  obtain ⟨ao, len, cap, xs, hl, h1, h2, h3, hok, h4⟩ := trod_elems (α := Value × Value) (cells := fun a => [a.1, a.2]) (size := 2) (ok := fun a => ∃ f, HashesAt w a.1 (FactT.ins f) ∧ HashesAt w a.2 f.outs ∧ FBound f) Try.underlying62 Try.cellsFact (by omega) (fun a => rfl) (fun l m y hl => by obtain ⟨a, b, f, e1, e2, e3, e4⟩ := trod_fact hl; exact ⟨(a, b), ⟨f, e2, e3, e4⟩, e1⟩) h
  have hfs : ∃ fs : List FactT, fs.length = xs.length ∧ ∀ (i : Nat) (f : FactT) (p : Value × Value), fs[i]? = some f → xs[i]? = some p → HashesAt w p.1 f.ins ∧ HashesAt w p.2 f.outs ∧ FBound f := by
    clear h4 h3 hl
    induction xs with
    | nil => exact ⟨[], rfl, fun i f p hi => by simp at hi⟩
    | cons a xs ih =>
      obtain ⟨fs, e1, e2⟩ := ih (fun x hx => hok x (List.mem_cons_of_mem _ hx))
      obtain ⟨f, e3⟩ := hok a List.mem_cons_self
      refine ⟨f :: fs, by simp [e1], fun i g p hi hp => ?_⟩
      cases i with
      | zero =>
        obtain rfl : f = g := by simpa using hi
        obtain rfl : a = p := by simpa using hp
        exact e3
      | succ i => exact e2 i g p (by simpa using hi) (by simpa using hp)
  obtain ⟨fs, e1, e2⟩ := hfs
  refine ⟨_, fs, hl, ?_, by omega, fun f hf => ?_⟩
  · rcases h4 with h0 | ⟨b, off, rfl, hb, hc⟩
    · have e : fs = [] := List.eq_nil_of_length_eq_zero (by omega)
      refine .inl ⟨e, ao, ?_⟩
      rw [h0, show len = 0 by omega]
    · refine .inr ⟨b, off, cap, by rw [e1, h3], by rw [e1, h3]; exact h1, hb, fun i f hi => ?_⟩
      have hlt : i < xs.length := by rw [← e1]; exact (List.getElem?_eq_some_iff.1 hi).1
      have h5 := hc i hlt
      obtain ⟨h6, h7, _⟩ := e2 i f xs[i] hi (List.getElem?_eq_getElem hlt)
      exact ⟨xs[i].1, xs[i].2, h5 0 _ rfl, h5 1 _ rfl, h6, h7⟩
  · obtain ⟨i, hi⟩ := List.getElem?_of_mem hf
    have hlt : i < xs.length := by rw [← e1]; exact (List.getElem?_eq_some_iff.1 hi).1
    exact (e2 i f xs[i] hi (List.getElem?_eq_getElem hlt)).2.2
set_option maxRecDepth 100000 in
theorem slice_cells {v : Value} {ao : Option Addr} {n c : Nat} {u : Value} (hv : v = .slice ao n c) (h : v.cells.toList = [u]) : v = u := by
  subst hv
  simpa [Value.cells] using h
set_option maxRecDepth 100000 in
theorem open_hashes {v : Value} {d : DataW H} {p : List MemPlace} {r : Reach} {b0 : Nat} (hv : Value.okWide Try.prog w r b0 23 v) (h : DataW.Trod enc Try.prog w base (fun _ => true) held 23 v d p) : ∃ L, HashesAt w v L ∧ L.length ≤ maxLen := by
  obtain ⟨ao, n, c, hs⟩ := okWide_slice Try.underlying23 hv
  obtain ⟨m, hm⟩ := h
  obtain ⟨u, L, h1, h2, h3⟩ := trod_hashes hm
  obtain rfl := slice_cells hs h1
  exact ⟨L, h2, h3⟩
set_option maxRecDepth 100000 in
theorem open_facts {v : Value} {d : DataW H} {p : List MemPlace} {r : Reach} {b0 : Nat} (hv : Value.okWide Try.prog w r b0 62 v) (h : DataW.Trod enc Try.prog w base (fun _ => true) held 62 v d p) : ∃ fs, FactsAt w v fs ∧ fs.length ≤ maxLen ∧ ∀ f ∈ fs, FBound f := by
  obtain ⟨ao, n, c, hs⟩ := okWide_slice Try.underlying62 hv
  obtain ⟨m, hm⟩ := h
  obtain ⟨u, L, h1, h2, h3⟩ := trod_facts hm
  obtain rfl := slice_cells hs h1
  exact ⟨L, h2, h3⟩
set_option maxRecDepth 100000 in
theorem open_fact {v : Value} {d : DataW H} {p : List MemPlace} {r : Reach} {b0 : Nat} (hv : Value.okWide Try.prog w r b0 68 v) (h : DataW.Trod enc Try.prog w base (fun _ => true) held 68 v d p) : ∃ a b f, v = .agg #[a, b] ∧ HashesAt w a (FactT.ins f) ∧ HashesAt w b f.outs ∧ FBound f := by
  simp only [Value.okWide, Try.underlying68] at hv
  obtain ⟨cs, rfl, _, _⟩ := hv
  obtain ⟨m, hm⟩ := h
  obtain ⟨a, b, f, h1, h2, h3, h4⟩ := trod_fact hm
  simp only [Value.cells] at h1
  refine ⟨a, b, f, ?_, h2, h3, h4⟩
  congr 1
  apply Array.ext'
  exact h1
end
end Go.Proofs.Ytjlpdbaknhbgdaa
