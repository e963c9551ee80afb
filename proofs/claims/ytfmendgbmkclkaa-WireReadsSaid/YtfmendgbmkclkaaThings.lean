/-
  What is read of the arguments: bytes, digests, texts, things, in slices.
-/
import Derived.Test.YtfmendgbmkclkaaChecked
import Derived.Test.YtfmendgbmkclkaaLaws
import Derived.ProofKit
import Derived.OpenShut
import Derived.Deep.Slices
import Derived.Deep.MidRow
set_option linter.unusedSimpArgs false
set_option linter.unusedVariables false
namespace Go.Proofs.Ytfmendgbmkclkaa
open Go.RowKit Go.ChangeShapes Go.WideShapes

theorem drop_take_join {α : Type} (l : List α) (a n m : Nat) : (l.drop a).take n ++ (l.drop (a + n)).take m = (l.drop a).take (n + m) := by
  rw [List.take_add, List.drop_drop]

section
variable {H : Type} {enc : TypeId × Value → H} {w : World} {base : Nat} {spare : Nat → Bool} {held : Bool} {fuel : Nat} {x : DataW H × List MemPlace}
theorem trod_u8 {l : List Value} (h : DataW.trod enc Try.prog w base spare held fuel 5 l = some x) : ∃ c : UInt8, l = [bv c] := by
  obtain ⟨n, e1, e2, wf⟩ := DataW.trod_int Try.underlying5 h
  have hb := bounds_u8 wf
  refine ⟨UInt8.ofNat n.toNat, ?_⟩
  rw [e1]
  simp [bv]
  omega
theorem trod_i64 {l : List Value} (h : DataW.trod enc Try.prog w base spare held fuel 3 l = some x) : ∃ n : Int, l = [.int .i64 n] ∧ -9223372036854775808 ≤ n ∧ n ≤ 9223372036854775807 := by
  obtain ⟨n, e1, e2, wf⟩ := DataW.trod_int Try.underlying3 h
  have hb := bounds_i64 wf
  exact ⟨n, e1, hb.1, hb.2⟩
theorem trod_str {l : List Value} (h : DataW.trod enc Try.prog w base spare held fuel 9 l = some x) : ∃ s : List UInt8, l = [.string (str s)] ∧ s.length ≤ maxLen := by
  obtain ⟨s, e1, e2, hm⟩ := DataW.trod_string Try.underlying9 h
  obtain ⟨t, rfl⟩ := str_ex s
  exact ⟨t, e1, by rwa [str_size] at hm⟩
theorem trod_bl {l : List Value} (h : DataW.trod enc Try.prog w base spare held fuel 4 l = some x) : ∃ b : Bool, l = [.bool b] := by
  obtain ⟨b, e, _⟩ := DataW.trod_bool Try.underlying4 h
  exact ⟨b, e⟩
theorem cells_bytes : ∀ (n : Nat) (l : List Value), l.length = n → (∀ i, i < n → ∃ c : UInt8, (l.drop i).take 1 = [bv c]) → ∃ h : List UInt8, h.length = n ∧ l = h.map bv
  | 0, l, hl, _ => ⟨[], rfl, by simpa using hl⟩
  | n + 1, [], hl, _ => by simp at hl
  | n + 1, v :: l, hl, hc => by
    obtain ⟨c, h0⟩ := hc 0 (by omega)
    obtain ⟨h, h1, h2⟩ := cells_bytes n l (by simpa using hl) (fun i hi => hc (i + 1) (by omega))
    simp at h0
    exact ⟨c :: h, by simp [h1], by simp [h0, h2]⟩
theorem Try.cellsU8 : Try.prog.cellsOf 5 = 1 := by kernel_rfl
theorem Try.cellsHash : Try.prog.cellsOf 40 = 32 := by kernel_rfl
theorem trod_hash {l : List Value} (h : DataW.trod enc Try.prog w base spare held fuel 40 l = some x) : ∃ hs : List UInt8, hs.length = 32 ∧ l = hs.map bv := by
  obtain ⟨xs, m, _, _, hl, hx, hi⟩ := DataW.trod_array Try.underlying40 h
  rw [Try.cellsHash] at hl
  refine cells_bytes 32 l hl fun i hlt => ?_
  have := hi i hlt
  rw [Try.cellsU8, Nat.mul_one, List.getElem?_eq_getElem (by omega)] at this
  exact trod_u8 this
end

/-- A thing that is put. -/
structure Thing where
  k : UInt8
  n : Int
  s : List UInt8
  h : List UInt8
  b : Bool
def Thing.cells (x : Thing) : List Value := bv x.k :: .int .i64 x.n :: .string (str x.s) :: (x.h.map bv ++ [.bool x.b])
structure Thing.ok (x : Thing) : Prop where
  n1 : -9223372036854775808 ≤ x.n
  n2 : x.n ≤ 9223372036854775807
  s1 : x.s.length ≤ maxLen
  h1 : x.h.length = 32
theorem Thing.len (x : Thing) (h : x.h.length = 32) : x.cells.length = 36 := by simp [Thing.cells, h]

theorem Try.cellsInt : Try.prog.cellsOf 3 = 1 := by kernel_rfl
theorem Try.cellsStr : Try.prog.cellsOf 9 = 1 := by kernel_rfl
theorem Try.cellsBool : Try.prog.cellsOf 4 = 1 := by kernel_rfl
theorem Try.cellsThing : Try.prog.cellsOf 42 = 36 := by kernel_rfl

section
variable {H : Type} {enc : TypeId × Value → H} {w : World} {base : Nat} {spare : Nat → Bool} {held : Bool} {fuel : Nat} {x : DataW H × List MemPlace}
theorem trod_thing {l : List Value} (h : DataW.trod enc Try.prog w base spare held fuel 42 l = some x) : ∃ t : Thing, t.ok ∧ l = t.cells := by
  obtain ⟨xs, m, _, _, hl, hx, hf⟩ := DataW.trod_struct Try.underlying42 h
  rw [Try.cellsThing] at hl
  match xs, hx with
  | [y0, y1, y2, y3, y4], _ =>
    have f0 : DataW.trod enc Try.prog w base spare held m 5 ((l.drop 0).take (Try.prog.cellsOf 5)) = some y0 := hf 0 _ rfl
    have f1 : DataW.trod enc Try.prog w base spare held m 3 ((l.drop 1).take (Try.prog.cellsOf 3)) = some y1 := hf 1 _ rfl
    have f2 : DataW.trod enc Try.prog w base spare held m 9 ((l.drop 2).take (Try.prog.cellsOf 9)) = some y2 := hf 2 _ rfl
    have f3 : DataW.trod enc Try.prog w base spare held m 40 ((l.drop 3).take (Try.prog.cellsOf 40)) = some y3 := hf 3 _ rfl
    have f4 : DataW.trod enc Try.prog w base spare held m 4 ((l.drop 35).take (Try.prog.cellsOf 4)) = some y4 := hf 4 _ rfl
    rw [Try.cellsU8] at f0
    rw [Try.cellsInt] at f1
    rw [Try.cellsStr] at f2
    rw [Try.cellsHash] at f3
    rw [Try.cellsBool] at f4
    obtain ⟨k, e0⟩ := trod_u8 f0
    obtain ⟨n, e1, n1, n2⟩ := trod_i64 f1
    obtain ⟨s, e2, s1⟩ := trod_str f2
    obtain ⟨hh, h1, e3⟩ := trod_hash f3
    obtain ⟨b, e4⟩ := trod_bl f4
    refine ⟨⟨k, n, s, hh, b⟩, ⟨n1, n2, s1, h1⟩, ?_⟩
    have hj : l = (l.drop 0).take 1 ++ ((l.drop 1).take 1 ++ ((l.drop 2).take 1 ++ ((l.drop 3).take 32 ++ (l.drop 35).take 1))) := by
      rw [drop_take_join l 3 32 1, drop_take_join l 2 1 33, drop_take_join l 1 1 34, drop_take_join l 0 1 35, List.drop_zero, List.take_of_length_le (by omega)]
    rw [hj, e0, e1, e2, e3, e4]
    rfl

/-- The things of a slice, at their places. -/
def Things (w : World) (ao : Option Addr) (len : Nat) (xs : List Thing) : Prop :=
  xs.length = len ∧ (∀ x ∈ xs, x.ok) ∧ (len = 0 ∨ ∃ b off, ao = some ⟨b, off, none⟩ ∧ b < w.heap.size ∧ ∀ i (hi : i < xs.length), w.rangeAt b (off + i * 36) xs[i].cells)

theorem open_things {v : Value} {d : DataW H} {p : List MemPlace} {r : Reach} {b0 : Nat} (hv : Value.okWide Try.prog w r b0 35 v) (h : DataW.Trod enc Try.prog w base spare held 35 v d p) :
    ∃ ao len cap xs, v = .slice ao len cap ∧ len ≤ maxLen ∧ Things w ao len xs := by
  obtain ⟨ao, len, cap, rfl⟩ := okWide_slice Try.underlying35 hv
  obtain ⟨fuel, hf⟩ := h
  rcases Go.Deep.open_slice Try.underlying35 hf with ⟨hcs, _⟩ | ⟨a, len', cap', m, n, D, Pl, hcs, hb, hl, hm, hmm, _, hi⟩
  · simp [Value.cells] at hcs
    obtain ⟨rfl, rfl, rfl⟩ := hcs
    exact ⟨_, _, _, [], rfl, by simp [maxLen], rfl, by simp, .inl rfl⟩
  · simp [Value.cells] at hcs
    obtain ⟨rfl, rfl, rfl⟩ := hcs
    have hlm : len ≤ m := by rw [hmm]; split <;> omega
    have hex : ∀ i, i < len → ∃ t : Thing, t.ok ∧ ∀ j v, t.cells[j]? = some v → w.cell? (a.add (i * 36 + j)) = some v := by
      intro i hlt
      obtain ⟨cs', h1, h2⟩ := hi i (by omega)
      rw [Try.cellsThing] at h1
      obtain ⟨_, h36, hat⟩ := World.cells?_some h1
      obtain ⟨t, hok, rfl⟩ := trod_thing h2
      refine ⟨t, hok, fun j v hj => ?_⟩
      have hj36 : j < 36 := by have := (List.getElem?_eq_some_iff.1 hj).1; omega
      rw [← Go.Deep.add_add, hat j hj36]
      exact hj
    have hlist : ∀ n, n ≤ len → ∃ xs : List Thing, xs.length = n ∧ (∀ x ∈ xs, x.ok) ∧ ∀ i (hi : i < xs.length) j v, xs[i].cells[j]? = some v → w.cell? (a.add (i * 36 + j)) = some v := by
      intro n
      induction n with
      | zero => intro _; exact ⟨[], rfl, by simp, fun i hi => absurd hi (by simp)⟩
      | succ n ih =>
        intro hn
        obtain ⟨xs, hx1, hx2, hx3⟩ := ih (by omega)
        obtain ⟨t, ht1, ht2⟩ := hex n (by omega)
        refine ⟨xs ++ [t], by simp [hx1], ?_, ?_⟩
        · intro x hx
          rcases List.mem_append.1 hx with hx | hx
          · exact hx2 x hx
          · simp at hx; subst hx; exact ht1
        · intro i hi j v hj
          by_cases hlt : i < xs.length
          · rw [List.getElem_append_left hlt] at hj
            exact hx3 i hlt j v hj
          · have : i = xs.length := by simp at hi; omega
            subst this
            simp at hj
            rw [hx1]
            exact ht2 j v hj
    obtain ⟨xs, hx1, hx2, hx3⟩ := hlist len (Nat.le_refl _)
    refine ⟨_, _, _, xs, rfl, by omega, hx1, hx2, ?_⟩
    by_cases h0 : len = 0
    · exact .inl h0
    · right
      obtain ⟨b, off, spot⟩ := a
      have hc := hx3 0 (by omega) 0 _ rfl
      have hsp : spot = none := by simpa [Addr.add] using World.cell?_spot hc
      subst hsp
      refine ⟨b, off, rfl, ?_, fun i hi j v hj => ?_⟩
      · have := World.block_lt_of_cell? _ _ hc
        simpa [Addr.add] using this
      · have := hx3 i hi j v hj
        rw [Addr.add_mid] at this
        rw [Nat.add_assoc]
        exact this
theorem Things.below {w w' : World} {ao : Option Addr} {len : Nat} {xs : List Thing} (h : Things w ao len xs) (hb : Below w.heap.size w w') : Things w' ao len xs := by
  refine ⟨h.1, h.2.1, ?_⟩
  rcases h.2.2 with h0 | ⟨b, off, rfl, hlt, hc⟩
  · exact .inl h0
  · right
    exact ⟨b, off, rfl, Nat.lt_of_lt_of_le hlt hb.size, fun i hi j v hj => (hb.cell (p := ⟨b, off + i * 36 + j, none⟩) hlt).trans (hc i hi j v hj)⟩

/-- Cells of a slice, element by element: whatever the elements are. -/
def Elems {α : Type} (cells : α → List Value) (size : Nat) (w : World) (ao : Option Addr) (len : Nat) (xs : List α) : Prop :=
  xs.length = len ∧ (len = 0 ∨ ∃ b off, ao = some ⟨b, off, none⟩ ∧ b < w.heap.size ∧ ∀ i (hi : i < xs.length), w.rangeAt b (off + i * size) (cells xs[i]))
theorem Elems.below {α : Type} {cells : α → List Value} {size : Nat} {w w' : World} {ao : Option Addr} {len : Nat} {xs : List α} (h : Elems cells size w ao len xs) (hb : Below w.heap.size w w') : Elems cells size w' ao len xs := by
  refine ⟨h.1, ?_⟩
  rcases h.2 with h0 | ⟨b, off, rfl, hlt, hc⟩
  · exact .inl h0
  · right
    exact ⟨b, off, rfl, Nat.lt_of_lt_of_le hlt hb.size, fun i hi j v hj => (hb.cell (p := ⟨b, off + i * size + j, none⟩) hlt).trans (hc i hi j v hj)⟩
theorem open_elems {α : Type} {cells : α → List Value} {size : Nat} {ok : α → Prop} {t e : TypeId} {v : Value} {d : DataW H} {p : List MemPlace} {r : Reach} {b0 : Nat}
    (ht : Try.prog.underlying t = some (.slice e)) (hs : Try.prog.cellsOf e = size) (h0 : ∀ a, 0 < (cells a).length ∧ (cells a).length ≤ size)
    (hel : ∀ (l : List Value) (m : Nat) (y : DataW H × List MemPlace), DataW.trod enc Try.prog w base spare held m e l = some y → ∃ a : α, ok a ∧ l = cells a)
    (hv : Value.okWide Try.prog w r b0 t v) (h : DataW.Trod enc Try.prog w base spare held t v d p) :
    ∃ ao len cap xs, v = .slice ao len cap ∧ len ≤ maxLen ∧ Elems cells size w ao len xs ∧ ∀ x ∈ xs, ok x := by
  obtain ⟨ao, len, cap, rfl⟩ := okWide_slice ht hv
  obtain ⟨fuel, hf⟩ := h
  rcases Go.Deep.open_slice ht hf with ⟨hcs, _⟩ | ⟨a, len', cap', m, n, D, Pl, hcs, hb, hl, hm, hmm, _, hi⟩
  · simp [Value.cells] at hcs
    obtain ⟨rfl, rfl, rfl⟩ := hcs
    exact ⟨_, _, _, [], rfl, by simp [maxLen], ⟨rfl, .inl rfl⟩, by simp⟩
  · simp [Value.cells] at hcs
    obtain ⟨rfl, rfl, rfl⟩ := hcs
    have hlm : len ≤ m := by rw [hmm]; split <;> omega
    have hex : ∀ i, i < len → ∃ t : α, ok t ∧ ∀ j v, (cells t)[j]? = some v → w.cell? (a.add (i * size + j)) = some v := by
      intro i hlt
      obtain ⟨cs', h1, h2⟩ := hi i (by omega)
      rw [hs] at h1
      obtain ⟨_, h36, hat⟩ := World.cells?_some h1
      obtain ⟨t, hok, rfl⟩ := hel _ _ _ h2
      refine ⟨t, hok, fun j v hj => ?_⟩
      have hj36 : j < size := by have := (List.getElem?_eq_some_iff.1 hj).1; omega
      rw [← Go.Deep.add_add, hat j hj36]
      exact hj
    have hlist : ∀ n, n ≤ len → ∃ xs : List α, xs.length = n ∧ (∀ x ∈ xs, ok x) ∧ ∀ i (hi : i < xs.length) j v, (cells xs[i])[j]? = some v → w.cell? (a.add (i * size + j)) = some v := by
      intro n
      induction n with
      | zero => intro _; exact ⟨[], rfl, by simp, fun i hi => absurd hi (by simp)⟩
      | succ n ih =>
        intro hn
        obtain ⟨xs, hx1, hx2, hx3⟩ := ih (by omega)
        obtain ⟨t, ht1, ht2⟩ := hex n (by omega)
        refine ⟨xs ++ [t], by simp [hx1], ?_, ?_⟩
        · intro x hx
          rcases List.mem_append.1 hx with hx | hx
          · exact hx2 x hx
          · simp at hx; subst hx; exact ht1
        · intro i hi j v hj
          by_cases hlt : i < xs.length
          · rw [List.getElem_append_left hlt] at hj
            exact hx3 i hlt j v hj
          · have : i = xs.length := by simp at hi; omega
            subst this
            simp at hj
            rw [hx1]
            exact ht2 j v hj
    obtain ⟨xs, hx1, hx2, hx3⟩ := hlist len (Nat.le_refl _)
    refine ⟨_, _, _, xs, rfl, by omega, ⟨hx1, ?_⟩, hx2⟩
    by_cases hz : len = 0
    · exact .inl hz
    · right
      obtain ⟨b, off, spot⟩ := a
      have hpos := (h0 (xs[0]'(by omega))).1
      have hc := hx3 0 (by omega) 0 _ (List.getElem?_eq_getElem hpos)
      have hsp : spot = none := by simpa [Addr.add] using World.cell?_spot hc
      subst hsp
      refine ⟨b, off, rfl, ?_, fun i hi j v hj => ?_⟩
      · have := World.block_lt_of_cell? _ _ hc
        simpa [Addr.add] using this
      · have := hx3 i hi j v hj
        rw [Addr.add_mid] at this
        rw [Nat.add_assoc]
        exact this
/-- A slice of bytes. -/
abbrev U8s := Elems (fun c : UInt8 => [bv c]) 1
theorem open_u8s {t : TypeId} {v : Value} {d : DataW H} {p : List MemPlace} {r : Reach} {b0 : Nat} (ht : Try.prog.underlying t = some (.slice 5)) (hv : Value.okWide Try.prog w r b0 t v) (h : DataW.Trod enc Try.prog w base spare held t v d p) :
    ∃ ao len cap xs, v = .slice ao len cap ∧ len ≤ maxLen ∧ U8s w ao len xs := by
  obtain ⟨ao, len, cap, xs, h1, h2, h3, _⟩ := open_elems (cells := fun c : UInt8 => [bv c]) (size := 1) (ok := fun _ => True) ht Try.cellsU8 (fun _ => ⟨by simp, by simp⟩) (fun l m y hl => by obtain ⟨c, hc⟩ := trod_u8 hl; exact ⟨c, trivial, hc⟩) hv h
  exact ⟨ao, len, cap, xs, h1, h2, h3⟩
end
end Go.Proofs.Ytfmendgbmkclkaa
