/-
  What is read of the arguments: bytes, digests, texts.
  Slices of arguments, element by element, whatever the elements are; slices of numbers, of digests.
  '==' of two digests.
-/
import Derived.Test.YtjlpdbaknhbgdaaChecked
import Derived.Test.YtjlpdbaknhbgdaaKit0
import Derived.ProofKit
import Derived.OpenShut
import Derived.Deep.Slices
import Derived.Deep.MidRow
import Derived.KernelRfl
set_option linter.unusedSimpArgs false
set_option linter.unusedVariables false
namespace Go.Proofs.Ytjlpdbaknhbgdaa
open Go.RowKit Go.ChangeShapes Go.WideShapes

section
variable {H : Type} {enc : TypeId × Value → H} {w : World} {base : Nat} {spare : Nat → Bool} {held : Bool} {fuel : Nat} {x : DataW H × List MemPlace}
theorem trod_u8 {l : List Value} (h : DataW.trod enc Try.prog w base spare held fuel 5 l = some x) : ∃ c : UInt8, l = [bv c] := by
  obtain ⟨n, e1, e2, wf⟩ := DataW.trod_int Try.underlying5 h
  have hb := bounds_u8 wf
  refine ⟨UInt8.ofNat n.toNat, ?_⟩
  rw [e1]
  simp [bv]
  omega
theorem trod_i64 {l : List Value} (h : DataW.trod enc Try.prog w base spare held fuel 3 l = some x) : ∃ n : Int, l = [.int .i64 n] ∧ -9223372036854775808 ≤ n ∧ n ≤ 9223372036854775807 := by
  obtain ⟨n, e1, e2, wf⟩ := DataW.trod_int Try.underlying3 h
  have hb := bounds_i64 wf
  exact ⟨n, e1, hb.1, hb.2⟩
theorem trod_str {l : List Value} (h : DataW.trod enc Try.prog w base spare held fuel 9 l = some x) : ∃ s : List UInt8, l = [.string (str s)] ∧ s.length ≤ maxLen := by
  obtain ⟨s, e1, e2, hm⟩ := DataW.trod_string Try.underlying9 h
  obtain ⟨t, rfl⟩ := str_ex s
  exact ⟨t, e1, by rwa [str_size] at hm⟩
theorem trod_bl {l : List Value} (h : DataW.trod enc Try.prog w base spare held fuel 4 l = some x) : ∃ b : Bool, l = [.bool b] := by
  obtain ⟨b, e, _⟩ := DataW.trod_bool Try.underlying4 h
  exact ⟨b, e⟩
theorem cells_bytes : ∀ (n : Nat) (l : List Value), l.length = n → (∀ i, i < n → ∃ c : UInt8, (l.drop i).take 1 = [bv c]) → ∃ h : List UInt8, h.length = n ∧ l = h.map bv
  | 0, l, hl, _ => ⟨[], rfl, by simpa using hl⟩
  | n + 1, [], hl, _ => by simp at hl
  | n + 1, v :: l, hl, hc => by
    obtain ⟨c, h0⟩ := hc 0 (by omega)
    obtain ⟨h, h1, h2⟩ := cells_bytes n l (by simpa using hl) (fun i hi => hc (i + 1) (by omega))
    simp at h0
    exact ⟨c :: h, by simp [h1], by simp [h0, h2]⟩
theorem Try.cellsU8 : Try.prog.cellsOf 5 = 1 := by kernel_rfl
theorem Try.cellsHash : Try.prog.cellsOf 26 = 32 := by kernel_rfl
theorem trod_hash {l : List Value} (h : DataW.trod enc Try.prog w base spare held fuel 26 l = some x) : ∃ hs : List UInt8, hs.length = 32 ∧ l = hs.map bv := by
  obtain ⟨xs, m, _, _, hl, hx, hi⟩ := DataW.trod_array Try.underlying26 h
  rw [Try.cellsHash] at hl
  refine cells_bytes 32 l hl fun i hlt => ?_
  have := hi i hlt
  rw [Try.cellsU8, Nat.mul_one, List.getElem?_eq_getElem (by omega)] at this
  exact trod_u8 this
set_option maxRecDepth 100000 in
theorem open_hash {v : Value} {d : DataW H} {p : List MemPlace} {r : Reach} {b0 : Nat} (hv : Value.okWide Try.prog w r b0 26 v) (h : DataW.Trod enc Try.prog w base spare held 26 v d p) : ∃ a : List UInt8, a.length = 32 ∧ v = .agg (a.map bv).toArray := by
  obtain ⟨m, hm⟩ := h
  obtain ⟨a, h1, h2⟩ := trod_hash hm
  simp only [Value.okWide, Try.underlying26] at hv
  obtain ⟨cs, rfl, h4, _⟩ := hv
  refine ⟨a, h1, ?_⟩
  simp only [Value.cells] at h2
  rw [← h2]
end
end Go.Proofs.Ytjlpdbaknhbgdaa
set_option linter.unusedSimpArgs false
set_option linter.unusedVariables false
namespace Go.Proofs.Ytjlpdbaknhbgdaa
open Go.RowKit Go.ChangeShapes Go.WideShapes

section
variable {H : Type} {enc : TypeId × Value → H} {w : World} {base : Nat} {spare : Nat → Bool} {held : Bool} {fuel : Nat} {x : DataW H × List MemPlace}
/-- Cells of a slice, element by element: whatever the elements are. -/
def Elems {α : Type} (cells : α → List Value) (size : Nat) (w : World) (ao : Option Addr) (len : Nat) (xs : List α) : Prop :=
  xs.length = len ∧ (len = 0 ∨ ∃ b off, ao = some ⟨b, off, none⟩ ∧ b < w.heap.size ∧ ∀ i (hi : i < xs.length), w.rangeAt b (off + i * size) (cells xs[i]))
theorem Elems.below {α : Type} {cells : α → List Value} {size : Nat} {w w' : World} {ao : Option Addr} {len : Nat} {xs : List α} (h : Elems cells size w ao len xs) (hb : Below w.heap.size w w') : Elems cells size w' ao len xs := by
  refine ⟨h.1, ?_⟩
  rcases h.2 with h0 | ⟨b, off, rfl, hlt, hc⟩
  · exact .inl h0
  · right
    exact ⟨b, off, rfl, Nat.lt_of_lt_of_le hlt hb.size, fun i hi j v hj => (hb.cell (p := ⟨b, off + i * size + j, none⟩) hlt).trans (hc i hi j v hj)⟩
set_option maxRecDepth 100000 in
theorem open_elems {α : Type} {cells : α → List Value} {size : Nat} {ok : α → Prop} {t e : TypeId} {v : Value} {d : DataW H} {p : List MemPlace} {r : Reach} {b0 : Nat}
    (ht : Try.prog.underlying t = some (.slice e)) (hs : Try.prog.cellsOf e = size) (h0 : ∀ a, 0 < (cells a).length ∧ (cells a).length ≤ size)
    (hel : ∀ (l : List Value) (m : Nat) (y : DataW H × List MemPlace), DataW.trod enc Try.prog w base spare held m e l = some y → ∃ a : α, ok a ∧ l = cells a)
    (hv : Value.okWide Try.prog w r b0 t v) (h : DataW.Trod enc Try.prog w base spare held t v d p) :
    ∃ ao len cap xs, v = .slice ao len cap ∧ len ≤ maxLen ∧ Elems cells size w ao len xs ∧ ∀ x ∈ xs, ok x := by
  obtain ⟨ao, len, cap, rfl⟩ := okWide_slice ht hv
  obtain ⟨fuel, hf⟩ := h
  rcases Go.Deep.open_slice ht hf with ⟨hcs, _⟩ | ⟨a, len', cap', m, n, D, Pl, hcs, hb, hl, hm, hmm, _, hi⟩
  · simp [Value.cells] at hcs
    obtain ⟨rfl, rfl, rfl⟩ := hcs
    exact ⟨_, _, _, [], rfl, by simp [maxLen], ⟨rfl, .inl rfl⟩, by simp⟩
  · simp [Value.cells] at hcs
    obtain ⟨rfl, rfl, rfl⟩ := hcs
    have hlm : len ≤ m := by rw [hmm]; split <;> omega
    have hex : ∀ i, i < len → ∃ t : α, ok t ∧ ∀ j v, (cells t)[j]? = some v → w.cell? (a.add (i * size + j)) = some v := by
      intro i hlt
      obtain ⟨cs', h1, h2⟩ := hi i (by omega)
      rw [hs] at h1
      obtain ⟨_, h36, hat⟩ := World.cells?_some h1
      obtain ⟨t, hok, rfl⟩ := hel _ _ _ h2
      refine ⟨t, hok, fun j v hj => ?_⟩
      have hj36 : j < size := by have := (List.getElem?_eq_some_iff.1 hj).1; omega
      rw [← Go.Deep.add_add, hat j hj36]
      exact hj
    have hlist : ∀ n, n ≤ len → ∃ xs : List α, xs.length = n ∧ (∀ x ∈ xs, ok x) ∧ ∀ i (hi : i < xs.length) j v, (cells xs[i])[j]? = some v → w.cell? (a.add (i * size + j)) = some v := by
      intro n
      induction n with
      | zero => intro _; exact ⟨[], rfl, by simp, fun i hi => absurd hi (by simp)⟩
      | succ n ih =>
        intro hn
        obtain ⟨xs, hx1, hx2, hx3⟩ := ih (by omega)
        obtain ⟨t, ht1, ht2⟩ := hex n (by omega)
        refine ⟨xs ++ [t], by simp [hx1], ?_, ?_⟩
        · intro x hx
          rcases List.mem_append.1 hx with hx | hx
          · exact hx2 x hx
          · simp at hx; subst hx; exact ht1
        · intro i hi j v hj
          by_cases hlt : i < xs.length
          · rw [List.getElem_append_left hlt] at hj
            exact hx3 i hlt j v hj
          · have : i = xs.length := by simp at hi; omega
            subst this
            simp at hj
            rw [hx1]
            exact ht2 j v hj
    obtain ⟨xs, hx1, hx2, hx3⟩ := hlist len (Nat.le_refl _)
    refine ⟨_, _, _, xs, rfl, by omega, ⟨hx1, ?_⟩, hx2⟩
    by_cases hz : len = 0
    · exact .inl hz
    · right
      obtain ⟨b, off, spot⟩ := a
      have hpos := (h0 (xs[0]'(by omega))).1
      have hc := hx3 0 (by omega) 0 _ (List.getElem?_eq_getElem hpos)
      have hsp : spot = none := by simpa [Addr.add] using World.cell?_spot hc
      subst hsp
      refine ⟨b, off, rfl, ?_, fun i hi j v hj => ?_⟩
      · have := World.block_lt_of_cell? _ _ hc
        simpa [Addr.add] using this
      · have := hx3 i hi j v hj
        rw [Addr.add_mid] at this
        rw [Nat.add_assoc]
        exact this
/-- A slice of numbers. -/
abbrev ArgInts := Elems (fun c : Int => [Value.int .i64 c]) 1
theorem Try.cellsIntE : Try.prog.cellsOf 3 = 1 := by kernel_rfl
set_option maxRecDepth 100000 in
theorem open_ints {t : TypeId} {v : Value} {d : DataW H} {p : List MemPlace} {r : Reach} {b0 : Nat} (ht : Try.prog.underlying t = some (.slice 3)) (hv : Value.okWide Try.prog w r b0 t v) (h : DataW.Trod enc Try.prog w base spare held t v d p) :
    ∃ ao len cap xs, v = .slice ao len cap ∧ len ≤ maxLen ∧ ArgInts w ao len xs ∧ ∀ x ∈ xs, -9223372036854775808 ≤ x ∧ x ≤ 9223372036854775807 :=
  open_elems (cells := fun c : Int => [Value.int .i64 c]) (size := 1) (ok := fun x => -9223372036854775808 ≤ x ∧ x ≤ 9223372036854775807) ht Try.cellsIntE (fun _ => ⟨by simp, by simp⟩) (fun l m y hl => by obtain ⟨c, hc, h1, h2⟩ := trod_i64 hl; exact ⟨c, ⟨h1, h2⟩, hc⟩) hv h
/-- Where the element k lies. -/
theorem Elems.at {α : Type} {cells : α → List Value} {size : Nat} {ao : Option Addr} {len : Nat} {xs : List α} (h : Elems cells size w ao len xs) (k : Nat) (hk : k < len) :
    ∃ b off a, ao = some ⟨b, off, none⟩ ∧ xs[k]? = some a ∧ w.rangeAt b (off + k * size) (cells a) := by
  rcases h.2 with h0 | ⟨b, off, rfl, hlt, hc⟩
  · omega
  · have hk' : k < xs.length := by rw [h.1]; exact hk
    exact ⟨b, off, xs[k], rfl, List.getElem?_eq_getElem hk', hc k hk'⟩
theorem Elems.at' {α : Type} {cells : α → List Value} {size : Nat} {b off : Nat} {len : Nat} {xs : List α} (h : Elems cells size w (some ⟨b, off, none⟩) len xs) (k : Nat) (a : α) (hk : xs[k]? = some a) :
    w.rangeAt b (off + k * size) (cells a) := by
  have hk' := (List.getElem?_eq_some_iff.1 hk).1
  obtain ⟨b', off', a', he, ha, hr⟩ := h.at k (by rw [← h.1]; exact hk')
  simp only [Option.some.injEq, Addr.mk.injEq] at he
  obtain ⟨rfl, rfl, _⟩ := he
  rw [hk] at ha
  cases ha
  exact hr
end
end Go.Proofs.Ytjlpdbaknhbgdaa
namespace Go.Proofs.Ytjlpdbaknhbgdaa
theorem Try.plainU8 : Try.prog.plainKey 5 = true := by kernel_rfl
theorem Try.infoU8h : ∃ i, Try.prog.info? 5 = some i := by
  have h : (Try.prog.info? 5).isSome = true := by kernel_rfl
  exact Option.isSome_iff_exists.1 h
theorem Try.cellsU8e : Try.prog.cellsOf 5 = 1 := by kernel_rfl
theorem run_eq_hash (w : World) (a b : List UInt8) (ha : a.length = 32) (hb : b.length = 32) :
    (Op.equalIn 10000 26 (.agg (a.map bv).toArray) (.agg (b.map bv).toArray)).run Try.prog w = .ok (a == b) w := by
  obtain ⟨i, hi⟩ := Try.infoU8h
  exact run_eq_bytes w 9998 32 26 5 i Try.underlying26 Try.underlying5 Try.plainU8 hi Try.cellsU8e a b ha hb
end Go.Proofs.Ytjlpdbaknhbgdaa
