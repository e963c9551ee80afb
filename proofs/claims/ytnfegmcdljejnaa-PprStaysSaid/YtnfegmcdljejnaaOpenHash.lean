/-
  What is read of the arguments: bytes, digests, texts.
-/
import Derived.Test.YtnfegmcdljejnaaChecked
import Derived.Test.YtnfegmcdljejnaaLaws
import Derived.ProofKit
import Derived.OpenShut
set_option linter.unusedSimpArgs false
set_option linter.unusedVariables false
namespace Go.Proofs.Ytnfegmcdljejnaa
open Go.RowKit Go.ChangeShapes Go.WideShapes

section
variable {H : Type} {enc : TypeId × Value → H} {w : World} {base : Nat} {spare : Nat → Bool} {held : Bool} {fuel : Nat} {x : DataW H × List MemPlace}
theorem trod_u8 {l : List Value} (h : DataW.trod enc Try.prog w base spare held fuel 5 l = some x) : ∃ c : UInt8, l = [bv c] := by
  obtain ⟨n, e1, e2, wf⟩ := DataW.trod_int Try.underlying5 h
  have hb := bounds_u8 wf
  refine ⟨UInt8.ofNat n.toNat, ?_⟩
  rw [e1]
  simp [bv]
  omega
theorem trod_i64 {l : List Value} (h : DataW.trod enc Try.prog w base spare held fuel 3 l = some x) : ∃ n : Int, l = [.int .i64 n] ∧ -9223372036854775808 ≤ n ∧ n ≤ 9223372036854775807 := by
  obtain ⟨n, e1, e2, wf⟩ := DataW.trod_int Try.underlying3 h
  have hb := bounds_i64 wf
  exact ⟨n, e1, hb.1, hb.2⟩
theorem trod_str {l : List Value} (h : DataW.trod enc Try.prog w base spare held fuel 9 l = some x) : ∃ s : List UInt8, l = [.string (str s)] ∧ s.length ≤ maxLen := by
  obtain ⟨s, e1, e2, hm⟩ := DataW.trod_string Try.underlying9 h
  obtain ⟨t, rfl⟩ := str_ex s
  exact ⟨t, e1, by rwa [str_size] at hm⟩
theorem trod_bl {l : List Value} (h : DataW.trod enc Try.prog w base spare held fuel 4 l = some x) : ∃ b : Bool, l = [.bool b] := by
  obtain ⟨b, e, _⟩ := DataW.trod_bool Try.underlying4 h
  exact ⟨b, e⟩
theorem cells_bytes : ∀ (n : Nat) (l : List Value), l.length = n → (∀ i, i < n → ∃ c : UInt8, (l.drop i).take 1 = [bv c]) → ∃ h : List UInt8, h.length = n ∧ l = h.map bv
  | 0, l, hl, _ => ⟨[], rfl, by simpa using hl⟩
  | n + 1, [], hl, _ => by simp at hl
  | n + 1, v :: l, hl, hc => by
    obtain ⟨c, h0⟩ := hc 0 (by omega)
    obtain ⟨h, h1, h2⟩ := cells_bytes n l (by simpa using hl) (fun i hi => hc (i + 1) (by omega))
    simp at h0
    exact ⟨c :: h, by simp [h1], by simp [h0, h2]⟩
theorem Try.cellsU8 : Try.prog.cellsOf 5 = 1 := by kernel_rfl
theorem Try.cellsHash : Try.prog.cellsOf 23 = 32 := by kernel_rfl
theorem trod_hash {l : List Value} (h : DataW.trod enc Try.prog w base spare held fuel 23 l = some x) : ∃ hs : List UInt8, hs.length = 32 ∧ l = hs.map bv := by
  obtain ⟨xs, m, _, _, hl, hx, hi⟩ := DataW.trod_array Try.underlying23 h
  rw [Try.cellsHash] at hl
  refine cells_bytes 32 l hl fun i hlt => ?_
  have := hi i hlt
  rw [Try.cellsU8, Nat.mul_one, List.getElem?_eq_getElem (by omega)] at this
  exact trod_u8 this
set_option maxRecDepth 100000 in
theorem open_hash {v : Value} {d : DataW H} {p : List MemPlace} {r : Reach} {b0 : Nat} (hv : Value.okWide Try.prog w r b0 23 v) (h : DataW.Trod enc Try.prog w base spare held 23 v d p) : ∃ a : List UInt8, a.length = 32 ∧ v = .agg (a.map bv).toArray := by
  obtain ⟨m, hm⟩ := h
  obtain ⟨a, h1, h2⟩ := trod_hash hm
  simp only [Value.okWide, Try.underlying23] at hv
  obtain ⟨cs, rfl, h4, _⟩ := hv
  refine ⟨a, h1, ?_⟩
  simp only [Value.cells] at h2
  rw [← h2]
end
end Go.Proofs.Ytnfegmcdljejnaa
