/-
  A packet that was handed in.
-/
import Derived.Test.YtlomofcnknpciaaGleanSame
import Derived.Test.YtlomofcnknpciaaGleanUnpack
import Derived.Test.YtlomofcnknpciaaGleanRUnpack
import Derived.Test.YtlomofcnknpciaaGleanRPack
import Derived.Test.YtlomofcnknpciaaGleanAw
import Derived.Test.YtlomofcnknpciaaBookOpen
import Derived.WalkLawsBesides
import Derived.Outline
import Derived.Handy
import Derived.Deep.RegionHeld
set_option linter.unusedSimpArgs false
set_option linter.unusedVariables false
namespace Go.Proofs.Ytlomofcnknpciaa
open Go.RowKit Go.ChangeShapes Go.WideShapes

section
variable {H : Type} {enc : TypeId × Value → H} {w : World} {base : Nat} {held : Bool} {fuel : Nat} {x : DataW H × List MemPlace}
set_option maxRecDepth 100000 in
theorem trod_texts {l : List Value} (h : DataW.trod enc Try.prog w base (fun _ => true) held fuel 83 l = some x) : ∃ v L, l = [v] ∧ TxAt w v L ∧ L.length ≤ maxLen ∧ ∀ t ∈ L, t.length ≤ maxLen := by
  obtain ⟨ao, len, cap, xs, hl, h1, h2, h3, h5, h4⟩ := trod_elems (α := List UInt8) (cells := sCells) (size := 1) (ok := fun t => t.length ≤ maxLen) Try.underlying83 Try.cellsK_s (by omega) sCells_len (fun l m y hl => by obtain ⟨s, hs, hm⟩ := trod_str hl; exact ⟨s, hm, hs⟩) h
  refine ⟨_, xs, hl, elems_rat sCells_len (by omega) ⟨h3, ?_⟩, by omega, h5⟩
  rcases h4 with h0 | ⟨b, off, e, hb, hc⟩
  · exact .inl (by omega)
  · exact .inr ⟨b, off, e, hb, fun i hi => hc i hi⟩
theorem Try.cellsRPk : Try.prog.cellsOf 107 = 4 := by kernel_rfl
theorem Try.cellsPk_h : Try.prog.cellsOf 34 = 1 := by kernel_rfl
theorem Try.cellsPk_t : Try.prog.cellsOf 83 = 1 := by kernel_rfl
/-- What a packet that was handed in is. -/
structure PkIn (w : World) (p : Pk) (iv tv : Value) : Prop where
  ids : HashesAt w iv p.ids
  ts : TxAt w tv p.ts
  n1 : p.ids.length ≤ maxLen
  n2 : p.ts.length ≤ maxLen
  s : p.s.length ≤ maxLen
  tl : ∀ t ∈ p.ts, t.length ≤ maxLen
set_option maxRecDepth 100000 in
theorem trod_packet {l : List Value} (h : DataW.trod enc Try.prog w base (fun _ => true) held fuel 107 l = some x) : ∃ p iv tv, l = [.int .i64 p.k, .string (str p.s), iv, tv] ∧ PkIn w p iv tv := by
  obtain ⟨xs, m, _, _, hl, hx, hf⟩ := DataW.trod_struct Try.underlying107 h
  rw [Try.cellsRPk] at hl
  match xs, hx with
  | [y0, y1, y2, y3], _ =>
    have f0 : DataW.trod enc Try.prog w base (fun _ => true) held m 3 ((l.drop 0).take (Try.prog.cellsOf 3)) = some y0 := hf 0 _ rfl
    have f1 : DataW.trod enc Try.prog w base (fun _ => true) held m 9 ((l.drop 1).take (Try.prog.cellsOf 9)) = some y1 := hf 1 _ rfl
    have f2 : DataW.trod enc Try.prog w base (fun _ => true) held m 34 ((l.drop 2).take (Try.prog.cellsOf 34)) = some y2 := hf 2 _ rfl
    have f3 : DataW.trod enc Try.prog w base (fun _ => true) held m 83 ((l.drop 3).take (Try.prog.cellsOf 83)) = some y3 := hf 3 _ rfl
    rw [Try.cellsK_i] at f0
    rw [Try.cellsK_s] at f1
    rw [Try.cellsPk_h] at f2
    rw [Try.cellsPk_t] at f3
    obtain ⟨k, e0, _, _⟩ := trod_i64 f0
    obtain ⟨s, e1, hs⟩ := trod_str f1
    obtain ⟨iv, ids, e2, h2, n2⟩ := trod_hashes f2
    obtain ⟨tv, ts, e3, h3, n3, t3⟩ := trod_texts f3
    match l, hl with
    | [a, b, c, d], _ =>
      simp at e0 e1 e2 e3
      subst e0; subst e1; subst e2; subst e3
      exact ⟨⟨k, s, ids, ts⟩, _, _, rfl, ⟨h2, h3, n2, n3, hs, t3⟩⟩
set_option maxRecDepth 100000 in
theorem open_packet {v : Value} {d : DataW H} {p : List MemPlace} {r : Reach} {b0 : Nat} (hv : Value.okWide Try.prog w r b0 107 v) (h : DataW.Trod enc Try.prog w base (fun _ => true) held 107 v d p) : ∃ q iv tv, v = .agg #[.int .i64 q.k, .string (str q.s), iv, tv] ∧ PkIn w q iv tv := by
  simp only [Value.okWide, Try.underlying107] at hv
  obtain ⟨cs, rfl, _, _⟩ := hv
  obtain ⟨m, hm⟩ := h
  obtain ⟨q, iv, tv, h1, h2⟩ := trod_packet hm
  simp only [Value.cells] at h1
  refine ⟨q, iv, tv, ?_, h2⟩
  congr 1
  apply Array.ext'
  exact h1
end
theorem Try.builtRPk4 (k : Int) (s : List UInt8) (a1 a2 : Option Addr) (n1 c1 n2 c2 : Nat) : Try.prog.built 107 [(0, .int .i64 k), (1, .string (str s)), (2, .slice a1 n1 c1), (3, .slice a2 n2 c2)] = some #[.int .i64 k, .string (str s), .slice a1 n1 c1, .slice a2 n2 c2] := by kernel_rfl
theorem Try.builtPk4 (k : Int) (s : List UInt8) (a1 a2 : Option Addr) (n1 c1 n2 c2 : Nat) : Try.prog.built 109 [(0, .int .i64 k), (1, .string (str s)), (2, .slice a1 n1 c1), (3, .slice a2 n2 c2)] = some #[.int .i64 k, .string (str s), .slice a1 n1 c1, .slice a2 n2 c2] := by kernel_rfl
theorem unT_cases (bs : List UInt8) : ((unT bs).2 = 0 ∧ RightP (unT bs).1) ∨ ((unT bs).2 ≠ 0 ∧ (unT bs).1 = pk0) := by
  by_cases h : (unT bs).2 = 0
  · exact .inl ⟨h, (pack_unT h).1⟩
  · right
    refine ⟨h, ?_⟩
    unfold unT at h ⊢
    split
    · rfl
    · rename_i he
      rw [if_neg he] at h
      split
      · rename_i hr
        rw [if_pos hr] at h
        exact absurd rfl h
      · rfl
theorem unT_small (bs : List UInt8) : (unT bs).1.s.length ≤ 65536 ∧ (unT bs).1.ids.length ≤ 256 ∧ (unT bs).1.ts.length ≤ 64 ∧ ∀ t ∈ (unT bs).1.ts, t.length ≤ maxLen := by
  rcases unT_cases bs with ⟨_, h⟩ | ⟨_, h⟩
  · obtain ⟨h1, h2, h3⟩ := right_small h
    refine ⟨h1, h2, h3, fun t ht => ?_⟩
    rcases h with h | h | h
    · rw [h.2.2.2.1] at ht; cases ht
    · rw [h.2.2.1] at ht; cases ht
    · have := h.2.2.2.2 t ht; unfold maxLen; omega
  · rw [h]; exact ⟨Nat.zero_le _, Nat.zero_le _, Nat.zero_le _, (fun t ht => by cases ht)⟩
end Go.Proofs.Ytlomofcnknpciaa
