/-
  Rows of seeds (ppr): what a seed is in memory; literals of seeds. What the walks of ppr say.
-/
import Derived.Test.YtnfegmcdljejnaaPrimDerive
import Derived.Test.YtnfegmcdljejnaaMid
import Derived.Test.YtnfegmcdljejnaaMakers
set_option linter.unusedSimpArgs false
set_option linter.unusedVariables false
namespace Go.Proofs.Ytnfegmcdljejnaa
open Go.RowKit

/-- A seed: its level, its place, its digest. -/
structure Sd where
  lv : Nat
  pl : Nat
  h : List UInt8
def Sd.cells (s : Sd) : List Value := .int .i64 s.lv :: .int .i64 s.pl :: s.h.map bv
theorem Sd.cells_len (s : Sd) (h : s.h.length = 32) : s.cells.length = 34 := by simp [Sd.cells, h]
theorem Sd.cells_one (s : Sd) : ∀ u ∈ s.cells, u.oneCell' = true := by
  intro u hu
  simp only [Sd.cells, List.mem_cons] at hu
  rcases hu with rfl | rfl | hu
  · rfl
  · rfl
  · exact bv_one _ u hu
theorem Sd.cells_all (s : Sd) : s.cells.toArray.all (·.oneCell') = true := by
  rw [List.all_toArray, List.all_eq_true]; exact s.cells_one

/-- A part goes into the midst of cells: what 'fill' does with one part. -/
theorem fill_midV {place : Nat → Option (Nat × Nat)} {rest : List (Nat × Value)} {i : Nat} {l A B C v : List Value} {x : Value} (hx : x.cells = v.toArray) (hl : l = A ++ (B ++ C)) (hp : place i = some (A.length, v.length)) (hB : B.length = v.length) :
    Instr.fill place l.toArray ((i, x) :: rest) = Instr.fill place (A ++ (v ++ C)).toArray rest := by
  subst hl
  have hF : Instr.fill place (A ++ (B ++ C)).toArray ((i, x) :: rest) = Instr.fill place (Array.foldl (fun cs (x : Value × Nat) => cs.setIfInBounds (A.length + x.2) x.1) (A ++ (B ++ C)).toArray (v.toArray.zipIdx)) rest := by
    conv => lhs; rw [Instr.fill]
    rw [hp]
    dsimp only
    rw [hx]
    split
    · rename_i h
      simp at h
      omega
    · rfl
  rw [hF]
  congr 1
  obtain ⟨h1, h2⟩ := Go.Great.foldl_set A.length v 0 (A ++ (B ++ C)).toArray
  have e : (Array.foldl (fun cs (x : Value × Nat) => cs.setIfInBounds (A.length + x.2) x.1) (A ++ (B ++ C)).toArray (v.toArray.zipIdx)) = (v.zipIdx 0).foldl (fun cs (x : Value × Nat) => cs.setIfInBounds (A.length + x.2) x.1) (A ++ (B ++ C)).toArray := by
    rw [← Array.foldl_toList]
    simp
  refine e.trans ?_
  apply Array.ext_getElem?
  intro k
  rw [h2 k]
  simp only [List.getElem?_toArray, List.size_toArray, Nat.add_zero]
  by_cases hk1 : k < A.length
  · rw [if_neg (by omega), List.getElem?_append_left hk1, List.getElem?_append_left hk1]
  · by_cases hk2 : k < A.length + v.length
    · rw [if_pos ⟨by omega, by omega, by simp; omega⟩, List.getElem?_append_right (by omega), List.getElem?_append_left (by omega)]
    · rw [if_neg (by omega), List.getElem?_append_right (l₂ := B ++ C) (by omega), List.getElem?_append_right (l₂ := v ++ C) (by omega), List.getElem?_append_right (l₁ := B) (by omega), List.getElem?_append_right (l₁ := v) (by omega), hB]

abbrev z34 : List Value := .int .i64 0 :: .int .i64 0 :: (List.replicate 32 (0 : UInt8)).map bv
theorem Try.zeroSeed : (Try.prog.info? 138).bind (·.zero) = some (.agg z34.toArray) := by kernel_rfl
theorem Try.infoSeed : (Try.prog.info? 138).map (fun i => (i.zero, i.size, i.bytes)) = some (some (.agg z34.toArray), 34, 48) := by kernel_rfl
theorem Try.sizeSeed : (Try.prog.info? 138).map (·.size) = some 34 := by kernel_rfl
theorem Try.sizeSeed2 : (Try.prog.info? 200).map (·.size) = some 68 := by kernel_rfl
theorem Try.sizeRow : (Try.prog.info? 141).map (·.size) = some 2 := by kernel_rfl

theorem Try.builtSeed (n m : Nat) (h : List UInt8) (hh : h.length = 32) : Try.prog.built 138 [(0, .int .i64 n), (1, .int .i64 m), (2, .agg (h.map bv).toArray)] = some (Sd.cells ⟨n, m, h⟩).toArray := by
  rw [built_struct Try.zeroSeed Try.underlying138 (places := [(0, 1), (1, 1), (2, 32)]) (by kernel_rfl), Value.cells]
  refine (fill_midV (A := []) (B := [.int .i64 0]) (C := .int .i64 0 :: (List.replicate 32 (0 : UInt8)).map bv) (v := [.int .i64 n]) rfl rfl (by rfl) rfl).trans ?_
  refine (fill_midV (A := [.int .i64 n]) (B := [.int .i64 0]) (C := (List.replicate 32 (0 : UInt8)).map bv) (v := [.int .i64 m]) rfl rfl (by rfl) rfl).trans ?_
  refine (fill_midV (A := [.int .i64 n, .int .i64 m]) (B := (List.replicate 32 (0 : UInt8)).map bv) (C := []) (v := h.map bv) rfl (by simp) (by rw [List.length_map, hh]; rfl) (by simp [hh])).trans ?_
  simp [Instr.fill, Sd.cells]
theorem Try.builtSeed0 (h : List UInt8) (hh : h.length = 32) : Try.prog.built 138 [(2, .agg (h.map bv).toArray)] = some (Sd.cells ⟨0, 0, h⟩).toArray := by
  rw [built_struct Try.zeroSeed Try.underlying138 (places := [(0, 1), (1, 1), (2, 32)]) (by kernel_rfl), Value.cells]
  refine (fill_midV (A := [.int .i64 0, .int .i64 0]) (B := (List.replicate 32 (0 : UInt8)).map bv) (C := []) (v := h.map bv) rfl (by simp) (by rw [List.length_map, hh]; rfl) (by simp [hh])).trans ?_
  simp [Instr.fill, Sd.cells]
theorem Try.builtSeeds (s t : Sd) (hs : s.h.length = 32) (ht : t.h.length = 32) : Try.prog.built 200 [(0, .agg s.cells.toArray), (1, .agg t.cells.toArray)] = some (s.cells ++ t.cells).toArray := by
  obtain ⟨i, hi, hz, hsz, _⟩ := info_parts Try.infoSeed
  have h2 : (Try.prog.info? 200).bind (·.zero) = some (.agg (z34 ++ z34).toArray) := by kernel_rfl
  unfold Program.built
  cases hj : Try.prog.info? 200 with
  | none => simp [hj] at h2
  | some it =>
    have hz' : it.zero = some (.agg (z34 ++ z34).toArray) := by simpa [hj] using h2
    simp only [Try.underlying200, hz', hi, hsz, Value.cells]
    refine (fill_midV (A := []) (B := z34) (C := z34) (v := s.cells) rfl (by simp) (by simp [Sd.cells_len s hs]) (by rw [Sd.cells_len s hs]; rfl)).trans ?_
    refine (fill_midV (A := s.cells) (B := z34) (C := []) (v := t.cells) rfl (by simp) (by simp [Sd.cells_len s hs, Sd.cells_len t ht]) (by rw [Sd.cells_len t ht]; rfl)).trans ?_
    simp [Instr.fill]

/-- A slice literal of one struct (or array). -/
theorem wp_bsOne {P : Program} {o : Oper} {a : Act} {w : World} {K : Act → World → Prop} {Q : Exit → Act → World → Prop} (t e : TypeId) (x : Operand) (ho : o.op = .buildSlice t 1 #[(0, x)])
    (cs : Array Value) (hx : a.eval x = .agg cs) (hu : P.underlying t = some (.slice e)) (z : Value) (n : Nat) (hz : (P.info? e).map (fun i => (i.zero, i.size)) = some (some z, n)) (hn : cs.size = n) (h0 : 0 < n) (hb : n ≤ 16777216)
    (h : K (a.put o.dst (.slice (some ⟨w.heap.size, 0, none⟩) 1 1)) (w.alloc (.cells cs e))) : o.wp P a w K Q := by
  cases hi : P.info? e with
  | none => simp [hi] at hz
  | some ie =>
    simp [hi] at hz
    obtain ⟨hz1, hz2⟩ := hz
    refine Go.wp_buildSlice t e 1 #[(0, x)] ho cs ie z hu hi hz1 (by rw [hz2]; omega) (by rw [hz2]; omega) ?_ h
    have e1 : (#[(0, x)].map fun (i, x) => (i, a.eval x)).toList = (([Value.agg cs].zipIdx 0).map fun x => (x.2, x.1)) := by simp [hx]
    rw [e1, hz2, Go.Great.fill_whole h0 [.agg cs] _ (by simp [Value.cells, hn]) (by simp)]
    simp [Value.cells]
theorem wpList_bsOne {P : Program} {ops : Array Oper} {rest : List Oper} {o : Oper} {a : Act} {w : World} {Q : Exit → Act → World → Prop} (hg : o.guard = none) (t e : TypeId) (x : Operand) (ho : o.op = .buildSlice t 1 #[(0, x)])
    (cs : Array Value) (hx : a.eval x = .agg cs) (hu : P.underlying t = some (.slice e)) (z : Value) (n : Nat) (hz : (P.info? e).map (fun i => (i.zero, i.size)) = some (some z, n)) (hn : cs.size = n) (h0 : 0 < n) (hb : n ≤ 16777216)
    (h : wpList P ops Q rest (a.put o.dst (.slice (some ⟨w.heap.size, 0, none⟩) 1 1)) (w.alloc (.cells cs e))) : wpList P ops Q (o :: rest) a w :=
  wpList_plain hg fun _ hK => wp_bsOne t e x ho cs hx hu z n hz hn h0 hb (hK _ _ h)
theorem Try.zsSeed : (Try.prog.info? 138).map (fun i => (i.zero, i.size)) = some (some (.agg z34.toArray), 34) := by kernel_rfl

/-- The seeds of a slice, at their places. -/
def SeedsAt (w : World) (v : Value) (l : List Sd) : Prop :=
  (∀ s ∈ l, s.h.length = 32) ∧ ((v = .slice none 0 0 ∧ l = []) ∨ ∃ g c, v = .slice (some ⟨g, 0, none⟩) l.length c ∧ l.length ≤ c ∧ g < w.heap.size ∧ ∀ j u, (l.flatMap Sd.cells)[j]? = some u → w.cell? ⟨g, j, none⟩ = some u)
theorem SeedsAt.below {w w' : World} {v : Value} {l : List Sd} (h : SeedsAt w v l) (b : Below w.heap.size w w') : SeedsAt w' v l := by
  refine ⟨h.1, ?_⟩
  rcases h.2 with h0 | ⟨g, c, rfl, hc, hlt, hcell⟩
  · exact .inl h0
  · exact .inr ⟨g, c, rfl, hc, Nat.lt_of_lt_of_le hlt b.size, fun j u hj => (b.cell (p := ⟨g, j, none⟩) hlt).trans (hcell j u hj)⟩
theorem SeedsAt.slice {w : World} {v : Value} {l : List Sd} (h : SeedsAt w v l) : ∃ ao c, v = .slice ao l.length c ∧ l.length ≤ c := by
  rcases h.2 with ⟨rfl, rfl⟩ | ⟨g, c, rfl, hc, _⟩
  · exact ⟨_, _, rfl, Nat.le_refl _⟩
  · exact ⟨_, _, rfl, hc⟩
theorem seeds_at : ∀ (l : List Sd) (i : Nat) (s : Sd) (j : Nat), (∀ s ∈ l, s.h.length = 32) → l[i]? = some s → j < 34 → (l.flatMap Sd.cells)[34 * i + j]? = s.cells[j]?
  | [], i, s, j, _, h, _ => by simp at h
  | t :: l, 0, s, j, hl, h, hj => by
    obtain rfl : t = s := by simpa using h
    rw [List.flatMap_cons, List.getElem?_append_left (by rw [Sd.cells_len t (hl t List.mem_cons_self)]; omega), Nat.mul_zero, Nat.zero_add]
  | t :: l, i + 1, s, j, hl, h, hj => by
    have h34 := Sd.cells_len t (hl t List.mem_cons_self)
    rw [List.flatMap_cons, List.getElem?_append_right (by omega), h34, show 34 * (i + 1) + j - 34 = 34 * i + j by omega]
    exact seeds_at l i s j (fun s hs => hl s (List.mem_cons_of_mem _ hs)) (by simpa using h) hj
theorem SeedsAt.range {w : World} {g n c : Nat} {l : List Sd} (h : SeedsAt w (.slice (some ⟨g, 0, none⟩) n c) l) (i : Nat) (s : Sd) (hi : l[i]? = some s) : w.rangeAt g (34 * i) s.cells := by
  rcases h.2 with ⟨h0, _⟩ | ⟨g', c', he, _, hlt, hcell⟩
  · simp at h0
  · simp only [Value.slice.injEq, Option.some.injEq, Addr.mk.injEq] at he
    obtain ⟨⟨rfl, _⟩, rfl, rfl⟩ := he
    intro j u hj
    have hs : s.h.length = 32 := h.1 s (List.mem_of_getElem? hi)
    have hj34 : j < 34 := by have := (List.getElem?_eq_some_iff.1 hj).1; rw [Sd.cells_len s hs] at this; exact this
    exact hcell _ u (by rw [seeds_at l i s j h.1 hi hj34]; exact hj)
/-- A row that is owned is a slice of seeds. -/
theorem SeedsAt.own {w : World} {base n : Nat} {v : Value} {l : List Sd} (h : w.ownsRow base 138 34 v n (l.flatMap Sd.cells)) (hl : ∀ s ∈ l, s.h.length = 32) (hn : n = l.length) : SeedsAt w v l := by
  subst hn
  refine ⟨hl, ?_⟩
  rcases h.2 with ⟨h0, h1⟩ | ⟨g, cap, cur, rfl, hb, hg, h1, h2, h3, h4⟩
  · exact .inl ⟨h0, List.eq_nil_of_length_eq_zero h1⟩
  · refine .inr ⟨g, cap, rfl, h1, lt_of_block hg, fun j u hj => ?_⟩
    have hlt : j < l.length * 34 := by
      have := (List.getElem?_eq_some_iff.1 hj).1
      rw [h.1] at this; exact this
    have e : (cur.toList.take (l.length * 34))[j]? = some u := by rw [h4]; exact hj
    rw [List.getElem?_take_of_lt hlt] at e
    have : cur[j]? = some u := by simpa using e
    simp [World.cell?, hg, this]

/-- A row: how many bits it has, and its seeds. -/
def RowAt (w : World) (r B : Nat) (l : List Sd) : Prop := ∃ v, Blk w r #[.int .i64 B, v] 141 ∧ SeedsAt w v l
theorem RowAt.below {w w' : World} {r B : Nat} {l : List Sd} (h : RowAt w r B l) (b : Below w.heap.size w w') : RowAt w' r B l := by
  obtain ⟨v, h1, h2⟩ := h
  exact ⟨v, h1.below b h1.lt, h2.below b⟩
theorem RowAt.lt {w : World} {r B : Nat} {l : List Sd} (h : RowAt w r B l) : r < w.heap.size := by
  obtain ⟨v, h1, h2⟩ := h
  exact h1.lt

/-- The seeds below one, the key of one. -/
def lLeft : List UInt8 := [108, 101, 102, 116]
def lRight : List UInt8 := [114, 105, 103, 104, 116]
def lKey : List UInt8 := [107, 101, 121]
def downT (right : Bool) (h : List UInt8) : List UInt8 := sha ((if right then lRight else lLeft) ++ h)
theorem downT_len (r : Bool) (h : List UInt8) : (downT r h).length = 32 := sha_len _
def keyT (h : List UInt8) : List UInt8 := sha (lKey ++ h)
theorem keyT_len (h : List UInt8) : (keyT h).length = 32 := sha_len _
/-- Which way it goes below a level to a place, in a row of B bits. -/
def wayT (B p lv : Nat) : Nat := p / 2 ^ (B - lv - 1) % 2
def Sd.child (s : Sd) (right : Bool) : Sd := ⟨s.lv + 1, 2 * s.pl + (if right then 1 else 0), downT right s.h⟩
/-- So many steps down from a seed to a place: the seed there, those to the left, those to the right in the order in which they come. -/
def stK (B p : Nat) (s : Sd) : Nat → Sd × List Sd × List Sd
  | 0 => (s, [], [])
  | k + 1 =>
    let q := stK B p s k
    if wayT B p q.1.lv = 0 then (q.1.child false, q.2.1, q.2.2 ++ [q.1.child true]) else (q.1.child true, q.2.1 ++ [q.1.child false], q.2.2)
theorem stK_lv (B p : Nat) (s : Sd) : ∀ k, (stK B p s k).1.lv = s.lv + k
  | 0 => rfl
  | k + 1 => by
    simp only [stK]
    split <;> simp [Sd.child, stK_lv B p s k] <;> omega
theorem stK_h (B p : Nat) (s : Sd) (hs : s.h.length = 32) : ∀ k, (stK B p s k).1.h.length = 32 ∧ (∀ t ∈ (stK B p s k).2.1, t.h.length = 32) ∧ (∀ t ∈ (stK B p s k).2.2, t.h.length = 32)
  | 0 => ⟨hs, by simp [stK], by simp [stK]⟩
  | k + 1 => by
    obtain ⟨h1, h2, h3⟩ := stK_h B p s hs k
    simp only [stK]
    split
    · refine ⟨downT_len _ _, h2, fun t ht => ?_⟩
      rcases List.mem_append.1 ht with ht | ht
      · exact h3 t ht
      · simp at ht; subst ht; exact downT_len _ _
    · refine ⟨downT_len _ _, fun t ht => ?_, h3⟩
      rcases List.mem_append.1 ht with ht | ht
      · exact h2 t ht
      · simp at ht; subst ht; exact downT_len _ _
/-- At which place of the list the seed stands that is at a place or above it. -/
def findT (B p : Nat) (l : List Sd) : Option Nat := l.findIdx? fun s => p / 2 ^ (B - s.lv) == s.pl
end Go.Proofs.Ytnfegmcdljejnaa
