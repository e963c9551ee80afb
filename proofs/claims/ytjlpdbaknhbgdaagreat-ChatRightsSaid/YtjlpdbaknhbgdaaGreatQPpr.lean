/-
  Rows of seeds (ppr): what a seed is in memory; literals of seeds. What the walks of ppr say.
  ppr: New, Bits, within, find, Gone. The document's rows: power, down, at, Key, Within.
  The document's rows: Key, Within.
  The document's row: as a literal of its root and its bits. slices.Reverse and slices.Clone at rows of seeds, off the shelf; append of seeds to a row of one's own, with where the new row lies.
-/
import Derived.Test.YtjlpdbaknhbgdaaGreatQRef
import Derived.Test.YtjlpdbaknhbgdaaGreatQBase
import Derived.Shelf.SlicesQ.Reverse
import Derived.Shelf.SlicesE.Clone
import Derived.Ground.SlgnProg
set_option linter.unusedSimpArgs false
set_option linter.unusedVariables false
namespace Go.Proofs.YtjlpdbaknhbgdaaGreat
open Go.RowKit

/-- A seed: its level, its place, its digest. -/
structure Sd where
  lv : Nat
  pl : Nat
  h : List UInt8
def Sd.cells (s : Sd) : List Value := .int .i64 s.lv :: .int .i64 s.pl :: s.h.map bv
theorem Sd.cells_len (s : Sd) (h : s.h.length = 32) : s.cells.length = 34 := by simp [Sd.cells, h]
theorem Sd.cells_one (s : Sd) : ∀ u ∈ s.cells, u.oneCell' = true := by
  intro u hu
  simp only [Sd.cells, List.mem_cons] at hu
  rcases hu with rfl | rfl | hu
  · rfl
  · rfl
  · exact bv_one _ u hu
theorem Sd.cells_all (s : Sd) : s.cells.toArray.all (·.oneCell') = true := by
  rw [List.all_toArray, List.all_eq_true]; exact s.cells_one

/-- A part goes into the midst of cells: what 'fill' does with one part. -/
theorem fill_midV {place : Nat → Option (Nat × Nat)} {rest : List (Nat × Value)} {i : Nat} {l A B C v : List Value} {x : Value} (hx : x.cells = v.toArray) (hl : l = A ++ (B ++ C)) (hp : place i = some (A.length, v.length)) (hB : B.length = v.length) :
    Instr.fill place l.toArray ((i, x) :: rest) = Instr.fill place (A ++ (v ++ C)).toArray rest := by
  subst hl
  have hF : Instr.fill place (A ++ (B ++ C)).toArray ((i, x) :: rest) = Instr.fill place (Array.foldl (fun cs (x : Value × Nat) => cs.setIfInBounds (A.length + x.2) x.1) (A ++ (B ++ C)).toArray (v.toArray.zipIdx)) rest := by
    conv => lhs; rw [Instr.fill]
    rw [hp]
    dsimp only
    rw [hx]
    split
    · rename_i h
      simp at h
      omega
    · rfl
  rw [hF]
  congr 1
  obtain ⟨h1, h2⟩ := Go.Great.foldl_set A.length v 0 (A ++ (B ++ C)).toArray
  have e : (Array.foldl (fun cs (x : Value × Nat) => cs.setIfInBounds (A.length + x.2) x.1) (A ++ (B ++ C)).toArray (v.toArray.zipIdx)) = (v.zipIdx 0).foldl (fun cs (x : Value × Nat) => cs.setIfInBounds (A.length + x.2) x.1) (A ++ (B ++ C)).toArray := by
    rw [← Array.foldl_toList]
    simp
  refine e.trans ?_
  apply Array.ext_getElem?
  intro k
  rw [h2 k]
  simp only [List.getElem?_toArray, List.size_toArray, Nat.add_zero]
  by_cases hk1 : k < A.length
  · rw [if_neg (by omega), List.getElem?_append_left hk1, List.getElem?_append_left hk1]
  · by_cases hk2 : k < A.length + v.length
    · rw [if_pos ⟨by omega, by omega, by simp; omega⟩, List.getElem?_append_right (by omega), List.getElem?_append_left (by omega)]
    · rw [if_neg (by omega), List.getElem?_append_right (l₂ := B ++ C) (by omega), List.getElem?_append_right (l₂ := v ++ C) (by omega), List.getElem?_append_right (l₁ := B) (by omega), List.getElem?_append_right (l₁ := v) (by omega), hB]

abbrev z34 : List Value := .int .i64 0 :: .int .i64 0 :: (List.replicate 32 (0 : UInt8)).map bv
theorem Tryz.zeroSeed : (Tryz.prog.info? 227).bind (·.zero) = some (.agg z34.toArray) := by kernel_rfl
theorem Tryz.infoSeed : (Tryz.prog.info? 227).map (fun i => (i.zero, i.size, i.bytes)) = some (some (.agg z34.toArray), 34, 48) := by kernel_rfl
theorem Tryz.sizeSeed : (Tryz.prog.info? 227).map (·.size) = some 34 := by kernel_rfl
theorem Tryz.sizeSeed2 : (Tryz.prog.info? 232).map (·.size) = some 68 := by kernel_rfl
theorem Tryz.builtSeed (n m : Nat) (h : List UInt8) (hh : h.length = 32) : Tryz.prog.built 227 [(0, .int .i64 n), (1, .int .i64 m), (2, .agg (h.map bv).toArray)] = some (Sd.cells ⟨n, m, h⟩).toArray := by
  rw [built_struct Tryz.zeroSeed Tryz.underlying227 (places := [(0, 1), (1, 1), (2, 32)]) (by kernel_rfl), Value.cells]
  refine (fill_midV (A := []) (B := [.int .i64 0]) (C := .int .i64 0 :: (List.replicate 32 (0 : UInt8)).map bv) (v := [.int .i64 n]) rfl rfl (by rfl) rfl).trans ?_
  refine (fill_midV (A := [.int .i64 n]) (B := [.int .i64 0]) (C := (List.replicate 32 (0 : UInt8)).map bv) (v := [.int .i64 m]) rfl rfl (by rfl) rfl).trans ?_
  refine (fill_midV (A := [.int .i64 n, .int .i64 m]) (B := (List.replicate 32 (0 : UInt8)).map bv) (C := []) (v := h.map bv) rfl (by simp) (by rw [List.length_map, hh]; rfl) (by simp [hh])).trans ?_
  simp [Instr.fill, Sd.cells]
theorem Tryz.builtSeed0 (h : List UInt8) (hh : h.length = 32) : Tryz.prog.built 227 [(2, .agg (h.map bv).toArray)] = some (Sd.cells ⟨0, 0, h⟩).toArray := by
  rw [built_struct Tryz.zeroSeed Tryz.underlying227 (places := [(0, 1), (1, 1), (2, 32)]) (by kernel_rfl), Value.cells]
  refine (fill_midV (A := [.int .i64 0, .int .i64 0]) (B := (List.replicate 32 (0 : UInt8)).map bv) (C := []) (v := h.map bv) rfl (by simp) (by rw [List.length_map, hh]; rfl) (by simp [hh])).trans ?_
  simp [Instr.fill, Sd.cells]
theorem Tryz.builtSeeds (s t : Sd) (hs : s.h.length = 32) (ht : t.h.length = 32) : Tryz.prog.built 232 [(0, .agg s.cells.toArray), (1, .agg t.cells.toArray)] = some (s.cells ++ t.cells).toArray := by
  obtain ⟨i, hi, hz, hsz, _⟩ := info_parts Tryz.infoSeed
  have h2 : (Tryz.prog.info? 232).bind (·.zero) = some (.agg (z34 ++ z34).toArray) := by kernel_rfl
  unfold Program.built
  cases hj : Tryz.prog.info? 232 with
  | none => simp [hj] at h2
  | some it =>
    have hz' : it.zero = some (.agg (z34 ++ z34).toArray) := by simpa [hj] using h2
    simp only [Tryz.underlying232, hz', hi, hsz, Value.cells]
    refine (fill_midV (A := []) (B := z34) (C := z34) (v := s.cells) rfl (by simp) (by simp [Sd.cells_len s hs]) (by rw [Sd.cells_len s hs]; rfl)).trans ?_
    refine (fill_midV (A := s.cells) (B := z34) (C := []) (v := t.cells) rfl (by simp) (by simp [Sd.cells_len s hs, Sd.cells_len t ht]) (by rw [Sd.cells_len t ht]; rfl)).trans ?_
    simp [Instr.fill]

/-- A slice literal of one struct (or array). -/
theorem wp_bsOne {P : Program} {o : Oper} {a : Act} {w : World} {K : Act → World → Prop} {Q : Exit → Act → World → Prop} (t e : TypeId) (x : Operand) (ho : o.op = .buildSlice t 1 #[(0, x)])
    (cs : Array Value) (hx : a.eval x = .agg cs) (hu : P.underlying t = some (.slice e)) (z : Value) (n : Nat) (hz : (P.info? e).map (fun i => (i.zero, i.size)) = some (some z, n)) (hn : cs.size = n) (h0 : 0 < n) (hb : n ≤ 16777216)
    (h : K (a.put o.dst (.slice (some ⟨w.heap.size, 0, none⟩) 1 1)) (w.alloc (.cells cs e))) : o.wp P a w K Q := by
  cases hi : P.info? e with
  | none => simp [hi] at hz
  | some ie =>
    simp [hi] at hz
    obtain ⟨hz1, hz2⟩ := hz
    refine Go.wp_buildSlice t e 1 #[(0, x)] ho cs ie z hu hi hz1 (by rw [hz2]; omega) (by rw [hz2]; omega) ?_ h
    have e1 : (#[(0, x)].map fun (i, x) => (i, a.eval x)).toList = (([Value.agg cs].zipIdx 0).map fun x => (x.2, x.1)) := by simp [hx]
    rw [e1, hz2, Go.Great.fill_whole h0 [.agg cs] _ (by simp [Value.cells, hn]) (by simp)]
    simp [Value.cells]
theorem wpList_bsOne {P : Program} {ops : Array Oper} {rest : List Oper} {o : Oper} {a : Act} {w : World} {Q : Exit → Act → World → Prop} (hg : o.guard = none) (t e : TypeId) (x : Operand) (ho : o.op = .buildSlice t 1 #[(0, x)])
    (cs : Array Value) (hx : a.eval x = .agg cs) (hu : P.underlying t = some (.slice e)) (z : Value) (n : Nat) (hz : (P.info? e).map (fun i => (i.zero, i.size)) = some (some z, n)) (hn : cs.size = n) (h0 : 0 < n) (hb : n ≤ 16777216)
    (h : wpList P ops Q rest (a.put o.dst (.slice (some ⟨w.heap.size, 0, none⟩) 1 1)) (w.alloc (.cells cs e))) : wpList P ops Q (o :: rest) a w :=
  wpList_plain hg fun _ hK => wp_bsOne t e x ho cs hx hu z n hz hn h0 hb (hK _ _ h)
theorem Tryz.zsSeed : (Tryz.prog.info? 227).map (fun i => (i.zero, i.size)) = some (some (.agg z34.toArray), 34) := by kernel_rfl

/-- The seeds of a slice, at their places. -/
def SeedsAt (w : World) (v : Value) (l : List Sd) : Prop :=
  (∀ s ∈ l, s.h.length = 32) ∧ ((v = .slice none 0 0 ∧ l = []) ∨ ∃ g c, v = .slice (some ⟨g, 0, none⟩) l.length c ∧ l.length ≤ c ∧ g < w.heap.size ∧ ∀ j u, (l.flatMap Sd.cells)[j]? = some u → w.cell? ⟨g, j, none⟩ = some u)
theorem SeedsAt.below {w w' : World} {v : Value} {l : List Sd} (h : SeedsAt w v l) (b : Below w.heap.size w w') : SeedsAt w' v l := by
  refine ⟨h.1, ?_⟩
  rcases h.2 with h0 | ⟨g, c, rfl, hc, hlt, hcell⟩
  · exact .inl h0
  · exact .inr ⟨g, c, rfl, hc, Nat.lt_of_lt_of_le hlt b.size, fun j u hj => (b.cell (p := ⟨g, j, none⟩) hlt).trans (hcell j u hj)⟩
theorem SeedsAt.slice {w : World} {v : Value} {l : List Sd} (h : SeedsAt w v l) : ∃ ao c, v = .slice ao l.length c ∧ l.length ≤ c := by
  rcases h.2 with ⟨rfl, rfl⟩ | ⟨g, c, rfl, hc, _⟩
  · exact ⟨_, _, rfl, Nat.le_refl _⟩
  · exact ⟨_, _, rfl, hc⟩
theorem seeds_at : ∀ (l : List Sd) (i : Nat) (s : Sd) (j : Nat), (∀ s ∈ l, s.h.length = 32) → l[i]? = some s → j < 34 → (l.flatMap Sd.cells)[34 * i + j]? = s.cells[j]?
  | [], i, s, j, _, h, _ => by simp at h
  | t :: l, 0, s, j, hl, h, hj => by
    obtain rfl : t = s := by simpa using h
    rw [List.flatMap_cons, List.getElem?_append_left (by rw [Sd.cells_len t (hl t List.mem_cons_self)]; omega), Nat.mul_zero, Nat.zero_add]
  | t :: l, i + 1, s, j, hl, h, hj => by
    have h34 := Sd.cells_len t (hl t List.mem_cons_self)
    rw [List.flatMap_cons, List.getElem?_append_right (by omega), h34, show 34 * (i + 1) + j - 34 = 34 * i + j by omega]
    exact seeds_at l i s j (fun s hs => hl s (List.mem_cons_of_mem _ hs)) (by simpa using h) hj
theorem SeedsAt.range {w : World} {g n c : Nat} {l : List Sd} (h : SeedsAt w (.slice (some ⟨g, 0, none⟩) n c) l) (i : Nat) (s : Sd) (hi : l[i]? = some s) : w.rangeAt g (34 * i) s.cells := by
  rcases h.2 with ⟨h0, _⟩ | ⟨g', c', he, _, hlt, hcell⟩
  · simp at h0
  · simp only [Value.slice.injEq, Option.some.injEq, Addr.mk.injEq] at he
    obtain ⟨⟨rfl, _⟩, rfl, rfl⟩ := he
    intro j u hj
    have hs : s.h.length = 32 := h.1 s (List.mem_of_getElem? hi)
    have hj34 : j < 34 := by have := (List.getElem?_eq_some_iff.1 hj).1; rw [Sd.cells_len s hs] at this; exact this
    exact hcell _ u (by rw [seeds_at l i s j h.1 hi hj34]; exact hj)
/-- A row that is owned is a slice of seeds. -/
theorem SeedsAt.own {w : World} {base n : Nat} {v : Value} {l : List Sd} (h : w.ownsRow base 227 34 v n (l.flatMap Sd.cells)) (hl : ∀ s ∈ l, s.h.length = 32) (hn : n = l.length) : SeedsAt w v l := by
  subst hn
  refine ⟨hl, ?_⟩
  rcases h.2 with ⟨h0, h1⟩ | ⟨g, cap, cur, rfl, hb, hg, h1, h2, h3, h4⟩
  · exact .inl ⟨h0, List.eq_nil_of_length_eq_zero h1⟩
  · refine .inr ⟨g, cap, rfl, h1, lt_of_block hg, fun j u hj => ?_⟩
    have hlt : j < l.length * 34 := by
      have := (List.getElem?_eq_some_iff.1 hj).1
      rw [h.1] at this; exact this
    have e : (cur.toList.take (l.length * 34))[j]? = some u := by rw [h4]; exact hj
    rw [List.getElem?_take_of_lt hlt] at e
    have : cur[j]? = some u := by simpa using e
    simp [World.cell?, hg, this]

/-- A row: how many bits it has, and its seeds. -/
def RowAt (w : World) (r B : Nat) (l : List Sd) : Prop := ∃ v, Blk w r #[.int .i64 B, v] 158 ∧ SeedsAt w v l
theorem RowAt.below {w w' : World} {r B : Nat} {l : List Sd} (h : RowAt w r B l) (b : Below w.heap.size w w') : RowAt w' r B l := by
  obtain ⟨v, h1, h2⟩ := h
  exact ⟨v, h1.below b h1.lt, h2.below b⟩
theorem RowAt.lt {w : World} {r B : Nat} {l : List Sd} (h : RowAt w r B l) : r < w.heap.size := by
  obtain ⟨v, h1, h2⟩ := h
  exact h1.lt

/-- The seeds below one, the key of one. -/
def lLeft : List UInt8 := [108, 101, 102, 116]
def lRight : List UInt8 := [114, 105, 103, 104, 116]
def lKey : List UInt8 := [107, 101, 121]
def downT (right : Bool) (h : List UInt8) : List UInt8 := sha ((if right then lRight else lLeft) ++ h)
theorem downT_len (r : Bool) (h : List UInt8) : (downT r h).length = 32 := sha_len _
def keyT (h : List UInt8) : List UInt8 := sha (lKey ++ h)
theorem keyT_len (h : List UInt8) : (keyT h).length = 32 := sha_len _
/-- Which way it goes below a level to a place, in a row of B bits. -/
def wayT (B p lv : Nat) : Nat := p / 2 ^ (B - lv - 1) % 2
def Sd.child (s : Sd) (right : Bool) : Sd := ⟨s.lv + 1, 2 * s.pl + (if right then 1 else 0), downT right s.h⟩
/-- So many steps down from a seed to a place: the seed there, those to the left, those to the right in the order in which they come. -/
def stK (B p : Nat) (s : Sd) : Nat → Sd × List Sd × List Sd
  | 0 => (s, [], [])
  | k + 1 =>
    let q := stK B p s k
    if wayT B p q.1.lv = 0 then (q.1.child false, q.2.1, q.2.2 ++ [q.1.child true]) else (q.1.child true, q.2.1 ++ [q.1.child false], q.2.2)
theorem stK_lv (B p : Nat) (s : Sd) : ∀ k, (stK B p s k).1.lv = s.lv + k
  | 0 => rfl
  | k + 1 => by
    simp only [stK]
    split <;> simp [Sd.child, stK_lv B p s k] <;> omega
theorem stK_h (B p : Nat) (s : Sd) (hs : s.h.length = 32) : ∀ k, (stK B p s k).1.h.length = 32 ∧ (∀ t ∈ (stK B p s k).2.1, t.h.length = 32) ∧ (∀ t ∈ (stK B p s k).2.2, t.h.length = 32)
  | 0 => ⟨hs, by simp [stK], by simp [stK]⟩
  | k + 1 => by
    obtain ⟨h1, h2, h3⟩ := stK_h B p s hs k
    simp only [stK]
    split
    · refine ⟨downT_len _ _, h2, fun t ht => ?_⟩
      rcases List.mem_append.1 ht with ht | ht
      · exact h3 t ht
      · simp at ht; subst ht; exact downT_len _ _
    · refine ⟨downT_len _ _, fun t ht => ?_, h3⟩
      rcases List.mem_append.1 ht with ht | ht
      · exact h2 t ht
      · simp at ht; subst ht; exact downT_len _ _
/-- At which place of the list the seed stands that is at a place or above it. -/
def findT (B p : Nat) (l : List Sd) : Option Nat := l.findIdx? fun s => p / 2 ^ (B - s.lv) == s.pl
end Go.Proofs.YtjlpdbaknhbgdaaGreat
set_option linter.unusedSimpArgs false
set_option linter.unusedVariables false
namespace Go.Proofs.YtjlpdbaknhbgdaaGreat
open Go.RowKit

theorem Blk.newAt {w : World} {cs : Array Value} {t : TypeId} {g : Nat} (h : g = w.heap.size) : Blk (w.alloc (.cells cs t)) g cs t := by subst h; exact Blk.new _ _ _
theorem wrapI (x : Int) (h0 : -1000000000000 ≤ x) (h : x ≤ 1000000000000) : IntKind.i64.wrap x = x := by
  have e : IntKind.i64.wrap x = wrap64 x := by
    unfold IntKind.wrap wrap64
    simp [IntKind.bits, IntKind.signed]
    omega
  rw [e]; unfold wrap64; omega
theorem shrN (p B lv : Nat) (h : lv ≤ B) (hB : B ≤ 32) : Op.shift .shr .i64 (p : Int) .i64 (IntKind.i64.wrap ((B : Int) - (lv : Int))) = pure (.int .i64 ((p / 2 ^ (B - lv) : Nat) : Int)) := by
  rw [wrapI _ (by omega) (by omega), shift_shr_any .i64 .i64 (p : Int) ((B : Int) - (lv : Int)) (by omega), show min ((B : Int) - (lv : Int)).toNat (IntKind.bits .i64) = B - lv by simp [IntKind.bits]; omega]
  congr 2
theorem findT_some {B p : Nat} {l : List Sd} {k : Nat} {s : Sd} (h : ∀ j s, j < k → l[j]? = some s → p / 2 ^ (B - s.lv) ≠ s.pl) (hk : l[k]? = some s) (hs : p / 2 ^ (B - s.lv) = s.pl) : findT B p l = some k := by
  obtain ⟨hlt, he⟩ := List.getElem?_eq_some_iff.1 hk
  rw [findT, List.findIdx?_eq_some_iff_getElem]
  refine ⟨hlt, by rw [he]; simp [hs], fun j hj => ?_⟩
  have := h j l[j] hj (List.getElem?_eq_getElem (by omega))
  simpa using this
theorem findT_none {B p : Nat} {l : List Sd} (h : ∀ j s, j < l.length → l[j]? = some s → p / 2 ^ (B - s.lv) ≠ s.pl) : findT B p l = none := by
  rw [findT, List.findIdx?_eq_none_iff]
  intro s hs
  obtain ⟨j, hj, rfl⟩ := List.getElem_of_mem hs
  have := h j l[j] hj (List.getElem?_eq_getElem hj)
  simpa using this
def withinT (B : Nat) (p : Int) : Bool := decide (0 ≤ p ∧ p < ((2 ^ B : Nat) : Int))
set_option maxHeartbeats 4000000 in
set_option maxRecDepth 100000 in
theorem New6_calls (a : List UInt8) (B : Nat) (w : World) (ha : a.length = 32) (h1 : 1 ≤ B) (h2 : B ≤ 32) :
    Calls Tryz.prog 127 #[.agg (a.map bv).toArray, .int .i64 B] w fun e w' => ∃ r, e = .returned (.tuple #[.pointer (some ⟨r, 0, none⟩), .int .i64 0]) ∧ w.heap.size ≤ r ∧ RowAt w' r B [⟨0, 0, a⟩] ∧ Below w.heap.size w w' := by
  have HA := Lib.hid ha
  clear ha
  have hA0 : Blk (w.alloc (.cells (a.map bv).toArray 23)) w.heap.size (a.map bv).toArray 23 := Blk.new _ _ _
  have hb0 : Below w.heap.size w (w.alloc (.cells (a.map bv).toArray 23)) := (Below.refl _ _).alloc (Nat.le_refl _) _
  have hs0 : (w.alloc (.cells (a.map bv).toArray 23)).heap.size = w.heap.size + 1 := by simp
  have hd1 : decide ((B : Int) < 1) = false := by simp; omega
  have hd2 : decide ((32 : Int) < (B : Int)) = false := by simp; omega
  go_enter Tryz.func127, Tryz.ntmps127
  go_wp2_with (first | ((with_reducible show wpList _ _ _ (⟨some 13, _, _, _, _, _⟩ :: _) _ _); refine wpList_loadBlk rfl 23 (.tmp 2) rfl w.heap.size (by rfl) _ _ _ hA0 Tryz.underlying23 rfl (by rw [bv_size, HA.out]; exact Tryz.sizeHash) ?_) | ((with_reducible show wpList _ _ _ (⟨some 14, _, _, _, _, _⟩ :: _) _ _); refine wpList_buildCells rfl 227 #[(2, .tmp 13)] rfl _ (Tryz.builtSeed0 a HA.out) ?_) | ((with_reducible show wpList _ _ _ (⟨some 15, _, _, _, _, _⟩ :: _) _ _); refine wpList_bsOne rfl 154 227 (.tmp 14) rfl (Sd.cells ⟨0, 0, a⟩).toArray (by rfl) Tryz.underlying154 _ 34 Tryz.zsSeed (by rw [List.size_toArray]; exact Sd.cells_len _ HA.out) (by omega) (by omega) ?_) | ((with_reducible show wpList _ _ _ (⟨some 16, _, _, _, _, _⟩ :: _) _ _); refine wpList_buildCells rfl 158 #[(0, .tmp 12), (1, .tmp 15)] rfl _ (by kernel_rfl) ?_))
  go_returns
  generalize w.alloc (.cells (a.map bv).toArray 23) = W0 at hA0 hb0 hs0 ⊢
  have hb := (Blk.new W0 (Sd.cells ⟨0, 0, a⟩).toArray 227).alloc (.cells #[.int .i64 B, .slice (some ⟨w.heap.size + 1, 0, none⟩) 1 1] 158)
  rw [hs0] at hb
  refine ⟨w.heap.size + 1 + 1, rfl, by omega, ⟨_, Blk.newAt (by simp [hs0]), ?_⟩, (hb0.alloc hb0.size _).alloc (by simp; omega) _⟩
  refine ⟨by simp [HA.out], .inr ⟨w.heap.size + 1, 1, rfl, Nat.le_refl _, by simp [hs0], fun j u hj => ?_⟩⟩
  rw [List.flatMap_cons, List.flatMap_nil, List.append_nil] at hj
  exact hb.cell j u (by rw [List.getElem?_toArray]; exact hj)
set_option maxHeartbeats 4000000 in
set_option maxRecDepth 100000 in
theorem within_calls (r B : Nat) (l : List Sd) (p : Int) (w : World) (h : RowAt w r B l) (hB : B ≤ 32) (hp1 : -9223372036854775808 ≤ p) (hp2 : p ≤ 9223372036854775807) : Calls Tryz.prog 68 #[.pointer (some ⟨r, 0, none⟩), .int .i64 p] w fun e w' => e = .returned (.bool (withinT B p)) ∧ Below w.heap.size w w' := by
  obtain ⟨v, h1, h2⟩ := h
  have hc := h1.cell 0 _ rfl
  have hpow : (2 ^ B : Nat) ≤ 4294967296 := Nat.pow_le_pow_right (n := 2) (by omega) hB
  by_cases h0 : 0 ≤ p
  · go_enter Tryz.func68, Tryz.ntmps68
    go_wp2_with fail
    go_returns
    refine ⟨?_, Below.refl _ _⟩
    have hw : wrap64 ((2 : Int) ^ B) = ((2 ^ B : Nat) : Int) := by
      have : ((2 : Int) ^ B) = ((2 ^ B : Nat) : Int) := by simp
      rw [this]
      generalize (2 ^ B : Nat) = N at hpow
      unfold wrap64; omega
    show Ending.returned (.bool (decide (p < wrap64 (2 ^ B)))) = _
    rw [hw, withinT]
    congr 2
    simp only [h0, true_and]
  · have h3 : p < 0 := by omega
    go_enter Tryz.func68, Tryz.ntmps68
    go_wp2_with fail
    go_returns
    have hf : withinT B p = false := decide_eq_false (by omega)
    exact ⟨by rw [hf]; rfl, Below.refl _ _⟩
set_option maxHeartbeats 4000000 in
set_option maxRecDepth 100000 in
theorem find_calls (r B p : Nat) (l : List Sd) (w : World) (h : RowAt w r B l) (hB : B ≤ 32) (hl : ∀ s ∈ l, s.lv ≤ B) (hn : l.length ≤ 1000000) (hp : p < 4294967296) : Calls Tryz.prog 69 #[.pointer (some ⟨r, 0, none⟩), .int .i64 p] w fun e w' => e = .returned (.tuple #[.int .i64 (((findT B p l).getD 0 : Nat) : Int), .bool (findT B p l).isSome]) ∧ Below w.heap.size w w' := by
  obtain ⟨v, h1, h2⟩ := h
  obtain ⟨ao, c, rfl, hc⟩ := h2.slice
  have hc0 := h1.cell 0 _ rfl
  have hc1 := h1.cell 1 _ rfl
  have H1 := Lib.hid h1
  have H2 := Lib.hid h2
  clear h1 h2
  go_enter Tryz.func69, Tryz.ntmps69
  go_wp2_with fail
  go_loopw [13] (fun i wr => ∃ k, k ≤ l.length ∧ i = .int .i64 k ∧ Hid (Below w.heap.size w wr) ∧ Hid (∀ j s, j < k → l[j]? = some s → p / 2 ^ (B - s.lv) ≠ s.pl)) (fun i _ => l.length - (intOf i).toNat)
  case atStart => exact ⟨0, by omega, rfl, Below.refl _ _, by intro j s hj; omega⟩
  case round =>
    obtain ⟨k, hk, rfl, hB1, hno⟩ := hrel
    clear hc0 hc1
    have h1 := H1.out.below hB1.out H1.out.lt
    have h2 := H2.out.below hB1.out
    have hc0 := h1.cell 0 _ rfl
    have hc1 := h1.cell 1 _ rfl
    by_cases hlt : k < l.length
    · obtain ⟨g, rfl⟩ : ∃ g, ao = some ⟨g, 0, none⟩ := by
        rcases h2.2 with ⟨h3, h4⟩ | ⟨g, c', h3, h4, h5⟩
        · rw [h4] at hlt; simp at hlt
        · simp at h3; exact ⟨g, h3.1⟩
      obtain ⟨s, hs⟩ : ∃ s, l[k]? = some s := ⟨l[k], List.getElem?_eq_getElem hlt⟩
      have hs32 : s.h.length = 32 := h2.1 s (List.mem_of_getElem? hs)
      have hlv : s.lv ≤ B := hl s (List.mem_of_getElem? hs)
      have hrg := h2.range k s hs
      rw [Nat.mul_comm] at hrg
      have HS := Lib.hid hs32
      have HRG := Lib.hid hrg
      have HSM := Lib.hid hs
      have hN := Blk.new wr z34.toArray 227
      have hb2 := hB1.out.alloc hB1.out.size (.cells z34.toArray 227)
      clear hrg hs32 hs h2
      go_wp2_with (first | ((with_reducible show wpList _ _ _ (⟨some 17, _, _, _, _, _⟩ :: _) _ _); refine wpList_load_mid rfl 227 (.tmp 16) rfl g (k * 34) (by rfl) s.cells _ HRG.out Tryz.underlying227 rfl (by rw [Sd.cells_len s HS.out]; exact Tryz.sizeSeed) ?_) | ((with_reducible show wpList _ _ _ (⟨none, Op.store _ (.tmp 7) _, _, _, _, _⟩ :: _) _ _); refine wpList_storeBlk rfl 227 (.tmp 7) (.tmp 17) rfl wr.heap.size s.cells.toArray (by rfl) (by rfl) _ _ hN (by rw [List.size_toArray, Sd.cells_len s HS.out]; exact Tryz.sizeSeed) (by rw [show s.cells.toArray.size = 34 from by rw [List.size_toArray]; exact Sd.cells_len s HS.out]; rfl) s.cells_all ?_; intro w3 hS3 g3; have hb3 : Below w.heap.size w w3 := below_new hb2 g3 (by have := hB1.out.size; omega) hb2.size))
      have hcl := hS3.cell 0 (.int .i64 s.lv) rfl
      have hcp := hS3.cell 1 (.int .i64 s.pl) rfl
      have hsz := hB1.out.size
      have hrlt := h1.lt
      have hw3 : w3.cell? ⟨r, 0, none⟩ = some (.int .i64 B) := ((h1.alloc (.cells z34.toArray 227)).grown g3 (by simp; omega)).cell 0 _ rfl
      have HB3 := Lib.hid hb3
      have hsh := shrN p B s.lv hlv hB
      generalize hq : p / 2 ^ (B - s.lv) = q at hsh
      have HQ := Lib.hid hq
      clear hN hb2 hb3 hS3 g3 hc0 hc1 h1 hq
      go_region
      all_goals
        by_cases hm : q = s.pl
        · have hf : Hid (findT B p l = some k) := findT_some hno.out HSM.out (HQ.out.trans hm)
          go_wp2_with fail
          go_returns
          rw [hf.out]
          exact ⟨rfl, below_drewN HB3.out 1⟩
        · have hne : ((q : Int) == (s.pl : Int)) = false := by simp; omega
          have hno2 : Hid (∀ j s, j < k + 1 → l[j]? = some s → p / 2 ^ (B - s.lv) ≠ s.pl) := by
            intro j t hj ht
            by_cases hjk : j = k
            · subst hjk
              rw [HSM.out] at ht
              obtain rfl : s = t := by simpa using ht
              rw [HQ.out]; exact hm
            · exact hno.out j t (by omega) ht
          go_wp2_with fail
          go_roundw
          case rel => exact ⟨k + 1, by omega, by go_num, below_drewN HB3.out 1, hno2⟩
          case measure => simp [intOf]; omega
    · have hke : k = l.length := by omega
      have hf : Hid (findT B p l = none) := findT_none (fun j s hj hs => hno.out j s (by omega) hs)
      go_wp2_with fail
      go_returns
      rw [hf.out]
      exact ⟨rfl, hB1.out⟩
end Go.Proofs.YtjlpdbaknhbgdaaGreat
set_option linter.unusedSimpArgs false
set_option linter.unusedVariables false
namespace Go.Proofs.YtjlpdbaknhbgdaaGreat
open Go.RowKit

/-- A row of the document, as cells. -/
def rcells (root : List UInt8) (B : Nat) (v : Value) : List Value := root.map bv ++ [.int .i64 B, v]
end Go.Proofs.YtjlpdbaknhbgdaaGreat
set_option linter.unusedSimpArgs false
set_option linter.unusedVariables false
namespace Go.Proofs.YtjlpdbaknhbgdaaGreat
open Go.RowKit

theorem rcells_len (root : List UInt8) (B : Nat) (v : Value) (h : root.length = 32) : (rcells root B v).length = 34 := by simp [rcells, h]
end Go.Proofs.YtjlpdbaknhbgdaaGreat
set_option linter.unusedSimpArgs false
set_option linter.unusedVariables false
namespace Go.Proofs.YtjlpdbaknhbgdaaGreat
open Go.RowKit

abbrev zR6 : List Value := (List.replicate 32 (0 : UInt8)).map bv ++ [.int .i64 0, .slice none 0 0]
theorem Tryz.zeroR6 : (Tryz.prog.info? 42).bind (·.zero) = some (.agg zR6.toArray) := by kernel_rfl
theorem Tryz.builtR6 (B : Nat) (h : List UInt8) (hh : h.length = 32) : Tryz.prog.built 42 [(0, .agg (h.map bv).toArray), (1, .int .i64 B)] = some (rcells h B (.slice none 0 0)).toArray := by
  rw [built_struct Tryz.zeroR6 Tryz.underlying42 (places := [(0, 32), (32, 1), (33, 1)]) (by kernel_rfl), Value.cells]
  refine (fill_midV (A := []) (B := (List.replicate 32 (0 : UInt8)).map bv) (C := [.int .i64 0, .slice none 0 0]) (v := h.map bv) rfl rfl (by rw [List.length_map, hh]; rfl) (by simp [hh])).trans ?_
  refine (fill_midV (A := h.map bv) (B := [.int .i64 0]) (C := [.slice none 0 0]) (v := [.int .i64 B]) rfl rfl (by rw [List.length_map, hh]; rfl) rfl).trans ?_
  simp [Instr.fill, rcells]
end Go.Proofs.YtjlpdbaknhbgdaaGreat
set_option linter.unusedSimpArgs false
set_option linter.unusedVariables false
namespace Go.Proofs
open Go.Shelf Go.Lib
shelf_lay_g SlLaysE0.n35 Slgn 35 at Tryz 141 as Tryz.reverseSd
shelf_lay_g SlLaysE0.n41 Slgn 41 at Tryz 139 as Tryz.cloneSd
end Go.Proofs
namespace Go.Proofs.YtjlpdbaknhbgdaaGreat
open Go.RowKit Go.Sort

/-- A seed's cells, 34 in any case. -/
def Sd.enc (s : Sd) : List Value := .int .i64 s.lv :: .int .i64 s.pl :: ((s.h ++ List.replicate 32 0).take 32).map bv
theorem Sd.enc_len (s : Sd) : s.enc.length = 34 := by simp [Sd.enc]
theorem Sd.enc_one (s : Sd) : ∀ u ∈ s.enc, u.oneCell' = true := by
  intro u hu
  simp only [Sd.enc, List.mem_cons] at hu
  rcases hu with rfl | rfl | hu
  · rfl
  · rfl
  · exact bv_one _ u hu
theorem Sd.enc_eq (s : Sd) (h : s.h.length = 32) : s.enc = s.cells := by simp [Sd.enc, Sd.cells, List.take_left' h]
instance : Inhabited Sd := ⟨⟨0, 0, []⟩⟩

theorem holds_own {w : World} {base g c : Nat} {l : List Sd} (h : w.ownsRow base 227 34 (.slice (some ⟨g, 0, none⟩) l.length c) l.length (l.flatMap Sd.cells)) (hl : ∀ s ∈ l, s.h.length = 32) : HoldsK Sd.enc 34 w g 0 l.toArray := by
  have hs := SeedsAt.own h hl rfl
  intro j hj
  have hj' : j < l.length * 34 := by simpa using hj
  have hi : j / 34 < l.length := by omega
  have hr := hs.range (j / 34) (l[j / 34]) (List.getElem?_eq_getElem hi)
  have h32 : (l[j / 34]).h.length = 32 := hl _ (List.getElem_mem hi)
  have h34 := Sd.cells_len _ h32
  rw [get_flatK _ _ _ _ (by simpa using hj')]
  refine ⟨?_, ?_⟩
  · have h1 := hr (j % 34) ((l[j / 34]).cells[j % 34]'(by rw [h34]; omega)) (List.getElem?_eq_getElem _)
    rw [show 34 * (j / 34) + j % 34 = 0 + j by omega] at h1
    rw [h1]
    have e : l.toArray[j / 34]! = l[j / 34] := by rw [getElem!_pos _ _ (by simpa using hi)]; simp
    rw [e, Sd.enc_eq _ h32, getElem!_pos _ _ (by rw [h34]; omega)]
    rfl
  · rcases h.2 with ⟨h0, _⟩ | ⟨g', cap, cur, he, _, hg, _⟩
    · simp at h0
    · simp only [Value.slice.injEq, Option.some.injEq, Addr.mk.injEq] at he
      obtain ⟨⟨rfl, _⟩, _, rfl⟩ := he
      simp [World.frozen?, hg]

theorem seeds_holds {w : World} {g c : Nat} {l : List Sd} (h : HoldsK Sd.enc 34 w g 0 l.toArray) (hl : ∀ s ∈ l, s.h.length = 32) (hc : l.length ≤ c) (hg : g < w.heap.size) : SeedsAt w (.slice (some ⟨g, 0, none⟩) l.length c) l := by
  refine ⟨hl, .inr ⟨g, c, rfl, hc, hg, fun j u hj => ?_⟩⟩
  have hflat : (l.flatMap Sd.cells).length = l.length * 34 := by
    clear h hc hg hj
    induction l with
    | nil => rfl
    | cons s t ih => rw [List.flatMap_cons, List.length_append, Sd.cells_len s (hl s List.mem_cons_self), ih (fun x hx => hl x (List.mem_cons_of_mem _ hx)), List.length_cons]; omega
  have hlt : j < l.length * 34 := by have := (List.getElem?_eq_some_iff.1 hj).1; omega
  have hi : j / 34 < l.length := by omega
  have h32 : (l[j / 34]).h.length = 32 := hl _ (List.getElem_mem hi)
  have h34 := Sd.cells_len _ h32
  have h1 := (HoldsK.cell h (i := j / 34) (c := j % 34) (by simpa using hi) (by omega)).1
  rw [show 0 + j / 34 * 34 + j % 34 = j by omega] at h1
  rw [h1]
  have e : l.toArray[j / 34]! = l[j / 34] := by rw [getElem!_pos _ _ (by simpa using hi)]; simp
  have h2 := seeds_at l (j / 34) (l[j / 34]) (j % 34) hl (List.getElem?_eq_getElem hi) (by omega)
  rw [show 34 * (j / 34) + j % 34 = j by omega, hj] at h2
  rw [e, Sd.enc_eq _ h32, getElem!_pos _ _ (by rw [h34]; omega), h2, List.getElem?_eq_getElem]

theorem putRow_grown {α : Type} [Inhabited α] (enc : α → Value) (w : World) (g off : Nat) (d : Array α) : w.grownBy (putRow enc w g off d) (some g) := by
  refine ⟨rfl, rfl, rfl, by simp [putRow, mapBlock], fun k hk hr => ?_⟩
  have hne : g ≠ k := fun e => hr (by rw [e])
  simp only [putRow, mapBlock]
  rw [Array.getElem?_modify, if_neg hne]
theorem ahead_grown (w : World) (n : Nat) (row : Option Nat) : w.grownBy (Sort.ahead w n) row := ⟨rfl, rfl, rfl, Nat.le_refl _, fun _ _ _ => rfl⟩

/-- slices.Reverse at seeds. -/
theorem Reverse_calls (base g c : Nat) (l : List Sd) (w : World) (h : w.ownsRow base 227 34 (.slice (some ⟨g, 0, none⟩) l.length c) l.length (l.flatMap Sd.cells)) (hl : ∀ s ∈ l, s.h.length = 32) (hc : l.length ≤ c) :
    Calls Tryz.prog 141 #[.slice (some ⟨g, 0, none⟩) l.length c] w fun e w' => e = .returned (.tuple #[]) ∧ SeedsAt w' (.slice (some ⟨g, 0, none⟩) l.length c) l.reverse ∧ w.grownBy w' (some g) := by
  have hH := holds_own h hl
  have hg : g < w.heap.size := (h.lt g rfl).2
  have hcall := AnyQ.slices_Reverse Tryz.reverseSd 34 Tryz.isAgg227 Tryz.sizeOf227 Sd.enc Sd.enc_len Sd.enc_one g 0 c l.toArray w hH (by have := h.1; rcases h.2 with ⟨h0, _⟩ | ⟨_, _, _, he, _, _, _, hm, _⟩; simp at h0; simp at he; unfold maxLen at hm; simp; omega)
  change Calls Tryz.prog 141 _ _ _ at hcall
  rw [List.size_toArray] at hcall
  refine hcall.mono ?_
  rintro e w' ⟨rfl, n, rfl⟩
  have hgr : w.grownBy (putRowK Sd.enc 34 (Sort.ahead w n) g 0 l.toArray.reverse) (some g) := grown_trans (ahead_grown w n _) (putRow_grown _ _ _ _ _)
  refine ⟨rfl, ?_, hgr⟩
  have h2 : HoldsK Sd.enc 34 (putRowK Sd.enc 34 (Sort.ahead w n) g 0 l.toArray.reverse) g 0 l.toArray.reverse := holdsK_putRowK _ _ _ _ _ l.toArray _ (holdsK_ahead _ _ _ _ _ _ _ hH) (by simp)
  rw [List.reverse_toArray] at h2 hgr ⊢
  have := seeds_holds (c := c) h2 (fun s hs => hl s (List.mem_reverse.1 hs)) (by rw [List.length_reverse]; exact hc) (Nat.lt_of_lt_of_le hg hgr.size)
  rwa [List.length_reverse] at this
theorem ReverseNil_calls (w : World) : Calls Tryz.prog 141 #[.slice none 0 0] w fun e w' => e = .returned (.tuple #[]) ∧ w' = w := by
  have hcall := AnyQ.slices_Reverse_empty Tryz.reverseSd none 0 w
  change Calls Tryz.prog 141 _ _ _ at hcall
  exact hcall

theorem own_weaken {w : World} {b1 b2 : Nat} {e : TypeId} {size n : Nat} {v : Value} {xs : List Value} (h : w.ownsRow b1 e size v n xs) (hb : b2 ≤ b1) : w.ownsRow b2 e size v n xs := by
  refine ⟨h.1, ?_⟩
  rcases h.2 with h0 | ⟨g, cap, cur, h1, h2, h3⟩
  · exact .inl h0
  · exact .inr ⟨g, cap, cur, h1, by omega, h3⟩

/-- append to a row of one's own: the new row lies where the old one lay, or is new. -/
theorem wpList_append_own2 {P : Program} {w : World} {ops : Array Oper} {rest : List Oper} {o : Oper} {a : Act} {Q : Exit → Act → World → Prop} (hgd : o.guard = none) (s x : Operand) (t : TypeId)
    (ho : o.op = .call { callee := .builtin .append, args := #[s, x], argTypes := #[t, t] })
    (base : Nat) (e : TypeId) (i : TypeInfo) (z : Value) (size bytes : Nat) (ht : P.underlying t = some (.slice e)) (hi : P.info? e = some i) (hz : i.zero = some z)
    (hsize : i.size = size) (hby : i.bytes = bytes) (hzs : z.cells.size = size) (hsz : 0 < size)
    (v : Value) (n : Nat) (xs : List Value) (hs : a.eval s = v) (hown : w.ownsRow base e size v n xs)
    (ad : Addr) (m c : Nat) (news : List Value) (hx : a.eval x = .slice (some ad) m c) (hl : news.length = m * size) (hnews : ∀ j u, news[j]? = some u → w.cell? (ad.add j) = some u) (h1 : ∀ u ∈ news, u.oneCell' = true)
    (h63 : n + m ≤ maxLen) (hbytes : (n + m) * bytes ≤ 140737488355328) (hbase : base ≤ w.heap.size)
    (h : ∀ v' w', w'.ownsRow base e size v' (n + m) (xs ++ news) → w.grownBy w' v.ownBlock → (∀ q, v'.ownBlock = some q → v.ownBlock = some q ∨ w.heap.size ≤ q) → wpList P ops Q rest (a.put o.dst v') w') : wpList P ops Q (o :: rest) a w := by
  rcases hown.2 with ⟨rfl, rfl⟩ | ⟨g, cap, cur, rfl, hb, hg, hn, hm, hcs, htk⟩
  · have h0 : xs = [] := List.eq_nil_of_length_eq_zero (by rw [hown.1]; simp)
    subst h0
    refine wpList_append_own w hgd s x t ho w.heap.size e i z size bytes ht hi hz hsize hby hzs hsz _ 0 [] hs (World.ownsRow_nil _ _ _ _) ad m c news hx hl hnews h1 h63 hbytes (Nat.le_refl _) fun v' w' h2 h3 _ => ?_
    exact h v' w' (own_weaken h2 hbase) h3 (fun q hq => .inr (h2.lt q hq).1)
  · by_cases hr : n + m ≤ cap
    · refine wpList_append_fits w hgd s x t ho base e i size ht hi hsize g n cap xs hs hown ad m c news hx hl hnews h1 hr fun w' h2 h3 => ?_
      exact h _ w' h2 h3 (fun q hq => .inl hq)
    · refine wpList_append_arg w hgd s x t ho e i z size bytes ht hi hz hsize hby hzs hsz g 0 n cap xs hs hown.1 (fun j u hj => by have := hown.cells (g := g) rfl j u hj; rwa [Addr.add_lit] at this) ad m c news hx hl hnews h1 (fun hr2 => absurd hr2 hr) h63 hbytes (fun hr2 => absurd hr2 hr) fun _ v' w' h2 h3 => ?_
      exact h v' w' (own_weaken h2 hbase) (grown_any h3 _) (fun q hq => .inr (h2.lt q hq).1)
end Go.Proofs.YtjlpdbaknhbgdaaGreat
