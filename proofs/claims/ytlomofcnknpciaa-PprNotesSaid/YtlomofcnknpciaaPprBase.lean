/-
  Rows of seeds (ppr): what a seed is in memory; literals of seeds. What the walks of ppr say.
  ppr: New, Bits, within, find, Gone.
-/
import Derived.Test.YtlomofcnknpciaaPrimDerive
import Derived.Test.YtlomofcnknpciaaKit0
set_option linter.unusedSimpArgs false
set_option linter.unusedVariables false
namespace Go.Proofs.Ytlomofcnknpciaa
open Go.RowKit

/-- A seed: its level, its place, its digest. -/
structure Sd where
  lv : Nat
  pl : Nat
  h : List UInt8
def Sd.cells (s : Sd) : List Value := .int .i64 s.lv :: .int .i64 s.pl :: s.h.map bv
theorem Sd.cells_len (s : Sd) (h : s.h.length = 32) : s.cells.length = 34 := by simp [Sd.cells, h]
theorem Sd.cells_one (s : Sd) : ∀ u ∈ s.cells, u.oneCell' = true := by
  intro u hu
  simp only [Sd.cells, List.mem_cons] at hu
  rcases hu with rfl | rfl | hu
  · rfl
  · rfl
  · exact bv_one _ u hu
theorem Sd.cells_all (s : Sd) : s.cells.toArray.all (·.oneCell') = true := by
  rw [List.all_toArray, List.all_eq_true]; exact s.cells_one

/-- A part goes into the midst of cells: what 'fill' does with one part. -/
theorem fill_midV {place : Nat → Option (Nat × Nat)} {rest : List (Nat × Value)} {i : Nat} {l A B C v : List Value} {x : Value} (hx : x.cells = v.toArray) (hl : l = A ++ (B ++ C)) (hp : place i = some (A.length, v.length)) (hB : B.length = v.length) :
    Instr.fill place l.toArray ((i, x) :: rest) = Instr.fill place (A ++ (v ++ C)).toArray rest := by
  subst hl
  have hF : Instr.fill place (A ++ (B ++ C)).toArray ((i, x) :: rest) = Instr.fill place (Array.foldl (fun cs (x : Value × Nat) => cs.setIfInBounds (A.length + x.2) x.1) (A ++ (B ++ C)).toArray (v.toArray.zipIdx)) rest := by
    conv => lhs; rw [Instr.fill]
    rw [hp]
    dsimp only
    rw [hx]
    split
    · rename_i h
      simp at h
      omega
    · rfl
  rw [hF]
  congr 1
  obtain ⟨h1, h2⟩ := Go.Great.foldl_set A.length v 0 (A ++ (B ++ C)).toArray
  have e : (Array.foldl (fun cs (x : Value × Nat) => cs.setIfInBounds (A.length + x.2) x.1) (A ++ (B ++ C)).toArray (v.toArray.zipIdx)) = (v.zipIdx 0).foldl (fun cs (x : Value × Nat) => cs.setIfInBounds (A.length + x.2) x.1) (A ++ (B ++ C)).toArray := by
    rw [← Array.foldl_toList]
    simp
  refine e.trans ?_
  apply Array.ext_getElem?
  intro k
  rw [h2 k]
  simp only [List.getElem?_toArray, List.size_toArray, Nat.add_zero]
  by_cases hk1 : k < A.length
  · rw [if_neg (by omega), List.getElem?_append_left hk1, List.getElem?_append_left hk1]
  · by_cases hk2 : k < A.length + v.length
    · rw [if_pos ⟨by omega, by omega, by simp; omega⟩, List.getElem?_append_right (by omega), List.getElem?_append_left (by omega)]
    · rw [if_neg (by omega), List.getElem?_append_right (l₂ := B ++ C) (by omega), List.getElem?_append_right (l₂ := v ++ C) (by omega), List.getElem?_append_right (l₁ := B) (by omega), List.getElem?_append_right (l₁ := v) (by omega), hB]

abbrev z34 : List Value := .int .i64 0 :: .int .i64 0 :: (List.replicate 32 (0 : UInt8)).map bv
theorem Try.zeroSeed : (Try.prog.info? 135).bind (·.zero) = some (.agg z34.toArray) := by kernel_rfl
theorem Try.infoSeed : (Try.prog.info? 135).map (fun i => (i.zero, i.size, i.bytes)) = some (some (.agg z34.toArray), 34, 48) := by kernel_rfl
theorem Try.sizeSeed : (Try.prog.info? 135).map (·.size) = some 34 := by kernel_rfl
theorem Try.sizeSeed2 : (Try.prog.info? 208).map (·.size) = some 68 := by kernel_rfl
theorem Try.sizeRow : (Try.prog.info? 138).map (·.size) = some 2 := by kernel_rfl

theorem Try.builtSeed (n m : Nat) (h : List UInt8) (hh : h.length = 32) : Try.prog.built 135 [(0, .int .i64 n), (1, .int .i64 m), (2, .agg (h.map bv).toArray)] = some (Sd.cells ⟨n, m, h⟩).toArray := by
  rw [built_struct Try.zeroSeed Try.underlying135 (places := [(0, 1), (1, 1), (2, 32)]) (by kernel_rfl), Value.cells]
  refine (fill_midV (A := []) (B := [.int .i64 0]) (C := .int .i64 0 :: (List.replicate 32 (0 : UInt8)).map bv) (v := [.int .i64 n]) rfl rfl (by rfl) rfl).trans ?_
  refine (fill_midV (A := [.int .i64 n]) (B := [.int .i64 0]) (C := (List.replicate 32 (0 : UInt8)).map bv) (v := [.int .i64 m]) rfl rfl (by rfl) rfl).trans ?_
  refine (fill_midV (A := [.int .i64 n, .int .i64 m]) (B := (List.replicate 32 (0 : UInt8)).map bv) (C := []) (v := h.map bv) rfl (by simp) (by rw [List.length_map, hh]; rfl) (by simp [hh])).trans ?_
  simp [Instr.fill, Sd.cells]
theorem Try.builtSeed0 (h : List UInt8) (hh : h.length = 32) : Try.prog.built 135 [(2, .agg (h.map bv).toArray)] = some (Sd.cells ⟨0, 0, h⟩).toArray := by
  rw [built_struct Try.zeroSeed Try.underlying135 (places := [(0, 1), (1, 1), (2, 32)]) (by kernel_rfl), Value.cells]
  refine (fill_midV (A := [.int .i64 0, .int .i64 0]) (B := (List.replicate 32 (0 : UInt8)).map bv) (C := []) (v := h.map bv) rfl (by simp) (by rw [List.length_map, hh]; rfl) (by simp [hh])).trans ?_
  simp [Instr.fill, Sd.cells]
theorem Try.builtSeeds (s t : Sd) (hs : s.h.length = 32) (ht : t.h.length = 32) : Try.prog.built 208 [(0, .agg s.cells.toArray), (1, .agg t.cells.toArray)] = some (s.cells ++ t.cells).toArray := by
  obtain ⟨i, hi, hz, hsz, _⟩ := info_parts Try.infoSeed
  have h2 : (Try.prog.info? 208).bind (·.zero) = some (.agg (z34 ++ z34).toArray) := by kernel_rfl
  unfold Program.built
  cases hj : Try.prog.info? 208 with
  | none => simp [hj] at h2
  | some it =>
    have hz' : it.zero = some (.agg (z34 ++ z34).toArray) := by simpa [hj] using h2
    simp only [Try.underlying208, hz', hi, hsz, Value.cells]
    refine (fill_midV (A := []) (B := z34) (C := z34) (v := s.cells) rfl (by simp) (by simp [Sd.cells_len s hs]) (by rw [Sd.cells_len s hs]; rfl)).trans ?_
    refine (fill_midV (A := s.cells) (B := z34) (C := []) (v := t.cells) rfl (by simp) (by simp [Sd.cells_len s hs, Sd.cells_len t ht]) (by rw [Sd.cells_len t ht]; rfl)).trans ?_
    simp [Instr.fill]

/-- A slice literal of one struct (or array). -/
theorem wp_bsOne {P : Program} {o : Oper} {a : Act} {w : World} {K : Act → World → Prop} {Q : Exit → Act → World → Prop} (t e : TypeId) (x : Operand) (ho : o.op = .buildSlice t 1 #[(0, x)])
    (cs : Array Value) (hx : a.eval x = .agg cs) (hu : P.underlying t = some (.slice e)) (z : Value) (n : Nat) (hz : (P.info? e).map (fun i => (i.zero, i.size)) = some (some z, n)) (hn : cs.size = n) (h0 : 0 < n) (hb : n ≤ 16777216)
    (h : K (a.put o.dst (.slice (some ⟨w.heap.size, 0, none⟩) 1 1)) (w.alloc (.cells cs e))) : o.wp P a w K Q := by
  cases hi : P.info? e with
  | none => simp [hi] at hz
  | some ie =>
    simp [hi] at hz
    obtain ⟨hz1, hz2⟩ := hz
    refine Go.wp_buildSlice t e 1 #[(0, x)] ho cs ie z hu hi hz1 (by rw [hz2]; omega) (by rw [hz2]; omega) ?_ h
    have e1 : (#[(0, x)].map fun (i, x) => (i, a.eval x)).toList = (([Value.agg cs].zipIdx 0).map fun x => (x.2, x.1)) := by simp [hx]
    rw [e1, hz2, Go.Great.fill_whole h0 [.agg cs] _ (by simp [Value.cells, hn]) (by simp)]
    simp [Value.cells]
theorem wpList_bsOne {P : Program} {ops : Array Oper} {rest : List Oper} {o : Oper} {a : Act} {w : World} {Q : Exit → Act → World → Prop} (hg : o.guard = none) (t e : TypeId) (x : Operand) (ho : o.op = .buildSlice t 1 #[(0, x)])
    (cs : Array Value) (hx : a.eval x = .agg cs) (hu : P.underlying t = some (.slice e)) (z : Value) (n : Nat) (hz : (P.info? e).map (fun i => (i.zero, i.size)) = some (some z, n)) (hn : cs.size = n) (h0 : 0 < n) (hb : n ≤ 16777216)
    (h : wpList P ops Q rest (a.put o.dst (.slice (some ⟨w.heap.size, 0, none⟩) 1 1)) (w.alloc (.cells cs e))) : wpList P ops Q (o :: rest) a w :=
  wpList_plain hg fun _ hK => wp_bsOne t e x ho cs hx hu z n hz hn h0 hb (hK _ _ h)
theorem Try.zsSeed : (Try.prog.info? 135).map (fun i => (i.zero, i.size)) = some (some (.agg z34.toArray), 34) := by kernel_rfl

/-- The seeds of a slice, at their places. -/
def SeedsAt (w : World) (v : Value) (l : List Sd) : Prop :=
  (∀ s ∈ l, s.h.length = 32) ∧ ((v = .slice none 0 0 ∧ l = []) ∨ ∃ g c, v = .slice (some ⟨g, 0, none⟩) l.length c ∧ l.length ≤ c ∧ g < w.heap.size ∧ ∀ j u, (l.flatMap Sd.cells)[j]? = some u → w.cell? ⟨g, j, none⟩ = some u)
theorem SeedsAt.below {w w' : World} {v : Value} {l : List Sd} (h : SeedsAt w v l) (b : Below w.heap.size w w') : SeedsAt w' v l := by
  refine ⟨h.1, ?_⟩
  rcases h.2 with h0 | ⟨g, c, rfl, hc, hlt, hcell⟩
  · exact .inl h0
  · exact .inr ⟨g, c, rfl, hc, Nat.lt_of_lt_of_le hlt b.size, fun j u hj => (b.cell (p := ⟨g, j, none⟩) hlt).trans (hcell j u hj)⟩
theorem SeedsAt.slice {w : World} {v : Value} {l : List Sd} (h : SeedsAt w v l) : ∃ ao c, v = .slice ao l.length c ∧ l.length ≤ c := by
  rcases h.2 with ⟨rfl, rfl⟩ | ⟨g, c, rfl, hc, _⟩
  · exact ⟨_, _, rfl, Nat.le_refl _⟩
  · exact ⟨_, _, rfl, hc⟩
theorem seeds_at : ∀ (l : List Sd) (i : Nat) (s : Sd) (j : Nat), (∀ s ∈ l, s.h.length = 32) → l[i]? = some s → j < 34 → (l.flatMap Sd.cells)[34 * i + j]? = s.cells[j]?
  | [], i, s, j, _, h, _ => by simp at h
  | t :: l, 0, s, j, hl, h, hj => by
    obtain rfl : t = s := by simpa using h
    rw [List.flatMap_cons, List.getElem?_append_left (by rw [Sd.cells_len t (hl t List.mem_cons_self)]; omega), Nat.mul_zero, Nat.zero_add]
  | t :: l, i + 1, s, j, hl, h, hj => by
    have h34 := Sd.cells_len t (hl t List.mem_cons_self)
    rw [List.flatMap_cons, List.getElem?_append_right (by omega), h34, show 34 * (i + 1) + j - 34 = 34 * i + j by omega]
    exact seeds_at l i s j (fun s hs => hl s (List.mem_cons_of_mem _ hs)) (by simpa using h) hj
theorem SeedsAt.range {w : World} {g n c : Nat} {l : List Sd} (h : SeedsAt w (.slice (some ⟨g, 0, none⟩) n c) l) (i : Nat) (s : Sd) (hi : l[i]? = some s) : w.rangeAt g (34 * i) s.cells := by
  rcases h.2 with ⟨h0, _⟩ | ⟨g', c', he, _, hlt, hcell⟩
  · simp at h0
  · simp only [Value.slice.injEq, Option.some.injEq, Addr.mk.injEq] at he
    obtain ⟨⟨rfl, _⟩, rfl, rfl⟩ := he
    intro j u hj
    have hs : s.h.length = 32 := h.1 s (List.mem_of_getElem? hi)
    have hj34 : j < 34 := by have := (List.getElem?_eq_some_iff.1 hj).1; rw [Sd.cells_len s hs] at this; exact this
    exact hcell _ u (by rw [seeds_at l i s j h.1 hi hj34]; exact hj)
/-- A row that is owned is a slice of seeds. -/
theorem SeedsAt.own {w : World} {base n : Nat} {v : Value} {l : List Sd} (h : w.ownsRow base 135 34 v n (l.flatMap Sd.cells)) (hl : ∀ s ∈ l, s.h.length = 32) (hn : n = l.length) : SeedsAt w v l := by
  subst hn
  refine ⟨hl, ?_⟩
  rcases h.2 with ⟨h0, h1⟩ | ⟨g, cap, cur, rfl, hb, hg, h1, h2, h3, h4⟩
  · exact .inl ⟨h0, List.eq_nil_of_length_eq_zero h1⟩
  · refine .inr ⟨g, cap, rfl, h1, lt_of_block hg, fun j u hj => ?_⟩
    have hlt : j < l.length * 34 := by
      have := (List.getElem?_eq_some_iff.1 hj).1
      rw [h.1] at this; exact this
    have e : (cur.toList.take (l.length * 34))[j]? = some u := by rw [h4]; exact hj
    rw [List.getElem?_take_of_lt hlt] at e
    have : cur[j]? = some u := by simpa using e
    simp [World.cell?, hg, this]

/-- A row: how many bits it has, and its seeds. -/
def RowAt (w : World) (r B : Nat) (l : List Sd) : Prop := ∃ v, Blk w r #[.int .i64 B, v] 138 ∧ SeedsAt w v l
theorem RowAt.below {w w' : World} {r B : Nat} {l : List Sd} (h : RowAt w r B l) (b : Below w.heap.size w w') : RowAt w' r B l := by
  obtain ⟨v, h1, h2⟩ := h
  exact ⟨v, h1.below b h1.lt, h2.below b⟩
theorem RowAt.lt {w : World} {r B : Nat} {l : List Sd} (h : RowAt w r B l) : r < w.heap.size := by
  obtain ⟨v, h1, h2⟩ := h
  exact h1.lt

/-- The seeds below one, the key of one. -/
def lLeft : List UInt8 := [108, 101, 102, 116]
def lRight : List UInt8 := [114, 105, 103, 104, 116]
def lKey : List UInt8 := [107, 101, 121]
def downT (right : Bool) (h : List UInt8) : List UInt8 := sha ((if right then lRight else lLeft) ++ h)
theorem downT_len (r : Bool) (h : List UInt8) : (downT r h).length = 32 := sha_len _
def keyT (h : List UInt8) : List UInt8 := sha (lKey ++ h)
theorem keyT_len (h : List UInt8) : (keyT h).length = 32 := sha_len _
/-- Which way it goes below a level to a place, in a row of B bits. -/
def wayT (B p lv : Nat) : Nat := p / 2 ^ (B - lv - 1) % 2
def Sd.child (s : Sd) (right : Bool) : Sd := ⟨s.lv + 1, 2 * s.pl + (if right then 1 else 0), downT right s.h⟩
/-- So many steps down from a seed to a place: the seed there, those to the left, those to the right in the order in which they come. -/
def stK (B p : Nat) (s : Sd) : Nat → Sd × List Sd × List Sd
  | 0 => (s, [], [])
  | k + 1 =>
    let q := stK B p s k
    if wayT B p q.1.lv = 0 then (q.1.child false, q.2.1, q.2.2 ++ [q.1.child true]) else (q.1.child true, q.2.1 ++ [q.1.child false], q.2.2)
theorem stK_lv (B p : Nat) (s : Sd) : ∀ k, (stK B p s k).1.lv = s.lv + k
  | 0 => rfl
  | k + 1 => by
    simp only [stK]
    split <;> simp [Sd.child, stK_lv B p s k] <;> omega
theorem stK_h (B p : Nat) (s : Sd) (hs : s.h.length = 32) : ∀ k, (stK B p s k).1.h.length = 32 ∧ (∀ t ∈ (stK B p s k).2.1, t.h.length = 32) ∧ (∀ t ∈ (stK B p s k).2.2, t.h.length = 32)
  | 0 => ⟨hs, by simp [stK], by simp [stK]⟩
  | k + 1 => by
    obtain ⟨h1, h2, h3⟩ := stK_h B p s hs k
    simp only [stK]
    split
    · refine ⟨downT_len _ _, h2, fun t ht => ?_⟩
      rcases List.mem_append.1 ht with ht | ht
      · exact h3 t ht
      · simp at ht; subst ht; exact downT_len _ _
    · refine ⟨downT_len _ _, fun t ht => ?_, h3⟩
      rcases List.mem_append.1 ht with ht | ht
      · exact h2 t ht
      · simp at ht; subst ht; exact downT_len _ _
/-- At which place of the list the seed stands that is at a place or above it. -/
def findT (B p : Nat) (l : List Sd) : Option Nat := l.findIdx? fun s => p / 2 ^ (B - s.lv) == s.pl
end Go.Proofs.Ytlomofcnknpciaa
set_option linter.unusedSimpArgs false
set_option linter.unusedVariables false
namespace Go.Proofs.Ytlomofcnknpciaa
open Go.RowKit

theorem Blk.newAt {w : World} {cs : Array Value} {t : TypeId} {g : Nat} (h : g = w.heap.size) : Blk (w.alloc (.cells cs t)) g cs t := by subst h; exact Blk.new _ _ _
theorem wrapI (x : Int) (h0 : -1000000000000 ≤ x) (h : x ≤ 1000000000000) : IntKind.i64.wrap x = x := by
  have e : IntKind.i64.wrap x = wrap64 x := by
    unfold IntKind.wrap wrap64
    simp [IntKind.bits, IntKind.signed]
    omega
  rw [e]; unfold wrap64; omega
theorem shrN (p B lv : Nat) (h : lv ≤ B) (hB : B ≤ 32) : Op.shift .shr .i64 (p : Int) .i64 (IntKind.i64.wrap ((B : Int) - (lv : Int))) = pure (.int .i64 ((p / 2 ^ (B - lv) : Nat) : Int)) := by
  rw [wrapI _ (by omega) (by omega), shift_shr_any .i64 .i64 (p : Int) ((B : Int) - (lv : Int)) (by omega), show min ((B : Int) - (lv : Int)).toNat (IntKind.bits .i64) = B - lv by simp [IntKind.bits]; omega]
  congr 2
theorem findT_some {B p : Nat} {l : List Sd} {k : Nat} {s : Sd} (h : ∀ j s, j < k → l[j]? = some s → p / 2 ^ (B - s.lv) ≠ s.pl) (hk : l[k]? = some s) (hs : p / 2 ^ (B - s.lv) = s.pl) : findT B p l = some k := by
  obtain ⟨hlt, he⟩ := List.getElem?_eq_some_iff.1 hk
  rw [findT, List.findIdx?_eq_some_iff_getElem]
  refine ⟨hlt, by rw [he]; simp [hs], fun j hj => ?_⟩
  have := h j l[j] hj (List.getElem?_eq_getElem (by omega))
  simpa using this
theorem findT_none {B p : Nat} {l : List Sd} (h : ∀ j s, j < l.length → l[j]? = some s → p / 2 ^ (B - s.lv) ≠ s.pl) : findT B p l = none := by
  rw [findT, List.findIdx?_eq_none_iff]
  intro s hs
  obtain ⟨j, hj, rfl⟩ := List.getElem_of_mem hs
  have := h j l[j] hj (List.getElem?_eq_getElem hj)
  simpa using this
def withinT (B : Nat) (p : Int) : Bool := decide (0 ≤ p ∧ p < ((2 ^ B : Nat) : Int))
set_option maxHeartbeats 4000000 in
set_option maxRecDepth 100000 in
theorem New6_calls (a : List UInt8) (B : Nat) (w : World) (ha : a.length = 32) (h1 : 1 ≤ B) (h2 : B ≤ 32) :
    Calls Try.prog 18 #[.agg (a.map bv).toArray, .int .i64 B] w fun e w' => ∃ r, e = .returned (.tuple #[.pointer (some ⟨r, 0, none⟩), .int .i64 0]) ∧ w.heap.size ≤ r ∧ RowAt w' r B [⟨0, 0, a⟩] ∧ Below w.heap.size w w' := by
  have HA := Lib.hid ha
  clear ha
  have hA0 : Blk (w.alloc (.cells (a.map bv).toArray 23)) w.heap.size (a.map bv).toArray 23 := Blk.new _ _ _
  have hb0 : Below w.heap.size w (w.alloc (.cells (a.map bv).toArray 23)) := (Below.refl _ _).alloc (Nat.le_refl _) _
  have hs0 : (w.alloc (.cells (a.map bv).toArray 23)).heap.size = w.heap.size + 1 := by simp
  have hd1 : decide ((B : Int) < 1) = false := by simp; omega
  have hd2 : decide ((32 : Int) < (B : Int)) = false := by simp; omega
  go_enter Try.func18, Try.ntmps18
  go_wp2_with (first | ((with_reducible show wpList _ _ _ (⟨some 13, _, _, _, _, _⟩ :: _) _ _); refine wpList_loadBlk rfl 23 (.tmp 2) rfl w.heap.size (by rfl) _ _ _ hA0 Try.underlying23 rfl (by rw [bv_size, HA.out]; exact Try.sizeHash) ?_) | ((with_reducible show wpList _ _ _ (⟨some 14, _, _, _, _, _⟩ :: _) _ _); refine wpList_buildCells rfl 135 #[(2, .tmp 13)] rfl _ (Try.builtSeed0 a HA.out) ?_) | ((with_reducible show wpList _ _ _ (⟨some 15, _, _, _, _, _⟩ :: _) _ _); refine wpList_bsOne rfl 136 135 (.tmp 14) rfl (Sd.cells ⟨0, 0, a⟩).toArray (by rfl) Try.underlying136 _ 34 Try.zsSeed (by rw [List.size_toArray]; exact Sd.cells_len _ HA.out) (by omega) (by omega) ?_) | ((with_reducible show wpList _ _ _ (⟨some 16, _, _, _, _, _⟩ :: _) _ _); refine wpList_buildCells rfl 138 #[(0, .tmp 12), (1, .tmp 15)] rfl _ (by kernel_rfl) ?_))
  go_returns
  generalize w.alloc (.cells (a.map bv).toArray 23) = W0 at hA0 hb0 hs0 ⊢
  have hb := (Blk.new W0 (Sd.cells ⟨0, 0, a⟩).toArray 135).alloc (.cells #[.int .i64 B, .slice (some ⟨w.heap.size + 1, 0, none⟩) 1 1] 138)
  rw [hs0] at hb
  refine ⟨w.heap.size + 1 + 1, rfl, by omega, ⟨_, Blk.newAt (by simp [hs0]), ?_⟩, (hb0.alloc hb0.size _).alloc (by simp; omega) _⟩
  refine ⟨by simp [HA.out], .inr ⟨w.heap.size + 1, 1, rfl, Nat.le_refl _, by simp [hs0], fun j u hj => ?_⟩⟩
  rw [List.flatMap_cons, List.flatMap_nil, List.append_nil] at hj
  exact hb.cell j u (by rw [List.getElem?_toArray]; exact hj)
set_option maxHeartbeats 4000000 in
set_option maxRecDepth 100000 in
theorem New6Bad_calls (a : List UInt8) (B : Int) (w : World) (h1 : B < 1 ∨ 32 < B) :
    Calls Try.prog 18 #[.agg (a.map bv).toArray, .int .i64 B] w fun e w' => e = .returned (.tuple #[.pointer none, .int .i64 1]) ∧ Below w.heap.size w w' := by
  have hb0 : Below w.heap.size w (w.alloc (.cells (a.map bv).toArray 23)) := (Below.refl _ _).alloc (Nat.le_refl _) _
  by_cases h2 : B < 1
  · go_enter Try.func18, Try.ntmps18
    go_wp2_with fail
    go_returns
    exact ⟨rfl, hb0⟩
  · have h3 : 32 < B := by omega
    clear h1
    go_enter Try.func18, Try.ntmps18
    go_wp2_with fail
    go_returns
    exact ⟨rfl, hb0⟩
set_option maxHeartbeats 4000000 in
set_option maxRecDepth 100000 in
theorem within_calls (r B : Nat) (l : List Sd) (p : Int) (w : World) (h : RowAt w r B l) (hB : B ≤ 32) (hp1 : -9223372036854775808 ≤ p) (hp2 : p ≤ 9223372036854775807) : Calls Try.prog 73 #[.pointer (some ⟨r, 0, none⟩), .int .i64 p] w fun e w' => e = .returned (.bool (withinT B p)) ∧ Below w.heap.size w w' := by
  obtain ⟨v, h1, h2⟩ := h
  have hc := h1.cell 0 _ rfl
  have hpow : (2 ^ B : Nat) ≤ 4294967296 := Nat.pow_le_pow_right (n := 2) (by omega) hB
  by_cases h0 : 0 ≤ p
  · go_enter Try.func73, Try.ntmps73
    go_wp2_with fail
    go_returns
    refine ⟨?_, Below.refl _ _⟩
    have hw : wrap64 ((2 : Int) ^ B) = ((2 ^ B : Nat) : Int) := by
      have : ((2 : Int) ^ B) = ((2 ^ B : Nat) : Int) := by simp
      rw [this]
      generalize (2 ^ B : Nat) = N at hpow
      unfold wrap64; omega
    show Ending.returned (.bool (decide (p < wrap64 (2 ^ B)))) = _
    rw [hw, withinT]
    congr 2
    simp only [h0, true_and]
  · have h3 : p < 0 := by omega
    go_enter Try.func73, Try.ntmps73
    go_wp2_with fail
    go_returns
    have hf : withinT B p = false := decide_eq_false (by omega)
    exact ⟨by rw [hf]; rfl, Below.refl _ _⟩
theorem withinNil_calls (p : Int) (w : World) : Calls Try.prog 73 #[.pointer none, .int .i64 p] w fun e w' => e = .returned (.bool false) ∧ Below w.heap.size w w' := by
  go_enter Try.func73, Try.ntmps73
  go_wp2
  go_returns
  exact ⟨rfl, Below.refl _ _⟩
set_option maxHeartbeats 4000000 in
set_option maxRecDepth 100000 in
theorem find_calls (r B p : Nat) (l : List Sd) (w : World) (h : RowAt w r B l) (hB : B ≤ 32) (hl : ∀ s ∈ l, s.lv ≤ B) (hn : l.length ≤ 1000000) (hp : p < 4294967296) : Calls Try.prog 74 #[.pointer (some ⟨r, 0, none⟩), .int .i64 p] w fun e w' => e = .returned (.tuple #[.int .i64 (((findT B p l).getD 0 : Nat) : Int), .bool (findT B p l).isSome]) ∧ Below w.heap.size w w' := by
  obtain ⟨v, h1, h2⟩ := h
  obtain ⟨ao, c, rfl, hc⟩ := h2.slice
  have hc0 := h1.cell 0 _ rfl
  have hc1 := h1.cell 1 _ rfl
  have H1 := Lib.hid h1
  have H2 := Lib.hid h2
  clear h1 h2
  go_enter Try.func74, Try.ntmps74
  go_wp2_with fail
  go_loopw [13] (fun i wr => ∃ k, k ≤ l.length ∧ i = .int .i64 k ∧ Hid (Below w.heap.size w wr) ∧ Hid (∀ j s, j < k → l[j]? = some s → p / 2 ^ (B - s.lv) ≠ s.pl)) (fun i _ => l.length - (intOf i).toNat)
  case atStart => exact ⟨0, by omega, rfl, Below.refl _ _, by intro j s hj; omega⟩
  case round =>
    obtain ⟨k, hk, rfl, hB1, hno⟩ := hrel
    clear hc0 hc1
    have h1 := H1.out.below hB1.out H1.out.lt
    have h2 := H2.out.below hB1.out
    have hc0 := h1.cell 0 _ rfl
    have hc1 := h1.cell 1 _ rfl
    by_cases hlt : k < l.length
    · obtain ⟨g, rfl⟩ : ∃ g, ao = some ⟨g, 0, none⟩ := by
        rcases h2.2 with ⟨h3, h4⟩ | ⟨g, c', h3, h4, h5⟩
        · rw [h4] at hlt; simp at hlt
        · simp at h3; exact ⟨g, h3.1⟩
      obtain ⟨s, hs⟩ : ∃ s, l[k]? = some s := ⟨l[k], List.getElem?_eq_getElem hlt⟩
      have hs32 : s.h.length = 32 := h2.1 s (List.mem_of_getElem? hs)
      have hlv : s.lv ≤ B := hl s (List.mem_of_getElem? hs)
      have hrg := h2.range k s hs
      rw [Nat.mul_comm] at hrg
      have HS := Lib.hid hs32
      have HRG := Lib.hid hrg
      have HSM := Lib.hid hs
      have hN := Blk.new wr z34.toArray 135
      have hb2 := hB1.out.alloc hB1.out.size (.cells z34.toArray 135)
      clear hrg hs32 hs h2
      go_wp2_with (first | ((with_reducible show wpList _ _ _ (⟨some 17, _, _, _, _, _⟩ :: _) _ _); refine wpList_load_mid rfl 135 (.tmp 16) rfl g (k * 34) (by rfl) s.cells _ HRG.out Try.underlying135 rfl (by rw [Sd.cells_len s HS.out]; exact Try.sizeSeed) ?_) | ((with_reducible show wpList _ _ _ (⟨none, Op.store _ (.tmp 7) _, _, _, _, _⟩ :: _) _ _); refine wpList_storeBlk rfl 135 (.tmp 7) (.tmp 17) rfl wr.heap.size s.cells.toArray (by rfl) (by rfl) _ _ hN (by rw [List.size_toArray, Sd.cells_len s HS.out]; exact Try.sizeSeed) (by rw [show s.cells.toArray.size = 34 from by rw [List.size_toArray]; exact Sd.cells_len s HS.out]; rfl) s.cells_all ?_; intro w3 hS3 g3; have hb3 : Below w.heap.size w w3 := below_new hb2 g3 (by have := hB1.out.size; omega) hb2.size))
      have hcl := hS3.cell 0 (.int .i64 s.lv) rfl
      have hcp := hS3.cell 1 (.int .i64 s.pl) rfl
      have hsz := hB1.out.size
      have hrlt := h1.lt
      have hw3 : w3.cell? ⟨r, 0, none⟩ = some (.int .i64 B) := ((h1.alloc (.cells z34.toArray 135)).grown g3 (by simp; omega)).cell 0 _ rfl
      have HB3 := Lib.hid hb3
      have hsh := shrN p B s.lv hlv hB
      generalize hq : p / 2 ^ (B - s.lv) = q at hsh
      have HQ := Lib.hid hq
      clear hN hb2 hb3 hS3 g3 hc0 hc1 h1 hq
      go_region
      all_goals
        by_cases hm : q = s.pl
        · have hf : Hid (findT B p l = some k) := findT_some hno.out HSM.out (HQ.out.trans hm)
          go_wp2_with fail
          go_returns
          rw [hf.out]
          exact ⟨rfl, below_drewN HB3.out 1⟩
        · have hne : ((q : Int) == (s.pl : Int)) = false := by simp; omega
          have hno2 : Hid (∀ j s, j < k + 1 → l[j]? = some s → p / 2 ^ (B - s.lv) ≠ s.pl) := by
            intro j t hj ht
            by_cases hjk : j = k
            · subst hjk
              rw [HSM.out] at ht
              obtain rfl : s = t := by simpa using ht
              rw [HQ.out]; exact hm
            · exact hno.out j t (by omega) ht
          go_wp2_with fail
          go_roundw
          case rel => exact ⟨k + 1, by omega, by go_num, below_drewN HB3.out 1, hno2⟩
          case measure => simp [intOf]; omega
    · have hke : k = l.length := by omega
      have hf : Hid (findT B p l = none) := findT_none (fun j s hj hs => hno.out j s (by omega) hs)
      go_wp2_with fail
      go_returns
      rw [hf.out]
      exact ⟨rfl, hB1.out⟩
set_option maxHeartbeats 4000000 in
set_option maxRecDepth 100000 in
def goneT (B : Nat) (p : Int) (l : List Sd) : Bool := !(withinT B p) || (findT B p.toNat l).isNone
theorem Gone_calls (r B : Nat) (p : Int) (l : List Sd) (w : World) (h : RowAt w r B l) (hB : B ≤ 32) (hl : ∀ s ∈ l, s.lv ≤ B) (hn : l.length ≤ 1000000) (hp1 : -9223372036854775808 ≤ p) (hp2 : p ≤ 9223372036854775807) : Calls Try.prog 72 #[.pointer (some ⟨r, 0, none⟩), .int .i64 p] w fun e w' => e = .returned (.bool (goneT B p l)) ∧ Below w.heap.size w w' := by
  have hpow : (2 ^ B : Nat) ≤ 4294967296 := Nat.pow_le_pow_right (n := 2) (by omega) hB
  have HR := Lib.hid h
  clear h
  by_cases hw : withinT B p = true
  · have hw2 : 0 ≤ p ∧ p < ((2 ^ B : Nat) : Int) := by simpa [withinT] using hw
    obtain ⟨q, rfl⟩ : ∃ q : Nat, p = q := ⟨p.toNat, by omega⟩
    have hq : q < 4294967296 := by omega
    go_enter Try.func72, Try.ntmps72
    go_wp2_with fail
    refine (within_calls r B l _ _ HR.out hB (by omega) (by omega)).mono ?_
    rintro e w1 ⟨rfl, b1⟩
    rw [hw]
    go_wp2_with fail
    refine (find_calls r B q l _ (HR.out.below b1) hB hl hn hq).mono ?_
    rintro e w2 ⟨rfl, b2⟩
    have hg : goneT B q l = !(findT B q l).isSome := by rw [goneT, hw]; cases h : findT B q l <;> simp [h]
    have HG := Lib.hid hg
    have hb := b1.trans (b2.mono b1.size)
    clear hg b1 b2
    generalize (findT B q l).isSome = x at HG ⊢
    go_wp2_with fail
    go_returns
    rw [HG.out]
    exact ⟨rfl, hb⟩
  · have hw2 : withinT B p = false := by simpa using hw
    have hg : Hid (goneT B p l = true) := by show _ = _; rw [goneT, hw2]; rfl
    go_enter Try.func72, Try.ntmps72
    go_wp2_with fail
    refine (within_calls r B l _ _ HR.out hB hp1 hp2).mono ?_
    rintro e w1 ⟨rfl, b1⟩
    rw [hw2]
    go_wp2_with fail
    go_returns
    rw [hg.out]
    exact ⟨rfl, b1⟩
theorem GoneNil_calls (p : Int) (w : World) : Calls Try.prog 72 #[.pointer none, .int .i64 p] w fun e w' => e = .returned (.bool true) ∧ Below w.heap.size w w' := by
  go_enter Try.func72, Try.ntmps72
  go_wp2_with fail
  refine (withinNil_calls p _).mono ?_
  rintro e w1 ⟨rfl, b1⟩
  go_wp2_with fail
  go_returns
  exact ⟨rfl, b1⟩
end Go.Proofs.Ytlomofcnknpciaa
