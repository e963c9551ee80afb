/-
  sha.Cmp: the order of digests; lists that rise, each once.
-/
import Derived.Test.YtjlpdbaknhbgdaaChecked
import Derived.Test.YtjlpdbaknhbgdaaKit0
import Derived.Sort.Grow
import Derived.WalkLawsBesides
import Derived.Outline
import Derived.Handy
set_option linter.unusedSimpArgs false
set_option linter.unusedVariables false
namespace Go.Proofs.Ytjlpdbaknhbgdaa
open Go.RowKit

/-- Which comes first. -/
def cmpT : List UInt8 → List UInt8 → Int
  | x :: a, y :: b => if x.toNat < y.toNat then -1 else if y.toNat < x.toNat then 1 else cmpT a b
  | _, _ => 0
def ltT (a b : List UInt8) : Bool := decide (cmpT a b < 0)
theorem cmpT_swap : ∀ a b : List UInt8, cmpT b a = - cmpT a b
  | [], [] => rfl
  | [], y :: b => by cases b <;> rfl
  | x :: a, [] => rfl
  | x :: a, y :: b => by
    rw [cmpT, cmpT]
    by_cases h1 : x.toNat < y.toNat
    · rw [if_neg (by omega), if_pos h1, if_pos h1]; rfl
    · by_cases h2 : y.toNat < x.toNat
      · rw [if_pos h2, if_neg h1, if_pos h2]
      · rw [if_neg h2, if_neg h1, if_neg h1, if_neg h2]; exact cmpT_swap a b
theorem cmpT_self : ∀ a : List UInt8, cmpT a a = 0
  | [] => rfl
  | x :: a => by rw [cmpT, if_neg (by omega), if_neg (by omega)]; exact cmpT_self a
theorem cmpT_eq : ∀ a b : List UInt8, a.length = b.length → cmpT a b = 0 → a = b
  | [], [], _, _ => rfl
  | [], y :: b, h, _ => by simp at h
  | x :: a, [], h, _ => by simp at h
  | x :: a, y :: b, h, h0 => by
    rw [cmpT] at h0
    split at h0
    · cases h0
    · split at h0
      · cases h0
      · rw [cmpT_eq a b (by simpa using h) h0, UInt8.toNat_inj.1 (by omega : x.toNat = y.toNat)]
theorem cmpT_range : ∀ a b : List UInt8, cmpT a b = -1 ∨ cmpT a b = 0 ∨ cmpT a b = 1
  | [], [] => .inr (.inl rfl)
  | [], y :: b => .inr (.inl rfl)
  | x :: a, [] => .inr (.inl rfl)
  | x :: a, y :: b => by
    rw [cmpT]
    split
    · exact .inl rfl
    · split
      · exact .inr (.inr rfl)
      · exact cmpT_range a b
theorem cmpT_trans : ∀ a b c : List UInt8, a.length = b.length → b.length = c.length → cmpT a b < 0 → cmpT b c < 0 → cmpT a c < 0
  | [], b, c, _, _, h, _ => by cases b <;> simp [cmpT] at h
  | x :: a, [], c, h, _, _, _ => by simp at h
  | x :: a, y :: b, [], _, h, _, _ => by simp at h
  | x :: a, y :: b, z :: c, hl, hm, h1, h2 => by
    rw [cmpT] at h1 h2 ⊢
    split at h1
    · split at h2
      · rw [if_pos (by omega)]; decide
      · split at h2
        · cases h2
        · rw [if_pos (by omega)]; decide
    · split at h1
      · cases h1
      · split at h2
        · rw [if_pos (by omega)]; decide
        · split at h2
          · cases h2
          · rw [if_neg (by omega), if_neg (by omega)]
            exact cmpT_trans a b c (by simpa using hl) (by simpa using hm) h1 h2
theorem cmpT_drop : ∀ (i : Nat) (a b : List UInt8), a.length = b.length → a.take i = b.take i → cmpT a b = cmpT (a.drop i) (b.drop i)
  | 0, a, b, _, _ => rfl
  | i + 1, [], [], _, _ => rfl
  | i + 1, [], y :: b, h, _ => by simp at h
  | i + 1, x :: a, [], h, _ => by simp at h
  | i + 1, x :: a, y :: b, h, h2 => by
    simp only [List.take_succ_cons, List.cons.injEq] at h2
    rw [cmpT, h2.1, if_neg (by omega), if_neg (by omega), List.drop_succ_cons, List.drop_succ_cons]
    exact cmpT_drop i a b (by simpa using h) h2.2
/-- The comparison, decided at place i. -/
theorem cmpT_at {a b : List UInt8} {i : Nat} (hl : a.length = b.length) (ht : a.take i = b.take i) (hi : i < a.length) (x y : UInt8) (hx : a[i]? = some x) (hy : b[i]? = some y) :
    cmpT a b = if x.toNat < y.toNat then -1 else if y.toNat < x.toNat then 1 else cmpT (a.drop (i + 1)) (b.drop (i + 1)) := by
  obtain ⟨h1, h2⟩ := List.getElem?_eq_some_iff.1 hx
  obtain ⟨h3, h4⟩ := List.getElem?_eq_some_iff.1 hy
  rw [cmpT_drop i a b hl ht, List.drop_eq_getElem_cons h1, List.drop_eq_getElem_cons h3, h2, h4, cmpT]
/-- A list that rises, each once. -/
def Rises (l : List (List UInt8)) : Prop := l.Pairwise fun a b => cmpT a b < 0
theorem rises_ext : ∀ {l m : List (List UInt8)}, Rises l → Rises m → (∀ x ∈ l, x.length = 32) → (∀ x ∈ m, x.length = 32) → (∀ x, x ∈ l ↔ x ∈ m) → l = m
  | [], [], _, _, _, _, _ => rfl
  | [], y :: m, _, _, _, _, h => by have := (h y).2 List.mem_cons_self; cases this
  | x :: l, [], _, _, _, _, h => by have := (h x).1 List.mem_cons_self; cases this
  | x :: l, y :: m, h1, h2, h3, h4, h => by
    obtain ⟨a1, a2⟩ := List.pairwise_cons.1 h1
    obtain ⟨b1, b2⟩ := List.pairwise_cons.1 h2
    have hxy : x = y := by
      rcases List.mem_cons.1 ((h x).1 List.mem_cons_self) with e | e
      · exact e
      · rcases List.mem_cons.1 ((h y).2 List.mem_cons_self) with e2 | e2
        · exact e2.symm
        · have c1 := b1 x e
          have c2 := a1 y e2
          rw [cmpT_swap] at c1
          omega
    subst hxy
    congr 1
    refine rises_ext a2 b2 (fun z hz => h3 z (List.mem_cons_of_mem _ hz)) (fun z hz => h4 z (List.mem_cons_of_mem _ hz)) fun z => ⟨fun hz => ?_, fun hz => ?_⟩
    · rcases List.mem_cons.1 ((h z).1 (List.mem_cons_of_mem _ hz)) with e | e
      · have := a1 z hz
        rw [e, cmpT_self] at this
        omega
      · exact e
    · rcases List.mem_cons.1 ((h z).2 (List.mem_cons_of_mem _ hz)) with e | e
      · have := b1 z hz
        rw [e, cmpT_self] at this
        omega
      · exact e
theorem Rises.nodup {l : List (List UInt8)} (h : Rises l) : l.Nodup := h.imp fun {a b} hab e => by rw [e, cmpT_self] at hab; omega
theorem blk_newAt {w : World} {cs : Array Value} {t : TypeId} {g : Nat} (h : g = w.heap.size) : Blk (w.alloc (.cells cs t)) g cs t := by subst h; exact Blk.new _ _ _
theorem drewN_add (w : World) (a b : Nat) : (w.drewN a).drewN b = w.drewN (a + b) := by
  unfold World.drewN
  simp [Nat.add_assoc]
set_option maxHeartbeats 4000000 in
set_option maxRecDepth 100000 in
/-- **sha.Cmp**: the world exact. -/
theorem Cmp_calls (a b : List UInt8) (ha : a.length = 32) (hb : b.length = 32) (w : World) :
    Calls Try.prog 38 #[.agg (a.map bv).toArray, .agg (b.map bv).toArray] w fun e w' => e = .returned (.int .i64 (cmpT a b)) ∧ ∃ q os, w' = Sort.grow (w.drewN q) os := by
  obtain ⟨W, hW⟩ : ∃ W, W = (w.alloc (.cells (a.map bv).toArray 26)).alloc (.cells (b.map bv).toArray 26) := ⟨_, rfl⟩
  have hA : Blk W w.heap.size (a.map bv).toArray 26 := by rw [hW]; exact (Blk.new _ _ _).alloc _
  have hB : Blk W (w.heap.size + 1) (b.map bv).toArray 26 := by rw [hW]; exact blk_newAt (by simp)
  have HG : Hid (∀ q, ∃ q' os, W.drewN q = Sort.grow (w.drewN q') os) := fun q => ⟨q, #[.cells (a.map bv).toArray 26, .cells (b.map bv).toArray 26], by rw [hW, Sort.alloc_eq_grow, Sort.alloc_eq_grow, Sort.grow_grow]; rfl⟩
  have HA := Lib.hid ha
  have HB := Lib.hid hb
  have HBA := Lib.hid hA
  have HBB := Lib.hid hB
  obtain ⟨D, hD⟩ : ∃ D, D = cmpT a b := ⟨_, rfl⟩
  have HD := Lib.hid hD
  rw [← hD]
  clear hD hA hB ha hb
  go_enter Try.func38, Try.ntmps38
  go_wp2_with fail
  rw [← hW]
  clear hW
  go_loopw [6] (fun i wr => ∃ (k q : Nat), k ≤ 32 ∧ i = .int .i64 (k : Nat) ∧ wr = W.drewN q ∧ Hid (a.take k = b.take k)) (fun i _ => 32 - (intOf i).toNat)
  case atStart => exact ⟨0, 0, by omega, rfl, rfl, Lib.hid rfl⟩
  case round =>
    obtain ⟨k, q, hk, rfl, rfl, HT⟩ := hrel
    by_cases hlt : k < 32
    · obtain ⟨x, hx⟩ : ∃ x, a[k]? = some x := ⟨a[k]'(by rw [HA.out]; exact hlt), List.getElem?_eq_getElem _⟩
      obtain ⟨y, hy⟩ : ∃ y, b[k]? = some y := ⟨b[k]'(by rw [HB.out]; exact hlt), List.getElem?_eq_getElem _⟩
      have hcx : W.cell? ⟨w.heap.size, k, none⟩ = some (.int .u8 (x.toNat : Int)) := HBA.out.cell k _ (by rw [List.getElem?_toArray, List.getElem?_map, hx]; rfl)
      have hcy : W.cell? ⟨w.heap.size + 1, k, none⟩ = some (.int .u8 (y.toNat : Int)) := HBB.out.cell k _ (by rw [List.getElem?_toArray, List.getElem?_map, hy]; rfl)
      have hat := cmpT_at (by rw [HA.out, HB.out]) HT.out (by rw [HA.out]; exact hlt) x y hx hy
      rw [← HD.out] at hat
      have HAT := Lib.hid hat
      have HX := Lib.hid hx
      have HY := Lib.hid hy
      clear hat hx hy
      by_cases h1 : x.toNat < y.toNat
      · have hD : D = -1 := by rw [HAT.out, if_pos h1]
        clear HAT
        go_wp2_with fail
        go_big_quiet (fail)
        go_wp2_with fail
        go_returns
        rw [drewN_add]
        exact ⟨by rw [hD]; rfl, HG.out _⟩
      · have h1c : decide ((x.toNat : Int) < (y.toNat : Int)) = false := by simp; omega
        by_cases h2 : y.toNat < x.toNat
        · have hD : D = 1 := by rw [HAT.out, if_neg h1, if_pos h2]
          clear HAT
          go_wp2_with fail
          go_big_quiet (fail)
          go_wp2_with fail
          go_big_quiet (fail)
          go_wp2_with fail
          go_returns
          rw [drewN_add, drewN_add]
          exact ⟨by rw [hD]; rfl, HG.out _⟩
        · have h2c : decide ((y.toNat : Int) < (x.toNat : Int)) = false := by simp; omega
          have HT2 : Hid (a.take (k + 1) = b.take (k + 1)) := by
            show _ = _
            obtain ⟨g1, g2⟩ := List.getElem?_eq_some_iff.1 HX.out
            obtain ⟨g3, g4⟩ := List.getElem?_eq_some_iff.1 HY.out
            rw [List.take_succ_eq_append_getElem g1, List.take_succ_eq_append_getElem g3, HT.out, g2, g4, UInt8.toNat_inj.1 (by omega : x.toNat = y.toNat)]
          clear HAT HT
          go_wp2_with fail
          go_big_quiet (fail)
          go_wp2_with fail
          go_big_quiet (fail)
          go_wp2_with fail
          go_roundw
          case rel => exact ⟨k + 1, _, by omega, by go_num, by first | rfl | rw [drewN_add, drewN_add], HT2⟩
          case measure => simp [intOf]; omega
    · have hD : D = 0 := by
        have hk2 : k = 32 := by omega
        subst hk2
        have e := HT.out
        rw [List.take_of_length_le (by rw [HA.out]; exact Nat.le_refl _), List.take_of_length_le (by rw [HB.out]; exact Nat.le_refl _)] at e
        rw [HD.out, e, cmpT_self]
      go_wp2_with fail
      go_returns
      exact ⟨by rw [hD]; rfl, HG.out _⟩
theorem wpQuiet_convBlkC {P : Program} {ops : Array Oper} {C : World → Prop} {Q : Act → Prop} {a : Act} {o : Oper} {rest : List Oper} (hw : Region.wanted o (yielded ops a.tmps) = true) (src dst e : TypeId) (x : Operand) (ho : o.op = .convert src dst x)
    (hs : P.underlying src = some (.slice e)) (he : P.underlying e = some (.int .u8)) (hd : P.underlying dst = some .string)
    (g n c : Nat) (l : List UInt8) (hn : l.length = n) (hx : a.eval x = .slice (some ⟨g, 0, none⟩) n c) (t : TypeId) (hS : ∀ w, C w → ∃ cs, Blk w g cs t ∧ cs.toList.take l.length = l.map bv)
    (h : wpQuiet P ops C Q rest (a.put o.dst (.string (str l)))) : wpQuiet P ops C Q (o :: rest) a :=
  wpQuiet_step fun K hK => by
    subst hn
    rw [if_pos hw]
    refine ⟨_, fun w hw' => ?_, hK _ h⟩
    obtain ⟨cs, hg, hl⟩ := hS w hw'
    have hr := run_convert_bytes_back (P := P) w src dst e ⟨g, 0, none⟩ c l hs he hd (fun j hj => by
      rw [Addr.add_lit, Nat.zero_add]
      refine hg.cell j _ ?_
      have h2 : (cs.toList.take l.length)[j]? = (l.map bv)[j]? := by rw [hl]
      rw [List.getElem?_take_of_lt hj] at h2
      simpa [bv, hj] using h2)
    unfold Oper.quietAt
    simp [execOp, ho, hx, hr, Result.andThen]
    exact ⟨rfl, rfl⟩

theorem bytesLess_eq : ∀ a b : List UInt8, a.length = b.length → Op.bytesLess a b = ltT a b
  | [], [], _ => rfl
  | [], y :: b, h => by simp at h
  | x :: a, [], h => by simp at h
  | x :: a, y :: b, h => by
    have ih := bytesLess_eq a b (by simpa using h)
    unfold ltT at ih ⊢
    rw [Op.bytesLess, cmpT, ih]
    by_cases h1 : x.toNat < y.toNat
    · have h3 : x < y := UInt8.lt_iff_toNat_lt.2 h1
      simp [h1, h3]
    · have h3 : ¬ x < y := fun e => h1 (UInt8.lt_iff_toNat_lt.1 e)
      by_cases h2 : y.toNat < x.toNat
      · have h4 : x ≠ y := fun e => by subst e; omega
        simp [h1, h2, h3, h4]
      · have h4 : x = y := UInt8.toNat_inj.1 (by omega)
        subst h4
        simp
set_option maxHeartbeats 4000000 in
set_option maxRecDepth 100000 in
/-- The document's order. -/
theorem Less_calls (a b : List UInt8) (ha : a.length = 32) (hb : b.length = 32) (w : World) :
    Calls Try.prog 53 #[.agg (a.map bv).toArray, .agg (b.map bv).toArray] w fun e w' => e = .returned (.bool (ltT a b)) ∧ Below w.heap.size w w' := by
  have hA : Blk ((w.alloc (.cells (a.map bv).toArray 25)).alloc (.cells (b.map bv).toArray 25)) w.heap.size (a.map bv).toArray 25 := (Blk.new _ _ _).alloc _
  have hB : Blk ((w.alloc (.cells (a.map bv).toArray 25)).alloc (.cells (b.map bv).toArray 25)) (w.heap.size + 1) (b.map bv).toArray 25 := blk_newAt (by simp)
  have hb0 : Below w.heap.size w ((w.alloc (.cells (a.map bv).toArray 25)).alloc (.cells (b.map bv).toArray 25)) := (below_alloc1 _ _).alloc (by simp) _
  obtain ⟨W, hW⟩ : ∃ W, W = (w.alloc (.cells (a.map bv).toArray 25)).alloc (.cells (b.map bv).toArray 25) := ⟨_, rfl⟩
  rw [← hW] at hA hB hb0
  have HA := Lib.hid ha
  have HB := Lib.hid hb
  have HD : Hid (∀ x y : Bool, True) := fun _ _ => trivial
  clear ha hb
  go_enter Try.func53, Try.ntmps53
  go_wp2_with fail
  rw [← hW]
  clear hW
  refine wp_region_quiet_lit (by kernel_rfl) (by kernel_rfl) ?_
  repeat (first | ((with_reducible show wpQuiet _ _ _ _ (⟨some 6, _, _, _, _, _⟩ :: _) _); refine wpQuiet_convBlkC (by rfl) 45 9 5 (.tmp 5) rfl Try.underlying45 Try.underlying5 Try.underlying9 w.heap.size 32 32 a HA.out (by rfl) _ (fun x hx => by obtain ⟨n, rfl⟩ := hx; exact ⟨_, hA.drewN n, by rw [List.take_of_length_le (by simp)]⟩) ?_; simp only [Act.put, List.setIfInBounds_toArray, List.set_cons_succ, List.set_cons_zero]) | ((with_reducible show wpQuiet _ _ _ _ (⟨some 8, _, _, _, _, _⟩ :: _) _); refine wpQuiet_convBlkC (by rfl) 45 9 5 (.tmp 7) rfl Try.underlying45 Try.underlying5 Try.underlying9 (w.heap.size + 1) 32 32 b HB.out (by rfl) _ (fun x hx => by obtain ⟨n, rfl⟩ := hx; exact ⟨_, hB.drewN n, by rw [List.take_of_length_le (by simp)]⟩) ?_; simp only [Act.put, List.setIfInBounds_toArray, List.set_cons_succ, List.set_cons_zero]) | go_big_quiet_step (fail))
  refine wpQuiet_nil ?_
  intro _ hw'
  obtain ⟨nq, hw''⟩ := hw'
  subst hw''
  go_wp2_with fail
  go_returns
  refine ⟨?_, below_drewN hb0 _⟩
  show Ending.returned (.bool (Op.bytesLess a b)) = _
  rw [bytesLess_eq a b (by rw [HA.out, HB.out])]
end Go.Proofs.Ytjlpdbaknhbgdaa
