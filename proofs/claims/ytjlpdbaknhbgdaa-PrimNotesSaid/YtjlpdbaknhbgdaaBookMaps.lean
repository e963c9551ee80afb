/-
  The keys of the book's maps: digests, texts.
-/
import Derived.Test.YtjlpdbaknhbgdaaMaps
import Derived.Test.YtjlpdbaknhbgdaaChecked
import Derived.WideKeyArr2
set_option linter.unusedSimpArgs false
set_option linter.unusedVariables false
namespace Go.Proofs.Ytjlpdbaknhbgdaa
open Go.RowKit

theorem Try.arrHash : WideMaps.ArrKey Try.prog 26 5 32 := ⟨Try.underlying26, by kernel_rfl, by kernel_rfl, by kernel_rfl⟩
theorem Try.someTypes : ∃ m, Try.prog.types.size = m + 1 := ⟨Try.prog.types.size - 1, by
  have : 0 < Try.prog.types.size := of_decide_eq_true (by kernel_rfl)
  omega⟩
theorem mapM_bytes {P : Program} {e : TypeId} (he : P.underlying e = some (.int .u8)) {D : Nat} {cs : List Value} : ∀ L : List Nat, (∀ i ∈ L, ∃ c : UInt8, (cs.drop (i * 1)).take 1 = [bv c]) → ∃ ls, L.mapM (fun i => P.keyLits (D + 1) e ((cs.drop (i * 1)).take 1)) = some ls
  | [], _ => ⟨[], by simp⟩
  | i :: L, h => by
    obtain ⟨ls, hl⟩ := mapM_bytes he L (fun j hj => h j (List.mem_cons_of_mem _ hj))
    obtain ⟨c, hc⟩ := h i List.mem_cons_self
    have hw : (Lit.int .u8 (c.toNat : Int)).wf = true := by
      have := c.toNat_lt
      simp [Lit.wf, IntKind.min, IntKind.max, IntKind.bits, IntKind.signed]
      omega
    refine ⟨[.int .u8 (c.toNat : Int)] :: ls, ?_⟩
    rw [List.mapM_cons, hl, hc]
    simp [Program.keyLits, he, bv, hw]
theorem keyOf_arr {P : Program} {k e : TypeId} {n : Nat} (A : WideMaps.ArrKey P k e n) (he : P.underlying e = some (.int .u8)) (hsz : ∃ m, P.types.size = m + 1) (h : List UInt8) (hh : h.length = n) : ∃ kl, keyOf P k (.agg (h.map bv).toArray) = some kl := by
  have hkt := A.keyType hsz
  obtain ⟨m, hm⟩ := hsz
  obtain ⟨ls, hl⟩ := mapM_bytes (P := P) he (D := m) (cs := h.map bv) (List.range n) (fun i hi => by
    have hi : i < h.length := by rw [hh]; simpa using hi
    refine ⟨h[i], ?_⟩
    rw [Nat.mul_one, List.drop_eq_getElem_cons (by simpa using hi)]
    simp)
  refine ⟨.string (keyBytes (ls.flatten)), ?_⟩
  unfold keyOf
  simp only [A.hu]
  rw [if_pos (by simp [hkt, Value.formed, A.hu, A.size, hh]), hm]
  unfold Program.keyLits
  simp only [A.hu, Value.cells, List.toList_toArray]
  rw [if_pos (by rw [A.size]; simp [hh])]
  rw [A.one]
  simp only [hl]
  rfl
theorem agg_inj {a b : List UInt8} (h : Value.agg (a.map bv).toArray = Value.agg (b.map bv).toArray) : a = b := by
  have h1 : a.map bv = b.map bv := by simpa using h
  refine List.map_inj_right (f := bv) (fun x y hxy => ?_) |>.1 h1
  unfold bv at hxy
  simp at hxy
  exact UInt8.toNat_inj.1 (by omega)
abbrev hashOk (h : List UInt8) : Prop := h.length = 32
abbrev hashEnc (h : List UInt8) : Value := .agg (h.map bv).toArray
theorem Try.hashKey : MKey Try.prog 26 hashOk hashEnc :=
  ⟨Go.Maps.Keyed.of_law Try.arrHash.law, fun h hh => keyOf_arr Try.arrHash Try.underlying5 Try.someTypes h hh, fun a b _ _ hab => agg_inj hab⟩
abbrev strOk (s : List UInt8) : Prop := s.length ≤ maxLen
abbrev strEnc (s : List UInt8) : Value := .string (str s)
theorem Try.strKey : MKey Try.prog 9 strOk strEnc :=
  ⟨Go.Maps.string_keyed Try.underlying9, fun s hs => ⟨_, WideMaps.keyOf_string_mk Try.underlying9 (by show (str s).size ≤ maxLen; simpa [str, ByteArray.size] using hs)⟩, fun a b _ _ hab => str_inj.1 (by simpa using hab)⟩
section
variable {P : Program} {k : TypeId} {ok : List UInt8 → Prop} {enc : List UInt8 → Value} {w : World} {ops : Array Oper} {rest : List Oper} {o : Oper} {a : Act} {K : Act → World → Prop} {Q : Exit → Act → World → Prop}
theorem wp_look (mk : MKey P k ok enc) (m x : Operand) (t e : TypeId) (ho : o.op = .lookup t m x false) (ht : P.underlying t = some (.map k e)) (z : Value) (hz : (zeroValue e).run P w = .ok z w) (b n : Nat) (look : List UInt8 → Option Value)
    (hm : a.eval m = .map (some b)) (h : MapIs ok enc w b n look) (y : List UInt8) (hy : ok y) (hx : a.eval x = enc y) (hK : K (a.put o.dst ((look y).getD z)) w) : o.wp P a w K Q := by
  have hr := h.look mk ht hz y hy false
  unfold Oper.wp
  simp [execOp, ho, hm, hx, hr, Result.andThen]
  exact hK
theorem wpList_look (hg : o.guard = none) (mk : MKey P k ok enc) (m x : Operand) (t e : TypeId) (ho : o.op = .lookup t m x false) (ht : P.underlying t = some (.map k e)) (z : Value) (hz : (zeroValue e).run P w = .ok z w) (b n : Nat) (look : List UInt8 → Option Value)
    (hm : a.eval m = .map (some b)) (h : MapIs ok enc w b n look) (y : List UInt8) (hy : ok y) (hx : a.eval x = enc y) (hK : wpList P ops Q rest (a.put o.dst ((look y).getD z)) w) : wpList P ops Q (o :: rest) a w :=
  wpList_plain hg fun _ hk => wp_look mk m x t e ho ht z hz b n look hm h y hy hx (hk _ _ hK)
theorem wp_upd (mk : MKey P k ok enc) (m x v : Operand) (t e : TypeId) (ho : o.op = .mapUpdate t m x v) (ht : P.underlying t = some (.map k e)) (b n : Nat) (look : List UInt8 → Option Value)
    (hm : a.eval m = .map (some b)) (h : MapIs ok enc w b n look) (y : List UInt8) (hy : ok y) (hx : a.eval x = enc y) (u : Value) (hv : a.eval v = u)
    (hK : ∀ w', MapIs ok enc w' b (n + 1) (fun z => if z = y then some u else look z) → w.grownBy w' (some b) → K (a.put o.dst undef) w') : o.wp P a w K Q := by
  obtain ⟨w', hr, h1, h2⟩ := h.store mk ht y hy u
  unfold Oper.wp
  simp [execOp, ho, hm, hx, hv, hr, Result.andThen]
  exact hK w' h1 h2
theorem wpList_upd (hg : o.guard = none) (mk : MKey P k ok enc) (m x v : Operand) (t e : TypeId) (ho : o.op = .mapUpdate t m x v) (ht : P.underlying t = some (.map k e)) (b n : Nat) (look : List UInt8 → Option Value)
    (hm : a.eval m = .map (some b)) (h : MapIs ok enc w b n look) (y : List UInt8) (hy : ok y) (hx : a.eval x = enc y) (u : Value) (hv : a.eval v = u)
    (hK : ∀ w', MapIs ok enc w' b (n + 1) (fun z => if z = y then some u else look z) → w.grownBy w' (some b) → wpList P ops Q rest (a.put o.dst undef) w') : wpList P ops Q (o :: rest) a w :=
  wpList_plain hg fun _ hk => wp_upd mk m x v t e ho ht b n look hm h y hy hx u hv fun w' h1 h2 => hk _ _ (hK w' h1 h2)
theorem wp_mapEntry (mk : MKey P k ok enc) (m x : Operand) (t e : TypeId) (ho : o.op = .mapEntry t m x) (ht : P.underlying t = some (.map k e)) (z : Value) (hz : (zeroValue e).run P w = .ok z w) (b n : Nat) (look : List UInt8 → Option Value)
    (hm : a.eval m = .map (some b)) (h : MapIs ok enc w b n look) (y : List UInt8) (hy : ok y) (hx : a.eval x = enc y)
    (hK : ∀ w' s, MapIs ok enc w' b (n + 1) (fun q => if q = y then some ((look y).getD z) else look q) → StampAt enc w' b s y → w.grownBy w' (some b) → K (a.put o.dst (.tuple #[(look y).getD z, .int .i64 (s : Nat)])) w') : o.wp P a w K Q := by
  obtain ⟨w', s, hr, h1, h2, h3⟩ := h.entry mk ht hz y hy
  unfold Oper.wp
  simp [execOp, ho, hm, hx, hr, Result.andThen]
  exact hK w' s h1 h2 h3
theorem wp_entryStore (mk : MKey P k ok enc) (m st v : Operand) (t : TypeId) (ho : o.op = .entryStore t m st v) (b n s : Nat) (look : List UInt8 → Option Value)
    (hm : a.eval m = .map (some b)) (h : MapIs ok enc w b n look) (y : List UInt8) (hy : ok y) (hs : StampAt enc w b s y) (hst : a.eval st = .int .i64 (s : Nat)) (u : Value) (hv : a.eval v = u)
    (hK : ∀ w', MapIs ok enc w' b n (fun q => if q = y then some u else look q) → w.grownBy w' (some b) → K (a.put o.dst undef) w') : o.wp P a w K Q := by
  obtain ⟨w', hr, h1, h2⟩ := h.entryStore mk t y hy hs u
  unfold Oper.wp
  simp [execOp, ho, hm, hst, hv, hr, Result.andThen]
  exact hK w' h1 h2
end
/-- A range over a map under way: 'done' has come. -/
def RangeIs (ok : List UInt8 → Prop) (enc : List UInt8 → Value) (w : World) (b r n : Nat) (look : List UInt8 → Option Value) (done : List (List UInt8)) : Prop :=
  ∃ es clock since seen c0, w.heap[b]? = some (.map es clock) ∧ es.size ≤ n ∧ MapKept.Stamped es clock ∧ EntsAre ok enc es look ∧ w.heap[r]? = some (.mapIter (some b) since seen c0) ∧ (∀ x ∈ es.toList, x.born < since) ∧ since ≤ c0 ∧ since ≤ clock ∧
    (∀ x ∈ es.toList, ∀ h, ok h → x.key = enc h → (seen.contains x.born = true ↔ h ∈ done)) ∧ done.Nodup ∧ ∀ h ∈ done, ok h ∧ (look h).isSome = true
section
variable {P : Program} {k : TypeId} {ok : List UInt8 → Prop} {enc : List UInt8 → Value} {w : World}
theorem MapIs.range {b n : Nat} {look : List UInt8 → Option Value} (h : MapIs ok enc w b n look) {t e : TypeId} (ht : P.underlying t = some (.map k e)) :
    ∃ w', (Instr.range t (.map (some b))).run P w = .ok (.pointer (some ⟨w.heap.size, 0, none⟩)) w' ∧ RangeIs ok enc w' b w.heap.size n look [] ∧ Below w.heap.size w w' := by
  have hlt := h.lt
  obtain ⟨es, clock, hb, hn, hS, hE⟩ := h
  refine ⟨_, run_range_map w t k e b es clock ht hb, ⟨es, clock, clock, #[], clock, ((MapKept.heap_alloc w _).2 b hlt).trans hb, hn, hS, hE, (MapKept.heap_alloc w _).1, hS.1, Nat.le_refl _, Nat.le_refl _, fun x _ h _ _ => by simp, List.nodup_nil, fun h hh => by cases hh⟩, (Below.refl _ _).alloc (Nat.le_refl _) _⟩
theorem RangeIs.ne {b r n : Nat} {look : List UInt8 → Option Value} {done : List (List UInt8)} (h : RangeIs ok enc w b r n look done) : r ≠ b := by
  obtain ⟨es, clock, since, seen, c0, hb, _, _, _, hr, _⟩ := h
  intro e
  rw [e, hb] at hr
  cases hr
theorem RangeIs.lt {b r n : Nat} {look : List UInt8 → Option Value} {done : List (List UInt8)} (h : RangeIs ok enc w b r n look done) : r < w.heap.size ∧ b < w.heap.size := by
  obtain ⟨es, clock, since, seen, c0, hb, _, _, _, hr, _⟩ := h
  exact ⟨(Array.getElem?_eq_some_iff.1 hr).1, (Array.getElem?_eq_some_iff.1 hb).1⟩
theorem RangeIs.below {w' : World} {b r n : Nat} {look : List UInt8 → Option Value} {done : List (List UInt8)} (h : RangeIs ok enc w b r n look done) (bl : Below w.heap.size w w') : RangeIs ok enc w' b r n look done := by
  have hl := h.lt
  obtain ⟨es, clock, since, seen, c0, hb, h1, h2, h3, hr, h4⟩ := h
  exact ⟨es, clock, since, seen, c0, (bl.block b hl.2).trans hb, h1, h2, h3, (bl.block r hl.1).trans hr, h4⟩
theorem RangeIs.kept {w' : World} {b r n : Nat} {look : List UInt8 → Option Value} {done : List (List UInt8)} {row : Option Nat} (h : RangeIs ok enc w b r n look done) (gr : w.grownBy w' row) (h1 : some b ≠ row) (h2 : some r ≠ row) : RangeIs ok enc w' b r n look done := by
  have hl := h.lt
  obtain ⟨es, clock, since, seen, c0, hb, g1, g2, g3, hr, g4⟩ := h
  exact ⟨es, clock, since, seen, c0, (gr.block b hl.2 h1).trans hb, g1, g2, g3, (gr.block r hl.1 h2).trans hr, g4⟩
/-- The step of the range. -/
theorem RangeIs.next (mk : MKey P k ok enc) {b r n : Nat} {look : List UInt8 → Option Value} {done : List (List UInt8)} (h : RangeIs ok enc w b r n look done) (ty : TypeId) :
    ((∀ x, ok x → (look x).isSome = true → x ∈ done) ∧ (Instr.next (.pointer (some ⟨r, 0, none⟩)) false ty).run P w = .ok (.tuple #[.bool false]) w) ∨
    ∃ x v w', ok x ∧ look x = some v ∧ x ∉ done ∧ (Instr.next (.pointer (some ⟨r, 0, none⟩)) false ty).run P w = .ok (.tuple #[.bool true, enc x, v]) w' ∧ RangeIs ok enc w' b r n look (done ++ [x]) ∧ w.grownBy w' (some r) ∧
      (Instr.entry (.pointer (some ⟨r, 0, none⟩))).run P w' = .ok (.tuple #[enc x, v]) w' := by
  have hne := h.ne
  obtain ⟨es, clock, since, seen, c0, hb, hn, hS, hE, hr, hold, hsc, hsk, hse, hnd, hdn⟩ := h
  rcases run_next_at (P := P) w ty r b since c0 seen es clock hr hb hold hsc with ⟨h0, hrun⟩ | ⟨e, he, w1, hal, hrun⟩
  · refine .inl ⟨fun x hx hl => ?_, hrun⟩
    obtain ⟨v, hv⟩ := Option.isSome_iff_exists.1 hl
    obtain ⟨e, he, e1, _⟩ := hE.2 x v hx hv
    exact (hse e he x hx e1).1 (all_seen es seen h0 e he)
  · obtain ⟨hem, hes⟩ := mem_left he
    obtain ⟨x, hx, e1, e2⟩ := hE.1 e hem
    have hr1 : w1.heap[r]? = some (.mapIter (some b) since seen c0) := by rcases hal with rfl | rfl <;> exact hr
    have hb1 : w1.heap[b]? = some (.map es clock) := by rcases hal with rfl | rfl <;> exact hb
    have hset := MapKept.heap_set (o' := .mapIter (some b) since (seen.push e.born) clock) hr1
    have hb' : (Go.ChangeMaps.setBlock w1 r (.mapIter (some b) since (seen.push e.born) clock)).heap[b]? = some (.map es clock) := (hset.2 b (fun e1 => hne e1.symm)).trans hb1
    have hxd : x ∉ done := fun hd => by
      have := (hse e hem x hx e1).2 hd
      rw [hes] at this
      cases this
    refine .inr ⟨x, e.val, _, hx, e2, hxd, by rw [← e1]; exact hrun, ⟨es, clock, since, seen.push e.born, clock, hb', hn, hS, hE, hset.1, hold, hsk, hsk, fun y hy h hh hk => ?_, ?_, fun h hh => ?_⟩, ?_, ?_⟩
    · rw [contains_push, Bool.or_eq_true, hse y hy h hh hk, List.mem_append, List.mem_singleton]
      constructor
      · rintro (h1 | h1)
        · exact .inl h1
        · have h2 : y.born = e.born := by simpa using h1
          have h3 := born_inj hS.2.1 hy hem h2
          subst h3
          exact .inr (mk.inj h x hh hx (hk.symm.trans e1))
      · rintro (h1 | rfl)
        · exact .inl h1
        · have hst := ((MapKept.stamped_iff es clock).1 hS).2.2
          have h3 := entry_eq_of_key hst hy hem (hk.trans e1.symm)
          subst h3
          exact .inr (by simp)
    · rw [List.nodup_append]
      refine ⟨hnd, by simp, fun p hp q hq => ?_⟩
      rw [List.mem_singleton.1 hq]
      intro e3
      exact hxd (by rw [← e3]; exact hp)
    · rcases List.mem_append.1 hh with hh | hh
      · exact hdn h hh
      · rw [List.mem_singleton.1 hh]; exact ⟨hx, by rw [e2]; rfl⟩
    · rcases hal with rfl | rfl <;> exact ⟨rfl, rfl, rfl, by simp [Go.ChangeMaps.setBlock], fun i _ hi => hset.2 i (fun e1 => hi (by rw [e1]))⟩
    · rw [← e1]
      exact run_entry_at _ r b since seen es clock e hset.1 hb' hem hS.2.1
end
section
variable {P : Program} {k : TypeId} {ok : List UInt8 → Prop} {enc : List UInt8 → Value} {w : World} {ops : Array Oper} {rest : List Oper} {o : Oper} {a : Act} {Q : Exit → Act → World → Prop}
theorem wpList_rangeM (hg : o.guard = none) (m : Operand) (t e : TypeId) (ho : o.op = .range t m) (ht : P.underlying t = some (.map k e)) (b n : Nat) (look : List UInt8 → Option Value) (hm : a.eval m = .map (some b)) (h : MapIs ok enc w b n look)
    (hK : ∀ w', RangeIs ok enc w' b w.heap.size n look [] → Below w.heap.size w w' → wpList P ops Q rest (a.put o.dst (.pointer (some ⟨w.heap.size, 0, none⟩))) w') : wpList P ops Q (o :: rest) a w := by
  refine wpList_plain hg fun K' hK' => ?_
  obtain ⟨w', hrun, r1, r2⟩ := h.range ht
  unfold Oper.wp
  simp [execOp, ho, hm, hrun, Result.andThen]
  exact hK' _ _ (hK w' r1 r2)
theorem wpList_nextM (hg : o.guard = none) (mk : MKey P k ok enc) (it : Operand) (ho : o.op = .next it false) (b r n : Nat) (look : List UInt8 → Option Value) (done : List (List UInt8)) (hit : a.eval it = .pointer (some ⟨r, 0, none⟩)) (h : RangeIs ok enc w b r n look done)
    (h0 : (∀ x, ok x → (look x).isSome = true → x ∈ done) → wpList P ops Q rest (a.put o.dst (.tuple #[.bool false])) w)
    (h1 : ∀ x v w', ok x → look x = some v → x ∉ done → RangeIs ok enc w' b r n look (done ++ [x]) → w.grownBy w' (some r) → (Instr.entry (.pointer (some ⟨r, 0, none⟩))).run P w' = .ok (.tuple #[enc x, v]) w' → wpList P ops Q rest (a.put o.dst (.tuple #[.bool true, enc x, v])) w') : wpList P ops Q (o :: rest) a w := by
  refine wpList_plain hg fun K' hK' => ?_
  unfold Oper.wp
  rcases h.next mk o.type with ⟨hd, hrun⟩ | ⟨x, v, w', hx, hv, hxd, hrun, hrg, hgr, hen⟩
  · simp [execOp, ho, hit, hrun, Result.andThen]
    exact hK' _ _ (h0 hd)
  · simp [execOp, ho, hit, hrun, Result.andThen]
    exact hK' _ _ (h1 x v w' hx hv hxd hrg hgr hen)
end
end Go.Proofs.Ytjlpdbaknhbgdaa
