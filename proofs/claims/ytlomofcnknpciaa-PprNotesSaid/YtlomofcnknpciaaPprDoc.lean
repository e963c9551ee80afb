/-
  The document's rows: Gone, whole: what they say of the places that were taken.
  The document's rows: below, Seeds: the seeds that a row has.
-/
import Derived.Test.YtlomofcnknpciaaPprRef
import Derived.Test.YtlomofcnknpciaaPprLaw
set_option linter.unusedSimpArgs false
set_option linter.unusedVariables false
namespace Go.Proofs.Ytlomofcnknpciaa
open Go.RowKit

/-- Places that were taken, as they lie in memory. -/
def IntsA (w : World) (v : Value) (tk : List Nat) : Prop := (v = .slice none 0 0 ∧ tk = []) ∨ ∃ g o c, v = .slice (some ⟨g, o, none⟩) tk.length c ∧ g < w.heap.size ∧ ∀ (j x : Nat), tk[j]? = some x → w.cell? ⟨g, o + j, none⟩ = some (.int .i64 (x : Int))
theorem IntsA.below {w w' : World} {v : Value} {tk : List Nat} (h : IntsA w v tk) (b : Below w.heap.size w w') : IntsA w' v tk := by
  rcases h with h0 | ⟨g, o, c, rfl, hlt, hcell⟩
  · exact .inl h0
  · exact .inr ⟨g, o, c, rfl, Nat.lt_of_lt_of_le hlt b.size, fun j x hj => (b.cell (p := ⟨g, o + j, none⟩) hlt).trans (hcell j x hj)⟩
theorem IntsA.slice {w : World} {v : Value} {tk : List Nat} (h : IntsA w v tk) : ∃ ao c, v = .slice ao tk.length c := by
  rcases h with ⟨rfl, rfl⟩ | ⟨g, o, c, rfl, _⟩
  · exact ⟨_, _, rfl⟩
  · exact ⟨_, _, rfl⟩
theorem IntsA.cell {w : World} {ao : Option Addr} {n c : Nat} {tk : List Nat} (h : IntsA w (.slice ao n c) tk) (k x : Nat) (hx : tk[k]? = some x) : ∃ g o, ao = some ⟨g, o, none⟩ ∧ w.cell? ⟨g, o + k, none⟩ = some (.int .i64 (x : Int)) := by
  rcases h with ⟨h0, rfl⟩ | ⟨g, o, c', he, hlt, hcell⟩
  · simp at hx
  · simp only [Value.slice.injEq] at he
    exact ⟨g, o, he.1, hcell k x hx⟩
def takenT (tk : List Nat) (p : Int) : Bool := tk.any fun t => (t : Int) == p
set_option maxHeartbeats 4000000 in
set_option maxRecDepth 100000 in
theorem RGone_calls (root : List UInt8) (B : Nat) (v : Value) (tk : List Nat) (p : Int) (w : World) (hh : root.length = 32) (hI : IntsA w v tk) (hn : tk.length ≤ 1000000) : Calls Try.prog 48 #[.agg (rcells root B v).toArray, .int .i64 p] w fun e w' => e = .returned (.bool (takenT tk p)) ∧ Below w.heap.size w w' := by
  have hb0 : Below w.heap.size w (w.alloc (.cells (rcells root B v).toArray 33)) := below_alloc1 _ _
  have hA0 : Blk (w.alloc (.cells (rcells root B v).toArray 33)) w.heap.size (rcells root B v).toArray 33 := Blk.new _ _ _
  have hI0 := hI.below hb0
  obtain ⟨ao, c, rfl⟩ := hI.slice
  have hcb := hA0.cell 33 _ (rcells_taken root B _ hh)
  have HI := Lib.hid hI0
  clear hI hI0 hA0
  go_enter Try.func48, Try.ntmps48
  go_wp2_with fail
  generalize w.alloc (.cells (rcells root B (.slice ao tk.length c)).toArray 33) = W0 at hb0 hcb HI ⊢
  go_loopw [5] (fun i wr => ∃ (k : Nat), k ≤ tk.length ∧ i = .int .i64 k ∧ Hid (∀ j x, j < k → tk[j]? = some x → (x : Int) ≠ p) ∧ wr = W0) (fun i _ => tk.length - (intOf i).toNat)
  case atStart => exact ⟨0, by omega, rfl, (fun j x hj => by omega), rfl⟩
  case round =>
    obtain ⟨k, hk, rfl, hno, rfl⟩ := hrel
    by_cases hlt : k < tk.length
    · obtain ⟨x, hx⟩ : ∃ x, tk[k]? = some x := ⟨tk[k], List.getElem?_eq_getElem hlt⟩
      obtain ⟨g, o, rfl, hce⟩ := HI.out.cell k x hx
      have HX := Lib.hid hx
      clear hx
      by_cases he : (x : Int) = p
      · have hf : Hid (takenT tk p = true) := by
          show _ = _
          rw [takenT, List.any_eq_true]
          exact ⟨x, List.mem_of_getElem? HX.out, by simp [he]⟩
        subst he
        go_wp2_with fail
        go_returns
        rw [hf.out]
        exact ⟨rfl, hb0⟩
      · have hnx : Hid (∀ j y, j < k + 1 → tk[j]? = some y → (y : Int) ≠ p) := fun j y hj hy => by
          by_cases h : j < k
          · exact hno.out j y h hy
          · have : j = k := by omega
            subst this
            rw [HX.out] at hy
            cases hy
            exact he
        go_wp2_with fail
        go_roundw
        case rel => exact ⟨k + 1, by omega, by go_num, hnx, trivial⟩
        case measure => simp [intOf]; omega
    · have hf : Hid (takenT tk p = false) := by
        show _ = _
        rw [takenT, List.any_eq_false]
        intro x hx
        obtain ⟨j, hj, rfl⟩ := List.getElem_of_mem hx
        simpa using hno.out j _ (by omega) (List.getElem?_eq_getElem hj)
      clear hno
      go_wp2_with fail
      go_returns
      rw [hf.out]
      exact ⟨rfl, hb0⟩
set_option maxHeartbeats 4000000 in
set_option maxRecDepth 100000 in
theorem RWhole_calls (root : List UInt8) (B : Nat) (v : Value) (tk : List Nat) (lv pl : Nat) (w : World) (hh : root.length = 32) (hB : B ≤ 32) (hlv : lv ≤ B) (hI : IntsA w v tk) (hn : tk.length ≤ 1000000) (ht : ∀ x ∈ tk, x < 4294967296) : Calls Try.prog 78 #[.agg (rcells root B v).toArray, .int .i64 lv, .int .i64 pl] w fun e w' => e = .returned (.bool (wholeT B tk lv pl)) ∧ Below w.heap.size w w' := by
  have hb0 : Below w.heap.size w (w.alloc (.cells (rcells root B v).toArray 33)) := below_alloc1 _ _
  have hA0 : Blk (w.alloc (.cells (rcells root B v).toArray 33)) w.heap.size (rcells root B v).toArray 33 := Blk.new _ _ _
  have hI0 := hI.below hb0
  obtain ⟨ao, c, rfl⟩ := hI.slice
  have hcb := hA0.cell 32 _ (rcells_bits root B _ hh)
  have HI := Lib.hid hI0
  obtain ⟨P, hP⟩ : ∃ P, P = 2 ^ (B - lv) := ⟨_, rfl⟩
  have c1 : ∀ z, Calls Try.prog 77 #[.int .i64 ((B : Int) - (lv : Int))] z fun e w' => e = .returned (.int .i64 (P : Nat)) ∧ Below z.heap.size z w' := by
    rw [hP, show ((B : Int) - (lv : Int)) = ((B - lv : Nat) : Int) by omega]; exact fun z => power_calls (B - lv) z (by omega)
  have hP1 : 1 ≤ P := by rw [hP]; exact Nat.one_le_two_pow
  have hP2 : P ≤ 4294967296 := by rw [hP]; exact Nat.pow_le_pow_right (n := 2) (by omega) (show B - lv ≤ 32 by omega)
  have HP := Lib.hid hP
  have HH := Lib.hid hh
  clear hI hI0 hP hh
  go_enter Try.func78, Try.ntmps78
  go_wp2_with fail
  generalize w.alloc (.cells (rcells root B (.slice ao tk.length c)).toArray 33) = W0 at hb0 hcb HI hA0 ⊢
  refine (c1 _).mono ?_
  rintro e w1 ⟨rfl, b1⟩
  have HI1 := Lib.hid (HI.out.below b1)
  have hb1 := hb0.trans (b1.mono hb0.size)
  have hA1 := hA0.below b1 hA0.lt
  have hc1 := hA1.cell 33 _ (rcells_taken root B _ HH.out)
  clear HI hb0 hA0 b1 c1 hcb hA1
  go_wp2_with fail
  go_loopw [8] (fun i wr => ∃ (k : Nat), k ≤ tk.length ∧ i = .int .i64 k ∧ Hid (∀ j x, j < k → tk[j]? = some x → x / P ≠ pl) ∧ wr = w1) (fun i _ => tk.length - (intOf i).toNat)
  case atStart => exact ⟨0, by omega, rfl, (fun j x hj => by omega), rfl⟩
  case round =>
    obtain ⟨k, hk, rfl, hno, rfl⟩ := hrel
    by_cases hlt : k < tk.length
    · obtain ⟨x, hx⟩ : ∃ x, tk[k]? = some x := ⟨tk[k], List.getElem?_eq_getElem hlt⟩
      obtain ⟨g, o, rfl, hce⟩ := HI1.out.cell k x hx
      have hxb := ht x (List.mem_of_getElem? hx)
      have HX := Lib.hid hx
      obtain ⟨q, hq⟩ : ∃ q, q = x / P := ⟨_, rfl⟩
      have hqz : (x : Int) / (P : Int) = (q : Int) := by rw [hq]; simp
      have hqb : q ≤ x := by rw [hq]; exact Nat.div_le_self _ _
      have HQ := Lib.hid hq
      clear hx hq
      by_cases he : q = pl
      · have hf : Hid (wholeT B tk lv pl = false) := by
          show _ = _
          rw [wholeT, List.all_eq_false]
          exact ⟨x, List.mem_of_getElem? HX.out, by rw [← HP.out, ← HQ.out]; simp [he]⟩
        subst he
        go_wp2_with fail
        go_returns
        rw [hf.out]
        exact ⟨rfl, hb1⟩
      · have hnx : Hid (∀ j y, j < k + 1 → tk[j]? = some y → y / P ≠ pl) := fun j y hj hy => by
          by_cases h : j < k
          · exact hno.out j y h hy
          · have : j = k := by omega
            subst this
            rw [HX.out] at hy
            cases hy
            rw [← HQ.out]; exact he
        have he2 : ¬ (q : Int) = (pl : Int) := by omega
        go_wp2_with fail
        go_roundw
        case rel => exact ⟨k + 1, by omega, by go_num, hnx, trivial⟩
        case measure => simp [intOf]; omega
    · have hf : Hid (wholeT B tk lv pl = true) := by
        show _ = _
        rw [wholeT, List.all_eq_true]
        intro x hx
        obtain ⟨j, hj, rfl⟩ := List.getElem_of_mem hx
        rw [← HP.out]
        simpa using hno.out j _ (by omega) (List.getElem?_eq_getElem hj)
      clear hno
      go_wp2_with fail
      go_returns
      rw [hf.out]
      exact ⟨rfl, hb1⟩
end Go.Proofs.Ytlomofcnknpciaa
set_option linter.unusedSimpArgs false
set_option linter.unusedVariables false
namespace Go.Proofs.Ytlomofcnknpciaa
open Go.RowKit

theorem Try.zeroSd6 : (Try.prog.info? 47).bind (·.zero) = some (.agg z34.toArray) := by kernel_rfl
theorem Try.infoSd6 : (Try.prog.info? 47).map (fun i => (i.zero, i.size, i.bytes)) = some (some (.agg z34.toArray), 34, 48) := by kernel_rfl
theorem Try.zsSd6 : (Try.prog.info? 47).map (fun i => (i.zero, i.size)) = some (some (.agg z34.toArray), 34) := by kernel_rfl
theorem Try.builtSd6 (n m : Nat) (h : List UInt8) (hh : h.length = 32) : Try.prog.built 47 [(0, .int .i64 n), (1, .int .i64 m), (2, .agg (h.map bv).toArray)] = some (Sd.cells ⟨n, m, h⟩).toArray := by
  rw [built_struct Try.zeroSd6 Try.underlying47 (places := [(0, 1), (1, 1), (2, 32)]) (by kernel_rfl), Value.cells]
  refine (fill_midV (A := []) (B := [.int .i64 0]) (C := .int .i64 0 :: (List.replicate 32 (0 : UInt8)).map bv) (v := [.int .i64 n]) rfl rfl (by rfl) rfl).trans ?_
  refine (fill_midV (A := [.int .i64 n]) (B := [.int .i64 0]) (C := (List.replicate 32 (0 : UInt8)).map bv) (v := [.int .i64 m]) rfl rfl (by rfl) rfl).trans ?_
  refine (fill_midV (A := [.int .i64 n, .int .i64 m]) (B := (List.replicate 32 (0 : UInt8)).map bv) (C := []) (v := h.map bv) rfl (by simp) (by rw [List.length_map, hh]; rfl) (by simp [hh])).trans ?_
  simp [Instr.fill, Sd.cells]
theorem SeedsAt.ownD {w : World} {e : TypeId} {base n : Nat} {v : Value} {l : List Sd} (h : w.ownsRow base e 34 v n (l.flatMap Sd.cells)) (hl : ∀ s ∈ l, s.h.length = 32) (hn : n = l.length) : SeedsAt w v l := by
  subst hn
  refine ⟨hl, ?_⟩
  rcases h.2 with ⟨h0, h1⟩ | ⟨g, cap, cur, rfl, hb, hg, h1, h2, h3, h4⟩
  · exact .inl ⟨h0, List.eq_nil_of_length_eq_zero h1⟩
  · refine .inr ⟨g, cap, rfl, h1, lt_of_block hg, fun j u hj => ?_⟩
    have hlt : j < l.length * 34 := by
      have := (List.getElem?_eq_some_iff.1 hj).1
      rw [h.1] at this; exact this
    have e : (cur.toList.take (l.length * 34))[j]? = some u := by rw [h4]; exact hj
    rw [List.getElem?_take_of_lt hlt] at e
    have : cur[j]? = some u := by simpa using e
    simp [World.cell?, hg, this]
/-- One seed in a new block. -/
theorem SeedsAt.one (w : World) (s : Sd) (e : TypeId) (hs : s.h.length = 32) : SeedsAt (w.alloc (.cells s.cells.toArray e)) (.slice (some ⟨w.heap.size, 0, none⟩) 1 1) [s] := by
  refine ⟨by simpa using hs, .inr ⟨w.heap.size, 1, rfl, by simp, by simp, fun j u hj => ?_⟩⟩
  refine (Blk.new w s.cells.toArray e).cell j u ?_
  rw [List.getElem?_toArray]
  simpa using hj
/-- append of seeds that lie anywhere to a row of one's own (the document's). -/
theorem wp_append_docs {o : Oper} {a : Act} {w : World} {K : Act → World → Prop} {Q : Exit → Act → World → Prop} (s x : Operand)
    (ho : o.op = .call { callee := .builtin .append, args := #[s, x], argTypes := #[37, 37] }) (base : Nat) (v vr : Value) (n : Nat) (L R : List Sd) (hs : a.eval s = v) (hx : a.eval x = vr)
    (hown : w.ownsRow base 47 34 v n (L.flatMap Sd.cells)) (hR : SeedsAt w vr R) (hL : ∀ s ∈ L, s.h.length = 32) (hn : n = L.length) (hb1 : L.length ≤ 1000000) (hb2 : R.length ≤ 1000000) (hbase : base ≤ w.heap.size)
    (h : ∀ v' w', w'.ownsRow base 47 34 v' (L.length + R.length) ((L ++ R).flatMap Sd.cells) → w.grownBy w' v.ownBlock → K (a.put o.dst v') w') : o.wp Try.prog a w K Q := by
  obtain ⟨i, hi, hz, hsz, hby⟩ := info_parts Try.infoSd6
  subst hn
  rcases hR.2 with ⟨rfl, rfl⟩ | ⟨g, c, rfl, hc, hlt, hcell⟩
  · have hrun := run_append_owned_none (P := Try.prog) (w := w) base 37 o.type 47 i 34 Try.underlying37 hi v _ _ hown
    unfold Oper.wp
    simp [execOp, ho, resolve, invoke, builtin, hs, hx, hrun, Result.andThen]
    rw [List.append_nil] at h
    exact h _ _ hown (World.grownBy.refl _ _)
  · refine wp_append_own w s x 37 ho base 47 i (.agg z34.toArray) 34 48 Try.underlying37 hi hz hsz hby rfl (by decide) v _ _ hs hown ⟨g, 0, none⟩ R.length c (R.flatMap Sd.cells) hx (seeds_cells_len R hR.1) (fun j u hj => by rw [Addr.add_lit, Nat.zero_add]; exact hcell j u hj) (seeds_cells_one R) (by unfold maxLen; omega) (by omega) hbase fun v' w' h2 h3 _ => ?_
    rw [← List.flatMap_append] at h2
    exact h v' w' h2 h3
theorem wpList_append_docs {ops : Array Oper} {rest : List Oper} {o : Oper} {a : Act} {w : World} {Q : Exit → Act → World → Prop} (hg : o.guard = none) (s x : Operand)
    (ho : o.op = .call { callee := .builtin .append, args := #[s, x], argTypes := #[37, 37] }) (base : Nat) (v vr : Value) (n : Nat) (L R : List Sd) (hs : a.eval s = v) (hx : a.eval x = vr)
    (hown : w.ownsRow base 47 34 v n (L.flatMap Sd.cells)) (hR : SeedsAt w vr R) (hL : ∀ s ∈ L, s.h.length = 32) (hn : n = L.length) (hb1 : L.length ≤ 1000000) (hb2 : R.length ≤ 1000000) (hbase : base ≤ w.heap.size)
    (h : ∀ v' w', w'.ownsRow base 47 34 v' (L.length + R.length) ((L ++ R).flatMap Sd.cells) → w.grownBy w' v.ownBlock → wpList Try.prog ops Q rest (a.put o.dst v') w') : wpList Try.prog ops Q (o :: rest) a w :=
  wpList_plain hg fun _ hK => wp_append_docs s x ho base v vr n L R hs hx hown hR hL hn hb1 hb2 hbase fun v' w' h1 h2 => hK _ _ (h v' w' h1 h2)
theorem below_h32 {root : List UInt8} {B : Nat} {tk : List Nat} (h : root.length = 32) (f lv pl : Nat) (hf : lv + f = B) : ∀ s ∈ belowT root B tk f lv pl, s.h.length = 32 := fun s hs => by
  obtain ⟨_, _, _, h4, _⟩ := below_mem root B tk f lv pl s hf hs
  rw [h4]; exact atD_len _ _ _ h
set_option maxHeartbeats 4000000 in
set_option maxRecDepth 100000 in
theorem below_whole_calls (root : List UInt8) (B : Nat) (v : Value) (tk : List Nat) (hh : root.length = 32) (hB : B ≤ 32) (hn : tk.length ≤ 1000000) (ht : ∀ x ∈ tk, x < 4294967296) (lv pl : Nat) (hlv : lv ≤ B) (hpl : pl < 4294967296) (hw : wholeT B tk lv pl = true) (w : World) (hI : IntsA w v tk) :
    Calls Try.prog 76 #[.agg (rcells root B v).toArray, .int .i64 lv, .int .i64 pl] w fun e w' => ∃ s, e = .returned s ∧ SeedsAt w' s [sdAt root lv pl] ∧ Below w.heap.size w w' := by
  have hb0 : Below w.heap.size w (w.alloc (.cells (rcells root B v).toArray 33)) := below_alloc1 _ _
  have hA0 : Blk (w.alloc (.cells (rcells root B v).toArray 33)) w.heap.size (rcells root B v).toArray 33 := Blk.new _ _ _
  have HI := Lib.hid (hI.below hb0)
  have HH := Lib.hid hh
  clear hI
  have c1 : ∀ z, IntsA z v tk → Calls Try.prog 78 #[.agg (rcells root B v).toArray, .int .i64 lv, .int .i64 pl] z fun e w' => e = .returned (.bool true) ∧ Below z.heap.size z w' := fun z hz => by
    have := RWhole_calls root B v tk lv pl z hh hB hlv hz hn ht
    rw [hw] at this
    exact this
  obtain ⟨x, hx⟩ : ∃ x, x = atD pl lv root := ⟨_, rfl⟩
  have HX : Hid (x.length = 32) := by show _ = _; rw [hx]; exact atD_len _ _ _ hh
  have c2 : ∀ z, Calls Try.prog 79 #[.agg (rcells root B v).toArray, .int .i64 lv, .int .i64 pl] z fun e w' => e = .returned (.agg (x.map bv).toArray) ∧ Below z.heap.size z w' := by rw [hx]; exact fun z => at_calls root B v lv pl z hh (by omega) (by omega)
  have hbu := Try.builtSd6 lv pl x HX.out
  have HBU := Lib.hid hbu
  have hsd : sdAt root lv pl = ⟨lv, pl, x⟩ := by rw [hx]; rfl
  rw [hsd]
  clear hx hbu hw hh hsd ht
  go_enter Try.func76, Try.ntmps76
  go_wp2_with ((with_reducible show wpList _ _ _ (⟨some 8, _, _, _, _, _⟩ :: _) _ _); refine wpList_load_mid rfl 33 (.tmp 3) rfl (w.heap.size) 0 (by rfl) (rcells root B v) _ (blk_rangeP hA0) Try.underlying33 rfl (by rw [rcells_len _ _ _ HH.out]; exact Try.sizeR6) ?_)
  generalize w.alloc (.cells (rcells root B v).toArray 33) = W0 at hb0 HI hA0 ⊢
  have ltq3 : w.heap.size < W0.heap.size := hA0.lt
  refine (c1 _ HI.out).mono ?_
  rintro e wq1 ⟨rfl, bq2⟩
  have hCq4 := hA0.below bq2 hA0.lt
  have hCq5 := Lib.hid (HI.out.below bq2)
  have hBq6 := hb0.trans (bq2.mono hb0.size)
  clear hA0 HI hb0
  clear bq2
  go_wp2_with ((with_reducible show wpList _ _ _ (⟨some 14, _, _, _, _, _⟩ :: _) _ _); refine wpList_load_mid rfl 33 (.tmp 3) rfl (w.heap.size) 0 (by rfl) (rcells root B v) _ (blk_rangeP hCq4) Try.underlying33 rfl (by rw [rcells_len _ _ _ HH.out]; exact Try.sizeR6) ?_)
  have ltq9 : w.heap.size < wq1.heap.size := hCq4.lt
  refine (c2 _).mono ?_
  rintro e wq7 ⟨rfl, bq8⟩
  have hCq10 := hCq4.below bq8 hCq4.lt
  have hCq11 := Lib.hid (hCq5.out.below bq8)
  have hBq12 := hBq6.trans (bq8.mono hBq6.size)
  clear hCq4 hCq5 hBq6
  clear bq8
  go_wp2_with (first | ((with_reducible show wpList _ _ _ (⟨some 18, _, _, _, _, _⟩ :: _) _ _); refine wpList_buildCells rfl 47 #[(0, .tmp 12), (1, .tmp 13), (2, .tmp 17)] rfl ((Sd.cells ⟨lv, pl, x⟩).toArray) HBU.out ?_) | ((with_reducible show wpList _ _ _ (⟨some 19, _, _, _, _, _⟩ :: _) _ _); refine wpList_bsOne rfl 37 47 (.tmp 18) rfl (Sd.cells ⟨lv, pl, x⟩).toArray (by rfl) Try.underlying37 _ 34 Try.zsSd6 (by rw [List.size_toArray]; exact Sd.cells_len _ HX.out) (by omega) (by omega) ?_))
  go_returns
  exact ⟨_, rfl, SeedsAt.one _ _ _ HX.out, hBq12.alloc hBq12.size _⟩
set_option maxHeartbeats 4000000 in
set_option maxRecDepth 100000 in
theorem below_last_calls (root : List UInt8) (B : Nat) (v : Value) (tk : List Nat) (hh : root.length = 32) (hB : B ≤ 32) (hn : tk.length ≤ 1000000) (ht : ∀ x ∈ tk, x < 4294967296) (pl : Nat) (hw : wholeT B tk B pl = false) (w : World) (hI : IntsA w v tk) :
    Calls Try.prog 76 #[.agg (rcells root B v).toArray, .int .i64 B, .int .i64 pl] w fun e w' => ∃ s, e = .returned s ∧ SeedsAt w' s [] ∧ Below w.heap.size w w' := by
  have hb0 : Below w.heap.size w (w.alloc (.cells (rcells root B v).toArray 33)) := below_alloc1 _ _
  have hA0 : Blk (w.alloc (.cells (rcells root B v).toArray 33)) w.heap.size (rcells root B v).toArray 33 := Blk.new _ _ _
  have HI := Lib.hid (hI.below hb0)
  have HH := Lib.hid hh
  clear hI
  obtain ⟨lv, hlvB⟩ : ∃ lv, lv = B := ⟨_, rfl⟩
  have hlv : lv ≤ B := by omega
  have hcb := hA0.cell 32 _ (rcells_bits root B _ hh)
  have c1 : ∀ z, IntsA z v tk → Calls Try.prog 78 #[.agg (rcells root B v).toArray, .int .i64 B, .int .i64 pl] z fun e w' => e = .returned (.bool false) ∧ Below z.heap.size z w' := fun z hz => by
    have := RWhole_calls root B v tk lv pl z hh hB hlv hz hn ht
    rw [hlvB, hw] at this
    exact this
  clear hw ht hlvB hlv
  go_enter Try.func76, Try.ntmps76
  go_wp2_with ((with_reducible show wpList _ _ _ (⟨some 8, _, _, _, _, _⟩ :: _) _ _); refine wpList_load_mid rfl 33 (.tmp 3) rfl (w.heap.size) 0 (by rfl) (rcells root B v) _ (blk_rangeP hA0) Try.underlying33 rfl (by rw [rcells_len _ _ _ HH.out]; exact Try.sizeR6) ?_)
  generalize w.alloc (.cells (rcells root B v).toArray 33) = W0 at hb0 HI hA0 hcb ⊢
  have ltq15 : w.heap.size < W0.heap.size := hA0.lt
  refine (c1 _ HI.out).mono ?_
  rintro e wq13 ⟨rfl, bq14⟩
  have hCq16 := hA0.below bq14 hA0.lt
  have hCq17 := Lib.hid (HI.out.below bq14)
  have hBq18 := hb0.trans (bq14.mono hb0.size)
  clear hA0 HI hb0
  clear bq14
  have hcz := hCq16.cell 32 _ (rcells_bits root B _ HH.out)
  go_wp2_with fail
  go_returns
  exact ⟨_, rfl, ⟨by simp, .inl ⟨rfl, rfl⟩⟩, hBq18⟩
set_option maxHeartbeats 4000000 in
set_option maxRecDepth 100000 in
theorem below_part_calls (root : List UInt8) (B : Nat) (v : Value) (tk : List Nat) (hh : root.length = 32) (hB : B ≤ 32) (hn : tk.length ≤ 1000000) (ht : ∀ x ∈ tk, x < 4294967296) (lv pl f : Nat) (hlv : lv + (f + 1) = B) (hpl : pl < 2 ^ lv) (hw : wholeT B tk lv pl = false) (w : World) (hI : IntsA w v tk) (hlen : (belowT root B tk f (lv + 1) (2 * pl)).length + (belowT root B tk f (lv + 1) (2 * pl + 1)).length ≤ 1000000)
    (ih : ∀ (pl' : Nat) (z : World), pl' < 2 ^ (lv + 1) → IntsA z v tk → (belowT root B tk f (lv + 1) pl').length ≤ 1000000 → Calls Try.prog 76 #[.agg (rcells root B v).toArray, .int .i64 ((lv + 1 : Nat) : Int), .int .i64 pl'] z fun e w' => ∃ s, e = .returned s ∧ SeedsAt w' s (belowT root B tk f (lv + 1) pl') ∧ Below z.heap.size z w') :
    Calls Try.prog 76 #[.agg (rcells root B v).toArray, .int .i64 lv, .int .i64 pl] w fun e w' => ∃ s, e = .returned s ∧ SeedsAt w' s (belowT root B tk f (lv + 1) (2 * pl) ++ belowT root B tk f (lv + 1) (2 * pl + 1)) ∧ Below w.heap.size w w' := by
  have hb0 : Below w.heap.size w (w.alloc (.cells (rcells root B v).toArray 33)) := below_alloc1 _ _
  have hA0 : Blk (w.alloc (.cells (rcells root B v).toArray 33)) w.heap.size (rcells root B v).toArray 33 := Blk.new _ _ _
  have HI := Lib.hid (hI.below hb0)
  have HH := Lib.hid hh
  clear hI
  have c1 : ∀ z, IntsA z v tk → Calls Try.prog 78 #[.agg (rcells root B v).toArray, .int .i64 lv, .int .i64 pl] z fun e w' => e = .returned (.bool false) ∧ Below z.heap.size z w' := fun z hz => by
    have := RWhole_calls root B v tk lv pl z hh hB (by omega) hz hn ht
    rw [hw] at this
    exact this
  have hpow : 2 ^ (lv + 1) = 2 * 2 ^ lv := by rw [Nat.pow_succ]; omega
  have hp32 : 2 ^ lv ≤ 2 ^ 32 := Nat.pow_le_pow_right (by omega) (by omega)
  have hlb : lv < B := by omega
  have hplb : pl < 4294967296 := by omega
  obtain ⟨X, hX⟩ : ∃ X, X = belowT root B tk f (lv + 1) (2 * pl) := ⟨_, rfl⟩
  obtain ⟨Y, hY⟩ : ∃ Y, Y = belowT root B tk f (lv + 1) (2 * pl + 1) := ⟨_, rfl⟩
  have HX3 : Hid (∀ s ∈ X, s.h.length = 32) := by rw [hX]; exact below_h32 hh f _ _ (by omega)
  have HY3 : Hid (∀ s ∈ Y, s.h.length = 32) := by rw [hY]; exact below_h32 hh f _ _ (by omega)
  rw [← hX, ← hY] at hlen ⊢
  have c2 : ∀ z, IntsA z v tk → Calls Try.prog 76 #[.agg (rcells root B v).toArray, .int .i64 ((lv : Int) + 1), .int .i64 (2 * (pl : Int))] z fun e w' => ∃ s, e = .returned s ∧ SeedsAt w' s X ∧ Below z.heap.size z w' := fun z hz => by
    rw [show ((lv : Int) + 1) = ((lv + 1 : Nat) : Int) by omega, show (2 * (pl : Int)) = ((2 * pl : Nat) : Int) by omega, hX]
    exact ih (2 * pl) z (by omega) hz (by rw [← hX]; omega)
  have c3 : ∀ z, IntsA z v tk → Calls Try.prog 76 #[.agg (rcells root B v).toArray, .int .i64 ((lv : Int) + 1), .int .i64 (2 * (pl : Int) + 1)] z fun e w' => ∃ s, e = .returned s ∧ SeedsAt w' s Y ∧ Below z.heap.size z w' := fun z hz => by
    rw [show ((lv : Int) + 1) = ((lv + 1 : Nat) : Int) by omega, show (2 * (pl : Int) + 1) = ((2 * pl + 1 : Nat) : Int) by omega, hY]
    exact ih (2 * pl + 1) z (by omega) hz (by rw [← hY]; omega)
  have hlX : X.length ≤ 1000000 := by omega
  have hlY : Y.length ≤ 1000000 := by omega
  clear hX hY ih hw hh ht hpow hp32 hpl hlv
  have hcb := hA0.cell 32 _ (rcells_bits root B _ HH.out)
  go_enter Try.func76, Try.ntmps76
  go_wp2_with ((with_reducible show wpList _ _ _ (⟨some 8, _, _, _, _, _⟩ :: _) _ _); refine wpList_load_mid rfl 33 (.tmp 3) rfl (w.heap.size) 0 (by rfl) (rcells root B v) _ (blk_rangeP hA0) Try.underlying33 rfl (by rw [rcells_len _ _ _ HH.out]; exact Try.sizeR6) ?_)
  generalize w.alloc (.cells (rcells root B v).toArray 33) = W0 at hb0 HI hA0 hcb ⊢
  have ltq21 : w.heap.size < W0.heap.size := hA0.lt
  refine (c1 _ HI.out).mono ?_
  rintro e wq19 ⟨rfl, bq20⟩
  have hCq22 := hA0.below bq20 hA0.lt
  have hCq23 := Lib.hid (HI.out.below bq20)
  have hBq24 := hb0.trans (bq20.mono hb0.size)
  clear hA0 HI hb0
  clear bq20
  have hcz := hCq22.cell 32 _ (rcells_bits root B _ HH.out)
  go_wp2_with ((with_reducible show wpList _ _ _ (⟨some 25, _, _, _, _, _⟩ :: _) _ _); refine wpList_load_mid rfl 33 (.tmp 3) rfl (w.heap.size) 0 (by rfl) (rcells root B v) _ (blk_rangeP hCq22) Try.underlying33 rfl (by rw [rcells_len _ _ _ HH.out]; exact Try.sizeR6) ?_)
  have ltq27 : w.heap.size < wq19.heap.size := hCq22.lt
  refine (c2 _ hCq23.out).mono ?_
  rintro e wq25 ⟨s1, rfl, hs1, bq26⟩
  have hCq28 := hCq22.below bq26 hCq22.lt
  have hCq29 := Lib.hid (hCq23.out.below bq26)
  have hBq30 := hBq24.trans (bq26.mono hBq24.size)
  clear hCq22 hCq23 hBq24
  clear bq26
  have hHq31 := Lib.hid hs1
  clear hs1
  have hsz1 := hBq30.size
  go_wp2_with ((with_reducible show wpList _ _ _ (⟨some 31, _, _, _, _, _⟩ :: _) _ _); refine wpList_append_docs rfl (.tmp 24) (.tmp 30) rfl w.heap.size _ _ 0 [] X (by rfl) (by rfl) (World.ownsRow_nil _ _ _ _) hHq31.out (by simp) rfl (by simp) hlX hsz1 ?_)
  intro v1 w5 hO1 g1
  have b5 : Below wq25.heap.size wq25 w5 := below_grown0 g1
  have hCq32 := hCq28.below b5 hCq28.lt
  have hCq33 := Lib.hid (hCq29.out.below b5)
  have hCq34 := Lib.hid (hHq31.out.below b5)
  have hBq35 := hBq30.trans (b5.mono hBq30.size)
  clear hCq28 hCq29 hHq31 hBq30
  have HO := Lib.hid hO1
  obtain ⟨ao1, c1, rfl⟩ := own_slice hO1
  clear hO1 g1 b5
  clear hCq34 hcz
  go_wp2_with ((with_reducible show wpList _ _ _ (⟨some 33, _, _, _, _, _⟩ :: _) _ _); refine wpList_load_mid rfl 33 (.tmp 3) rfl (w.heap.size) 0 (by rfl) (rcells root B v) _ (blk_rangeP hCq32) Try.underlying33 rfl (by rw [rcells_len _ _ _ HH.out]; exact Try.sizeR6) ?_)
  have ltq38 : w.heap.size < w5.heap.size := hCq32.lt
  refine (c3 _ hCq33.out).mono ?_
  rintro e wq36 ⟨s2, rfl, hs2, bq37⟩
  have hOq42 := Lib.hid (own_below HO.out bq37)
  have hCq39 := hCq32.below bq37 hCq32.lt
  have hCq40 := Lib.hid (hCq33.out.below bq37)
  have hBq41 := hBq35.trans (bq37.mono hBq35.size)
  clear hCq32 hCq33 hBq35
  clear HO
  clear bq37
  have hHq43 := Lib.hid hs2
  clear hs2
  have hsz2 := hBq41.size
  go_wp2_with ((with_reducible show wpList _ _ _ (⟨some 40, _, _, _, _, _⟩ :: _) _ _); refine wpList_append_docs rfl (.tmp 32) (.tmp 39) rfl w.heap.size _ _ _ X Y (by rfl) (by rfl) hOq42.out hHq43.out HX3.out (by simp) hlX hlY hsz2 ?_)
  intro v2 w9 hO2 g2
  have b9 := hBq41.grown g2 hBq41.size (fun q e => (hOq42.out.lt q e).1)
  have HO9 : Hid (w9.ownsRow w.heap.size 47 34 v2 (X.length + Y.length) ((X ++ Y).flatMap Sd.cells)) := by first | exact hO2 | (rw [List.flatMap_append]; exact hO2)
  clear hO2 g2
  go_wp2_with fail
  go_returns
  exact ⟨_, rfl, SeedsAt.ownD HO9.out (fun s hs => (List.mem_append.1 hs).elim (HX3.out s) (HY3.out s)) (by rw [List.length_append]), b9⟩
theorem below_calls (root : List UInt8) (B : Nat) (v : Value) (tk : List Nat) (hh : root.length = 32) (hB : B ≤ 32) (hn : tk.length ≤ 1000000) (ht : ∀ x ∈ tk, x < 4294967296) : ∀ (f lv pl : Nat) (w : World), lv + f = B → pl < 2 ^ lv → IntsA w v tk → (belowT root B tk f lv pl).length ≤ 1000000 →
    Calls Try.prog 76 #[.agg (rcells root B v).toArray, .int .i64 lv, .int .i64 pl] w fun e w' => ∃ s, e = .returned s ∧ SeedsAt w' s (belowT root B tk f lv pl) ∧ Below w.heap.size w w'
  | f, lv, pl, w, hf, hpl, hI, hlen => by
    have hp32 : 2 ^ lv ≤ 2 ^ 32 := Nat.pow_le_pow_right (by omega) (by omega)
    by_cases hw : wholeT B tk lv pl = true
    · rw [below_whole root B tk f lv pl hw]
      exact below_whole_calls root B v tk hh hB hn ht lv pl (by omega) (by omega) hw w hI
    · have hw' : wholeT B tk lv pl = false := by simpa using hw
      match f with
      | 0 =>
        obtain rfl : lv = B := by omega
        rw [belowT, if_neg hw]
        exact below_last_calls root lv v tk hh hB hn ht pl hw' w hI
      | f + 1 =>
        rw [below_part root B tk f lv pl hw'] at hlen ⊢
        exact below_part_calls root B v tk hh hB hn ht lv pl f hf hpl hw' w hI (by simpa using hlen) (fun pl' z hp' hz hl' => below_calls root B v tk hh hB hn ht f (lv + 1) pl' z (by omega) hp' hz hl')
set_option maxHeartbeats 4000000 in
set_option maxRecDepth 100000 in
theorem RSeeds_calls (root : List UInt8) (B : Nat) (v : Value) (tk : List Nat) (hh : root.length = 32) (hB : B ≤ 32) (hn : tk.length ≤ 1000000) (ht : ∀ x ∈ tk, x < 4294967296) (w : World) (hI : IntsA w v tk) (hlen : (rowT root B tk).length ≤ 1000000) :
    Calls Try.prog 20 #[.agg (rcells root B v).toArray] w fun e w' => ∃ s, e = .returned s ∧ SeedsAt w' s (rowT root B tk) ∧ Below w.heap.size w w' := by
  have hb0 : Below w.heap.size w (w.alloc (.cells (rcells root B v).toArray 33)) := below_alloc1 _ _
  have hA0 : Blk (w.alloc (.cells (rcells root B v).toArray 33)) w.heap.size (rcells root B v).toArray 33 := Blk.new _ _ _
  have HI := Lib.hid (hI.below hb0)
  have HH := Lib.hid hh
  clear hI
  have c1 : ∀ z, IntsA z v tk → Calls Try.prog 76 #[.agg (rcells root B v).toArray, .int .i64 0, .int .i64 0] z fun e w' => ∃ s, e = .returned s ∧ SeedsAt w' s (rowT root B tk) ∧ Below z.heap.size z w' := fun z hz => below_calls root B v tk hh hB hn ht B 0 0 z (by omega) (by omega) hz hlen
  go_enter Try.func20, Try.ntmps20
  go_wp2_with ((with_reducible show wpList _ _ _ (⟨some 3, _, _, _, _, _⟩ :: _) _ _); refine wpList_load_mid rfl 33 (.tmp 1) rfl w.heap.size 0 (by rfl) (rcells root B v) _ (blk_rangeP hA0) Try.underlying33 rfl (by rw [rcells_len _ _ _ HH.out]; exact Try.sizeR6) ?_)
  generalize w.alloc (.cells (rcells root B v).toArray 33) = W0 at hb0 HI hA0 ⊢
  refine (c1 _ HI.out).mono ?_
  rintro e w1 ⟨s, rfl, hs, b1⟩
  have hb1 := hb0.trans (b1.mono hb0.size)
  have HS := Lib.hid hs
  clear hs
  go_wp2_with fail
  go_returns
  exact ⟨_, rfl, HS.out, hb1⟩
end Go.Proofs.Ytlomofcnknpciaa
