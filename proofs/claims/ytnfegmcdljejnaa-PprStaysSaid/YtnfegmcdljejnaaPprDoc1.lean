/-
  The document's rows: Gone, whole: what they say of the places that were taken.
-/
import Derived.Test.YtnfegmcdljejnaaPprRef2
import Derived.Test.YtnfegmcdljejnaaPprLaw
import Derived.Test.YtnfegmcdljejnaaPprRowLit
set_option linter.unusedSimpArgs false
set_option linter.unusedVariables false
namespace Go.Proofs.Ytnfegmcdljejnaa
open Go.RowKit

/-- Places that were taken, as they lie in memory. -/
def IntsAt (w : World) (v : Value) (tk : List Nat) : Prop := (v = .slice none 0 0 ∧ tk = []) ∨ ∃ g o c, v = .slice (some ⟨g, o, none⟩) tk.length c ∧ g < w.heap.size ∧ ∀ (j x : Nat), tk[j]? = some x → w.cell? ⟨g, o + j, none⟩ = some (.int .i64 (x : Int))
theorem IntsAt.below {w w' : World} {v : Value} {tk : List Nat} (h : IntsAt w v tk) (b : Below w.heap.size w w') : IntsAt w' v tk := by
  rcases h with h0 | ⟨g, o, c, rfl, hlt, hcell⟩
  · exact .inl h0
  · exact .inr ⟨g, o, c, rfl, Nat.lt_of_lt_of_le hlt b.size, fun j x hj => (b.cell (p := ⟨g, o + j, none⟩) hlt).trans (hcell j x hj)⟩
theorem IntsAt.slice {w : World} {v : Value} {tk : List Nat} (h : IntsAt w v tk) : ∃ ao c, v = .slice ao tk.length c := by
  rcases h with ⟨rfl, rfl⟩ | ⟨g, o, c, rfl, _⟩
  · exact ⟨_, _, rfl⟩
  · exact ⟨_, _, rfl⟩
theorem IntsAt.cell {w : World} {ao : Option Addr} {n c : Nat} {tk : List Nat} (h : IntsAt w (.slice ao n c) tk) (k x : Nat) (hx : tk[k]? = some x) : ∃ g o, ao = some ⟨g, o, none⟩ ∧ w.cell? ⟨g, o + k, none⟩ = some (.int .i64 (x : Int)) := by
  rcases h with ⟨h0, rfl⟩ | ⟨g, o, c', he, hlt, hcell⟩
  · simp at hx
  · simp only [Value.slice.injEq] at he
    exact ⟨g, o, he.1, hcell k x hx⟩
def takenT (tk : List Nat) (p : Int) : Bool := tk.any fun t => (t : Int) == p
set_option maxHeartbeats 4000000 in
set_option maxRecDepth 100000 in
theorem RGone_calls (root : List UInt8) (B : Nat) (v : Value) (tk : List Nat) (p : Int) (w : World) (hh : root.length = 32) (hI : IntsAt w v tk) (hn : tk.length ≤ 1000000) : Calls Try.prog 78 #[.agg (rcells root B v).toArray, .int .i64 p] w fun e w' => e = .returned (.bool (takenT tk p)) ∧ Below w.heap.size w w' := by
  have hb0 : Below w.heap.size w (w.alloc (.cells (rcells root B v).toArray 54)) := below_alloc1 _ _
  have hA0 : Blk (w.alloc (.cells (rcells root B v).toArray 54)) w.heap.size (rcells root B v).toArray 54 := Blk.new _ _ _
  have hI0 := hI.below hb0
  obtain ⟨ao, c, rfl⟩ := hI.slice
  have hcb := hA0.cell 33 _ (rcells_taken root B _ hh)
  have HI := Lib.hid hI0
  clear hI hI0 hA0
  go_enter Try.func78, Try.ntmps78
  go_wp2_with fail
  generalize w.alloc (.cells (rcells root B (.slice ao tk.length c)).toArray 54) = W0 at hb0 hcb HI ⊢
  go_loopw [5] (fun i wr => ∃ (k : Nat), k ≤ tk.length ∧ i = .int .i64 k ∧ Hid (∀ j x, j < k → tk[j]? = some x → (x : Int) ≠ p) ∧ wr = W0) (fun i _ => tk.length - (intOf i).toNat)
  case atStart => exact ⟨0, by omega, rfl, (fun j x hj => by omega), rfl⟩
  case round =>
    obtain ⟨k, hk, rfl, hno, rfl⟩ := hrel
    by_cases hlt : k < tk.length
    · obtain ⟨x, hx⟩ : ∃ x, tk[k]? = some x := ⟨tk[k], List.getElem?_eq_getElem hlt⟩
      obtain ⟨g, o, rfl, hce⟩ := HI.out.cell k x hx
      have HX := Lib.hid hx
      clear hx
      by_cases he : (x : Int) = p
      · have hf : Hid (takenT tk p = true) := by
          show _ = _
          rw [takenT, List.any_eq_true]
          exact ⟨x, List.mem_of_getElem? HX.out, by simp [he]⟩
        subst he
        go_wp2_with fail
        go_returns
        rw [hf.out]
        exact ⟨rfl, hb0⟩
      · have hnx : Hid (∀ j y, j < k + 1 → tk[j]? = some y → (y : Int) ≠ p) := fun j y hj hy => by
          by_cases h : j < k
          · exact hno.out j y h hy
          · have : j = k := by omega
            subst this
            rw [HX.out] at hy
            cases hy
            exact he
        go_wp2_with fail
        go_roundw
        case rel => exact ⟨k + 1, by omega, by go_num, hnx, trivial⟩
        case measure => simp [intOf]; omega
    · have hf : Hid (takenT tk p = false) := by
        show _ = _
        rw [takenT, List.any_eq_false]
        intro x hx
        obtain ⟨j, hj, rfl⟩ := List.getElem_of_mem hx
        simpa using hno.out j _ (by omega) (List.getElem?_eq_getElem hj)
      clear hno
      go_wp2_with fail
      go_returns
      rw [hf.out]
      exact ⟨rfl, hb0⟩
set_option maxHeartbeats 4000000 in
set_option maxRecDepth 100000 in
theorem RWhole_calls (root : List UInt8) (B : Nat) (v : Value) (tk : List Nat) (lv pl : Nat) (w : World) (hh : root.length = 32) (hB : B ≤ 32) (hlv : lv ≤ B) (hI : IntsAt w v tk) (hn : tk.length ≤ 1000000) (ht : ∀ x ∈ tk, x < 4294967296) : Calls Try.prog 116 #[.agg (rcells root B v).toArray, .int .i64 lv, .int .i64 pl] w fun e w' => e = .returned (.bool (wholeT B tk lv pl)) ∧ Below w.heap.size w w' := by
  have hb0 : Below w.heap.size w (w.alloc (.cells (rcells root B v).toArray 54)) := below_alloc1 _ _
  have hA0 : Blk (w.alloc (.cells (rcells root B v).toArray 54)) w.heap.size (rcells root B v).toArray 54 := Blk.new _ _ _
  have hI0 := hI.below hb0
  obtain ⟨ao, c, rfl⟩ := hI.slice
  have hcb := hA0.cell 32 _ (rcells_bits root B _ hh)
  have HI := Lib.hid hI0
  obtain ⟨P, hP⟩ : ∃ P, P = 2 ^ (B - lv) := ⟨_, rfl⟩
  have c1 : ∀ z, Calls Try.prog 102 #[.int .i64 ((B : Int) - (lv : Int))] z fun e w' => e = .returned (.int .i64 (P : Nat)) ∧ Below z.heap.size z w' := by
    rw [hP, show ((B : Int) - (lv : Int)) = ((B - lv : Nat) : Int) by omega]; exact fun z => power_calls (B - lv) z (by omega)
  have hP1 : 1 ≤ P := by rw [hP]; exact Nat.one_le_two_pow
  have hP2 : P ≤ 4294967296 := by rw [hP]; exact Nat.pow_le_pow_right (n := 2) (by omega) (show B - lv ≤ 32 by omega)
  have HP := Lib.hid hP
  have HH := Lib.hid hh
  clear hI hI0 hP hh
  go_enter Try.func116, Try.ntmps116
  go_wp2_with fail
  generalize w.alloc (.cells (rcells root B (.slice ao tk.length c)).toArray 54) = W0 at hb0 hcb HI hA0 ⊢
  refine (c1 _).mono ?_
  rintro e w1 ⟨rfl, b1⟩
  have HI1 := Lib.hid (HI.out.below b1)
  have hb1 := hb0.trans (b1.mono hb0.size)
  have hA1 := hA0.below b1 hA0.lt
  have hc1 := hA1.cell 33 _ (rcells_taken root B _ HH.out)
  clear HI hb0 hA0 b1 c1 hcb hA1
  go_wp2_with fail
  go_loopw [8] (fun i wr => ∃ (k : Nat), k ≤ tk.length ∧ i = .int .i64 k ∧ Hid (∀ j x, j < k → tk[j]? = some x → x / P ≠ pl) ∧ wr = w1) (fun i _ => tk.length - (intOf i).toNat)
  case atStart => exact ⟨0, by omega, rfl, (fun j x hj => by omega), rfl⟩
  case round =>
    obtain ⟨k, hk, rfl, hno, rfl⟩ := hrel
    by_cases hlt : k < tk.length
    · obtain ⟨x, hx⟩ : ∃ x, tk[k]? = some x := ⟨tk[k], List.getElem?_eq_getElem hlt⟩
      obtain ⟨g, o, rfl, hce⟩ := HI1.out.cell k x hx
      have hxb := ht x (List.mem_of_getElem? hx)
      have HX := Lib.hid hx
      obtain ⟨q, hq⟩ : ∃ q, q = x / P := ⟨_, rfl⟩
      have hqz : (x : Int) / (P : Int) = (q : Int) := by rw [hq]; simp
      have hqb : q ≤ x := by rw [hq]; exact Nat.div_le_self _ _
      have HQ := Lib.hid hq
      clear hx hq
      by_cases he : q = pl
      · have hf : Hid (wholeT B tk lv pl = false) := by
          show _ = _
          rw [wholeT, List.all_eq_false]
          exact ⟨x, List.mem_of_getElem? HX.out, by rw [← HP.out, ← HQ.out]; simp [he]⟩
        subst he
        go_wp2_with fail
        go_returns
        rw [hf.out]
        exact ⟨rfl, hb1⟩
      · have hnx : Hid (∀ j y, j < k + 1 → tk[j]? = some y → y / P ≠ pl) := fun j y hj hy => by
          by_cases h : j < k
          · exact hno.out j y h hy
          · have : j = k := by omega
            subst this
            rw [HX.out] at hy
            cases hy
            rw [← HQ.out]; exact he
        have he2 : ¬ (q : Int) = (pl : Int) := by omega
        go_wp2_with fail
        go_roundw
        case rel => exact ⟨k + 1, by omega, by go_num, hnx, trivial⟩
        case measure => simp [intOf]; omega
    · have hf : Hid (wholeT B tk lv pl = true) := by
        show _ = _
        rw [wholeT, List.all_eq_true]
        intro x hx
        obtain ⟨j, hj, rfl⟩ := List.getElem_of_mem hx
        rw [← HP.out]
        simpa using hno.out j _ (by omega) (List.getElem?_eq_getElem hj)
      clear hno
      go_wp2_with fail
      go_returns
      rw [hf.out]
      exact ⟨rfl, hb1⟩
end Go.Proofs.Ytnfegmcdljejnaa
