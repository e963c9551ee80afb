/-
  BookNames.
-/
import Derived.Test.YtjjmcogdohnhjaaBookAwake
import Derived.Test.YtjjmcogdohnhjaaBookOpen
import Derived.Deep.RegionHeld
set_option linter.unusedSimpArgs false
set_option linter.unusedVariables false
namespace Go.Proofs.Ytjjmcogdohnhjaa
open Go.RowKit Go.ChangeShapes Go.WideShapes

theorem BookIs.frm0 {T : TypeId → Prop} {M : Nat → Prop} {w w' : World} {base b sm nm dm : Nat} {names : List UInt8 → Option Value} (h : BookIs w base b sm nm dm [] names) (f : Frm T M w w') (hT : ¬ T 70 ∧ ¬ T 44 ∧ ¬ T 3) (hM : ¬ M sm ∧ ¬ M nm ∧ ¬ M dm) : BookIs w' base b sm nm dm [] names := by
  obtain ⟨⟨fv, h1, cs, h2, h2b, h2c⟩, ⟨K, h3⟩, h4, ⟨L, h5⟩, h6, h7⟩ := h
  exact ⟨⟨fv, h1.frm f hT.1, cs, own_frm h2 f hT.2.1, h2b, fun i g p hi => by simp at hi⟩, ⟨K, h3.frm f hM.1⟩, h4.frm f hT.2.2 hM.2.1, ⟨L, h5.frm f hM.2.2⟩, h6, h7⟩
/-- A naming. -/
abbrev CallT := List UInt8 × Hs32
def CallT.cells (c : CallT) : List Value := .string (str c.1) :: c.2.1.map bv
theorem CallT.cells_len (c : CallT) : c.cells.length = 33 := by rw [CallT.cells, List.length_cons, List.length_map, c.2.2]
section
variable {H : Type} {enc : TypeId × Value → H} {w : World} {base : Nat} {held : Bool} {fuel : Nat} {x : DataW H × List MemPlace}
theorem Try.cellsStr : Try.prog.cellsOf 9 = 1 := by kernel_rfl
theorem trod_call {l : List Value} (h : DataW.trod enc Try.prog w base (fun _ => true) held fuel 50 l = some x) : ∃ c : CallT, c.1.length ≤ maxLen ∧ l = c.cells := by
  obtain ⟨y0, y1, n, _, hl, h0, h1⟩ := trod_struct2 Try.underlying50 h
  rw [Try.cellsCall] at hl
  match l, hl with
  | a :: l, hl =>
    have c1 : ((a :: l).drop 0).take (Try.prog.cellsOf 9) = [a] := by rw [Try.cellsStr]; rfl
    have c2 : ((a :: l).drop 1).take (Try.prog.cellsOf 39) = l := by rw [Try.cellsHash]; show l.take 32 = l; exact List.take_of_length_le (by simpa using Nat.le_of_eq (Nat.succ.inj hl))
    obtain ⟨s, e1, e2⟩ := trod_str h0
    obtain ⟨hs, e3, e4⟩ := trod_hash h1
    have d1 : [a] = [.string (str s)] := c1.symm.trans e1
    have d2 : l = hs.map bv := c2.symm.trans e4
    exact ⟨(s, ⟨hs, e3⟩), e2, by rw [CallT.cells, ← d2]; congr 1; simpa using d1⟩
/-- A slice of namings. -/
def CallsAt (w : World) (v : Value) (l : List CallT) : Prop :=
  (l = [] ∧ ∃ ao, v = .slice ao 0 0) ∨ ∃ g o c, v = .slice (some ⟨g, o, none⟩) l.length c ∧ l.length ≤ c ∧ g < w.heap.size ∧ ∀ i (hi : i < l.length), w.rangeAt g (o + i * 33) l[i].cells
theorem open_calls {v : Value} {d : DataW H} {p : List MemPlace} {r : Reach} {b0 : Nat} (hv : Value.okWide Try.prog w r b0 46 v) (h : DataW.Trod enc Try.prog w base (fun _ => true) held 46 v d p) : ∃ L, CallsAt w v L ∧ L.length ≤ maxLen ∧ ∀ c ∈ L, c.1.length ≤ maxLen := by
  obtain ⟨ao0, n, c, hs⟩ := okWide_slice Try.underlying46 hv
  obtain ⟨m, hm⟩ := h
  obtain ⟨ao, len, cap, xs, hl, h1, h2, h3, hok, h4⟩ := trod_elems (α := CallT) (cells := CallT.cells) (size := 33) (ok := fun c => c.1.length ≤ maxLen) Try.underlying46 Try.cellsCall (by omega) CallT.cells_len (fun l m y hl => trod_call hl) hm
  obtain rfl := slice_cells hs hl
  refine ⟨xs, ?_, by omega, hok⟩
  rcases h4 with h0 | ⟨b, off, rfl, hb, hc⟩
  · have e : xs = [] := List.eq_nil_of_length_eq_zero (by omega)
    exact .inl ⟨e, ao, by rw [h0, show len = 0 by omega]⟩
  · exact .inr ⟨b, off, cap, by rw [h3], by rw [h3]; exact h1, hb, hc⟩
end
theorem CallsAt.below {w w' : World} {v : Value} {l : List CallT} (h : CallsAt w v l) (b : Below w.heap.size w w') : CallsAt w' v l := by
  rcases h with h0 | ⟨g, o, c, rfl, hc, hlt, hcell⟩
  · exact .inl h0
  · exact .inr ⟨g, o, c, rfl, hc, Nat.lt_of_lt_of_le hlt b.size, fun i hi j u hj => (b.cell (p := ⟨g, o + i * 33 + j, none⟩) hlt).trans (hcell i hi j u hj)⟩
theorem CallsAt.slice {w : World} {v : Value} {l : List CallT} (h : CallsAt w v l) : ∃ ao c, v = .slice ao l.length c ∧ l.length ≤ c := by
  rcases h with ⟨rfl, ao, rfl⟩ | ⟨g, o, c, rfl, hc, _⟩
  · exact ⟨_, _, rfl, Nat.le_refl _⟩
  · exact ⟨_, _, rfl, hc⟩
theorem CallsAt.range {w : World} {ao : Option Addr} {n c : Nat} {l : List CallT} (h : CallsAt w (.slice ao n c) l) (i : Nat) (s : CallT) (hi : l[i]? = some s) : ∃ g o, ao = some ⟨g, o, none⟩ ∧ w.cell? ⟨g, o + i * 33, none⟩ = some (.string (str s.1)) ∧ w.rangeAt g (o + i * 33 + 1) (s.2.1.map bv) := by
  rcases h with ⟨rfl, h0⟩ | ⟨g, o, c', he, _, hlt, hcell⟩
  · simp at hi
  · simp only [Value.slice.injEq] at he
    obtain ⟨h1, h2⟩ := List.getElem?_eq_some_iff.1 hi
    have h3 := hcell i h1
    rw [h2] at h3
    refine ⟨g, o, he.1, h3 0 _ rfl, fun j u hj => ?_⟩
    have := h3 (j + 1) u (by rw [CallT.cells, List.getElem?_cons_succ]; exact hj)
    rwa [show o + i * 33 + (j + 1) = o + i * 33 + 1 + j by omega] at this
/-- What a name names at the end. -/
def lk (l : List CallT) (s : List UInt8) : Option HsT := l.foldl (fun a c => if c.1 = s then some c.2.1 else a) none
theorem lk_snoc (l : List CallT) (c : CallT) (s : List UInt8) : lk (l ++ [c]) s = if c.1 = s then some c.2.1 else lk l s := by simp [lk]
theorem lk_ok0 (s : List UInt8) : ∀ (l : List CallT) (a : Option HsT), (∀ h, a = some h → h.length = 32) → ∀ h, l.foldl (fun a c => if c.1 = s then some c.2.1 else a) a = some h → h.length = 32
  | [], a, ha, h, e => ha h e
  | c :: l, a, ha, h, e => by
    refine lk_ok0 s l _ (fun u hu => ?_) h e
    have hu : (if c.1 = s then some c.2.1 else a) = some u := hu
    by_cases hc : c.1 = s
    · rw [if_pos hc] at hu
      obtain rfl := Option.some.inj hu
      exact c.2.2
    · rw [if_neg hc] at hu
      exact ha u hu
theorem lk_ok (l : List CallT) (s : List UInt8) (h : HsT) (e : lk l s = some h) : h.length = 32 := lk_ok0 s l none (fun u hu => by cases hu) h e
def lkN (l : List CallT) (s : List UInt8) : Option Value := (lk l s).map hashEnc
theorem lkN_snoc (l : List CallT) (c : CallT) (s : List UInt8) : (if s = c.1 then some (hashEnc c.2.1) else lkN l s) = lkN (l ++ [c]) s := by
  unfold lkN
  rw [lk_snoc]
  by_cases e : s = c.1
  · rw [if_pos e, if_pos e.symm]; rfl
  · rw [if_neg e, if_neg (fun h => e h.symm)]
def lkW (l : List CallT) (s : List UInt8) : HsT := (lk l s).getD (List.replicate 32 0)
theorem lkW_len (l : List CallT) (s : List UInt8) : (lkW l s).length = 32 := by
  unfold lkW
  cases h : lk l s with
  | none => simp
  | some u => exact lk_ok l s u h
set_option maxHeartbeats 16000000 in
set_option maxRecDepth 100000 in
theorem namesMain (v : Value) (l : List CallT) (ask : List UInt8) (w : World) (hl : CallsAt w v l) (hn : l.length ≤ maxLen) (hnm : ∀ c ∈ l, c.1.length ≤ maxLen) (ha : ask.length ≤ maxLen) :
    Calls Try.prog 6 #[v, .string (str ask)] w fun e w' => e = .returned (.bool true) ∧ Below w.heap.size w w' := by
  obtain ⟨ao, c, rfl, hc⟩ := hl.slice
  obtain ⟨n, hne⟩ : ∃ n, n = l.length := ⟨_, rfl⟩
  rw [← hne] at hc hn hl ⊢
  have HL : Hid (∀ w', Below w.heap.size w w' → CallsAt w' (.slice ao n c) l) := fun w' b => hl.below b
  have HN := Lib.hid hne
  have HNM := Lib.hid hnm
  have HASK := Lib.hid ha
  obtain ⟨base, hbase⟩ : ∃ base, base = w.heap.size := ⟨_, rfl⟩
  have HBS : Hid (base = w.heap.size) := hbase
  have haw := fun x => awake_calls x
  clear hl hne hnm ha
  rw [← hbase] at HL ⊢
  have hB0 := Below.refl base w
  have hnw : n ≤ 9223372036854775807 := by unfold maxLen at hn; exact hn
  clear hn
  by_cases hbig : 1000 < n
  · go_enter Try.func6, Try.ntmps6
    go_wp2_with fail
    refine (haw _).mono ?_
    rintro e wq1 ⟨rfl, bq2⟩
    have hBq3 := hB0.trans (bq2.mono (Nat.le_trans (Nat.le_of_eq HBS.out) hB0.size))
    clear hB0
    clear bq2
    go_wp2_with fail
    refine (haw _).mono ?_
    rintro e wq4 ⟨rfl, bq5⟩
    have hBq6 := hBq3.trans (bq5.mono (Nat.le_trans (Nat.le_of_eq HBS.out) hBq3.size))
    clear hBq3
    clear bq5
    go_wp2_with fail
    go_returns
    exact ⟨rfl, hBq6⟩
  go_enter Try.func6, Try.ntmps6
  go_wp2_with fail
  refine (haw _).mono ?_
  rintro e wq7 ⟨rfl, bq8⟩
  have hBq9 := hB0.trans (bq8.mono (Nat.le_trans (Nat.le_of_eq HBS.out) hB0.size))
  clear hB0
  clear bq8
  go_wp2_with fail
  have hBl : base ≤ wq7.heap.size := Nat.le_trans (Nat.le_of_eq HBS.out) hBq9.size
  refine (New_calls _).mono ?_
  rintro e wq10 ⟨bk, sm, nm, dm, rfl, hbi, bq11⟩
  have hBq12 := hBq9.trans (bq11.mono (Nat.le_trans (Nat.le_of_eq HBS.out) hBq9.size))
  clear hBq9
  clear bq11
  have hHq13 := Lib.hid hbi
  clear hbi
  obtain ⟨B, hbi3, hBle⟩ : ∃ B, BookIs wq10 B bk sm nm dm [] (fun _ => none) ∧ base ≤ B := ⟨_, hHq13.out, hBl⟩
  have HBI := Lib.hid hbi3
  clear hHq13 hbi3
  go_wp2_with (first | ((with_reducible show wpList _ _ _ (⟨some 20, _, _, _, _, _⟩ :: _) _ _); refine wpList_buildCells rfl 39 #[] rfl (((List.replicate 32 (0 : UInt8)).map bv).toArray) (by kernel_rfl) ?_) | ((with_reducible show wpList _ _ _ (⟨some 6, _, _, _, _, _⟩ :: _) _ _); have hWB : base ≤ wq10.heap.size := Nat.le_trans (Nat.le_of_eq HBS.out) hBq12.size; refine wpList_allocZ rfl 39 rfl _ Try.zeroHash ?_; intro wq14 hsq15 baq16 hNq17; have hCq18 := Lib.hid (HBI.out.below baq16); have hBq19 := hBq12.trans (baq16.mono (Nat.le_trans (Nat.le_of_eq HBS.out) hBq12.size)); clear HBI hBq12; clear baq16 hsq15) | ((with_reducible show wpList _ _ _ (⟨none, Op.store _ (.tmp 6) _, _, _, _, _⟩ :: _) _ _); refine wpList_storeBlk rfl 39 (.tmp 6) (.tmp 20) rfl (wq10.heap.size) (((List.replicate 32 (0 : UInt8)).map bv).toArray) (by rfl) (by rfl) _ _ hNq17 (by rw [bv_size, List.length_replicate]; exact Try.sizeHash) (by rw [bv_size, List.length_replicate, Z32_size]) (bv_all _) ?_; intro wq20 hW2 gq21; have HBI2 : Hid (BookIs wq20 B bk sm nm dm [] _) := Lib.hid (BookIs.frm0 hCq18.out (Frm.grownBlk (T := fun t => t = 39) (M := fun _ => False) hNq17 gq21 rfl) (by decide) ⟨id, id, id⟩); have hB2 := hBq19.grown gq21 (Nat.le_trans (Nat.le_of_eq HBS.out) hBq19.size) (fun q e => by cases e; exact hWB); clear gq21 hCq18 hNq17 hBq19))
  obtain ⟨wb, hwb⟩ : ∃ x, x = wq10.heap.size := ⟨_, rfl⟩
  rw [← hwb] at hW2 hWB
  rw [← hwb]
  clear hwb
  have HW2 := Lib.hid hW2
  have HB2 := Lib.hid hB2
  clear hW2 hB2
  go_loopw [7, 8] (fun s7 s8 wr => ∃ (k : Nat), k ≤ n ∧ s8 = .int .i64 (k : Nat) ∧ s7 = .bool (lk (l.take k) ask).isSome ∧ Hid (BookIs wr B bk sm nm dm [] (lkN (l.take k))) ∧ Hid (Blk wr wb ((lkW (l.take k) ask).map bv).toArray 39) ∧ Hid (Below base w wr)) (fun _ i _ => n - (intOf i).toNat)
  case atStart => exact ⟨0, by omega, rfl, rfl, HBI2, HW2, HB2⟩
  case round =>
    clear HBI2 HW2 HB2
    obtain ⟨k, hk, rfl, rfl, HBI, HW, HB⟩ := hrel
    obtain ⟨D, hD⟩ : ∃ D, D = (lk (l.take k) ask).isSome := ⟨_, rfl⟩
    rw [← hD]
    have HD := Lib.hid hD
    clear hD
    by_cases hlt : k < n
    · obtain ⟨s, hs⟩ : ∃ s, l[k]? = some s := ⟨l[k]'(by rw [← HN.out]; exact hlt), List.getElem?_eq_getElem _⟩
      obtain ⟨g, o, rfl, hr1, hr2⟩ := (HL.out _ HB.out).range k s hs
      have HSL := Lib.hid (HNM.out s (List.mem_of_getElem? hs))
      have HNX : Hid (l.take (k + 1) = l.take k ++ [s]) := by
        show _ = _
        obtain ⟨h3, h4⟩ := List.getElem?_eq_some_iff.1 hs
        rw [List.take_succ_eq_append_getElem h3, h4]
      have HR1 : Hid (∀ w', Below base w w' → w'.cell? ⟨g, o + k * 33, none⟩ = some (.string (str s.1))) := fun w' b => by
        obtain ⟨g', o', he, h5, _⟩ := (HL.out _ b).range k s hs
        simp only [Option.some.injEq, Addr.mk.injEq] at he
        obtain ⟨rfl, rfl, _⟩ := he
        exact h5
      have HR2 : Hid (∀ w', Below base w w' → w'.rangeAt g (o + k * 33 + 1) (s.2.1.map bv)) := fun w' b => by
        obtain ⟨g', o', he, _, h5⟩ := (HL.out _ b).range k s hs
        simp only [Option.some.injEq, Addr.mk.injEq] at he
        obtain ⟨rfl, rfl, _⟩ := he
        exact h5
      have HS : Hid (s.2.1.length = 32) := s.2.2
      have hW := HW.out
      have hB := HB.out
      clear hs hr1 hr2 HW HB
      obtain ⟨nm1, hh1⟩ : ∃ x, x = s.1 := ⟨_, rfl⟩
      obtain ⟨hh, hh2⟩ : ∃ x, x = s.2.1 := ⟨_, rfl⟩
      have HN1 := Lib.hid hh1
      have HH2 := Lib.hid hh2
      rw [← hh1] at HSL HR1
      rw [← hh2] at HR2 HS
      clear hh1 hh2
      go_wp2_with fail
      refine wp_region_held_drew (S := fun x => Below base w x) (by kernel_rfl) (below_drewN hB 1) (fun hSq22 => ?_)
      have hEq23 := Blk.drew hW
      have hHq24 := Lib.hid (HBI.out.drew)
      refine wpAnyH_take (i := 0) (v := Value.pointer (some ⟨bk, 0, none⟩)) rfl (by kernel_rfl) (by kernel_rfl) (by kernel_rfl) (fun _ _ _ h => h) (Or.inl ⟨by rfl, fun x hx => by go_simp⟩) hSq22 ?_
      simp only [Act.put, List.getElem_toArray, List.getElem_cons_zero, List.getElem_cons_succ, List.setIfInBounds_toArray, List.set_cons_zero, List.set_cons_succ]
      refine wpAnyH_take (i := 1) (v := Value.slice (some ⟨g, o, none⟩) n c) rfl (by kernel_rfl) (by kernel_rfl) (by kernel_rfl) (fun _ _ _ h => h) (Or.inl ⟨by rfl, fun x hx => by go_simp⟩) hSq22 ?_
      simp only [Act.put, List.getElem_toArray, List.getElem_cons_zero, List.getElem_cons_succ, List.setIfInBounds_toArray, List.set_cons_zero, List.set_cons_succ]
      refine wpAnyH_take (i := 2) (v := Value.int .i64 (k : Nat)) rfl (by kernel_rfl) (by kernel_rfl) (by kernel_rfl) (fun _ _ _ h => h) (Or.inl ⟨by rfl, fun x hx => by go_simp⟩) hSq22 ?_
      simp only [Act.put, List.getElem_toArray, List.getElem_cons_zero, List.getElem_cons_succ, List.setIfInBounds_toArray, List.set_cons_zero, List.set_cons_succ]
      refine wpAnyH_take (i := 3) (v := Value.pointer (some ⟨g, o + k * 33, none⟩)) rfl (by kernel_rfl) (by kernel_rfl) (by kernel_rfl) (fun _ _ _ h => h) (Or.inl ⟨by rfl, fun x hx => by go_simp⟩) hSq22 ?_
      simp only [Act.put, List.getElem_toArray, List.getElem_cons_zero, List.getElem_cons_succ, List.setIfInBounds_toArray, List.set_cons_zero, List.set_cons_succ]
      refine wpAnyH_take (i := 4) (v := Value.pointer (some ⟨g, o + k * 33, none⟩)) rfl (by kernel_rfl) (by kernel_rfl) (by kernel_rfl) (fun _ _ _ h => h) (Or.inl ⟨by rfl, fun x hx => by go_simp⟩) hSq22 ?_
      simp only [Act.put, List.getElem_toArray, List.getElem_cons_zero, List.getElem_cons_succ, List.setIfInBounds_toArray, List.set_cons_zero, List.set_cons_succ]
      refine wpAnyH_take (i := 5) (v := Value.string (str nm1)) rfl (by kernel_rfl) (by kernel_rfl) (by kernel_rfl) (fun _ _ _ h => h) (Or.inl ⟨by rfl, fun x hx => by have hc := HR1.out _ hx; go_simp⟩) hSq22 ?_
      simp only [Act.put, List.getElem_toArray, List.getElem_cons_zero, List.getElem_cons_succ, List.setIfInBounds_toArray, List.set_cons_zero, List.set_cons_succ]
      refine wpAnyH_take (i := 6) (v := Value.slice (some ⟨g, o, none⟩) n c) rfl (by kernel_rfl) (by kernel_rfl) (by kernel_rfl) (fun _ _ _ h => h) (Or.inl ⟨by rfl, fun x hx => by go_simp⟩) hSq22 ?_
      simp only [Act.put, List.getElem_toArray, List.getElem_cons_zero, List.getElem_cons_succ, List.setIfInBounds_toArray, List.set_cons_zero, List.set_cons_succ]
      refine wpAnyH_take (i := 7) (v := Value.int .i64 (k : Nat)) rfl (by kernel_rfl) (by kernel_rfl) (by kernel_rfl) (fun _ _ _ h => h) (Or.inl ⟨by rfl, fun x hx => by go_simp⟩) hSq22 ?_
      simp only [Act.put, List.getElem_toArray, List.getElem_cons_zero, List.getElem_cons_succ, List.setIfInBounds_toArray, List.set_cons_zero, List.set_cons_succ]
      refine wpAnyH_take (i := 8) (v := Value.pointer (some ⟨g, o + k * 33, none⟩)) rfl (by kernel_rfl) (by kernel_rfl) (by kernel_rfl) (fun _ _ _ h => h) (Or.inl ⟨by rfl, fun x hx => by go_simp⟩) hSq22 ?_
      simp only [Act.put, List.getElem_toArray, List.getElem_cons_zero, List.getElem_cons_succ, List.setIfInBounds_toArray, List.set_cons_zero, List.set_cons_succ]
      refine wpAnyH_take (i := 9) (v := Value.pointer (some ⟨g, o + k * 33 + 1, none⟩)) rfl (by kernel_rfl) (by kernel_rfl) (by kernel_rfl) (fun _ _ _ h => h) (Or.inl ⟨by rfl, fun x hx => by go_simp⟩) hSq22 ?_
      simp only [Act.put, List.getElem_toArray, List.getElem_cons_zero, List.getElem_cons_succ, List.setIfInBounds_toArray, List.set_cons_zero, List.set_cons_succ]
      refine wpAnyH_take (i := 10) rfl (by kernel_rfl) (by kernel_rfl) (by kernel_rfl) (fun _ _ _ h => h) (yieldsIf_load_mid (by rfl) 39 (.tmp 36) rfl (g) (o + k * 33 + 1) (by rfl) (hh.map bv) _ (fun x hx => HR2.out _ hx) Try.underlying39 rfl (by rw [List.length_map, HS.out]; exact Try.sizeHash)) hSq22 ?_
      simp only [Act.put, List.getElem_toArray, List.getElem_cons_zero, List.getElem_cons_succ, List.setIfInBounds_toArray, List.set_cons_zero, List.set_cons_succ]
      refine wpAnyH_ready (rs := [11]) (by kernel_rfl) (by simp) ?_
      refine AllReadyH.cons rfl (fun K hK => ?_) AllReadyH.nil
      go_simp
      have hbb : B ≤ ((World.drew wr)).heap.size := by have h1 := hHq24.out.box; obtain ⟨_, h2, _⟩ := h1; have := h2.lt; have := hHq24.out.above.1; omega
      go_wp2_with (go_at_call 19; refine (Name_calls B bk sm nm dm [] _ nm1 hh _ hHq24.out HSL.out HS.out hbb).mono ?_; rintro e yq25 ⟨rfl, hbiq26, hfrq27, bqq28⟩; have HBIq30 := Lib.hid hbiq26; clear hbiq26)
      have hWq31 := hEq23.frm hfrq27 id
      refine hK.out _ _ (hSq22.trans (bqq28.mono hBle)) (fun hSq29 => ?_)
      clear hK K hSq22 bqq28 hfrq27 hbb
      refine wpAnyH_done (by kernel_rfl) ?_ _
      have hB9 := hSq29
      have hW9 := hWq31
      have HBI9 := HBIq30
      clear hSq29 hWq31 HBIq30
      have HLN : Hid ((fun x => if x = nm1 then some (hashEnc hh) else lkN (l.take k) x) = lkN (l.take (k + 1))) := by
        show _ = _
        rw [HNX.out]
        funext x
        rw [HN1.out, HH2.out]
        exact lkN_snoc _ _ _
      by_cases he : nm1 = ask
      · subst he
        have HLW : Hid (lkW (l.take (k + 1)) nm1 = hh) := by
          show _ = _
          unfold lkW
          rw [HNX.out, lk_snoc, if_pos HN1.out.symm, HH2.out]
          rfl
        have HLI : Hid ((lk (l.take (k + 1)) nm1).isSome = true) := by
          show _ = _
          rw [HNX.out, lk_snoc, if_pos HN1.out.symm]
          rfl
        go_wp2_with (first | ((with_reducible show wpList _ _ _ (⟨some 43, _, _, _, _, _⟩ :: _) _ _); refine wpList_load1 rfl 9 (.tmp 42) rfl (g) (o + k * 33) (by rfl) _ _ (HR1.out _ hB9) Try.underlying9 rfl ?_) | ((with_reducible show wpList _ _ _ (⟨some 50, _, _, _, _, _⟩ :: _) _ _); refine wpList_load_mid rfl 39 (.tmp 49) rfl g (o + k * 33 + 1) (by rfl) (hh.map bv) _ (HR2.out _ hB9) Try.underlying39 rfl (by rw [List.length_map, HS.out]; exact Try.sizeHash) ?_) | ((with_reducible show wpList _ _ _ (⟨none, Op.store _ (.tmp 6) _, _, _, _, _⟩ :: _) _ _); refine wpList_storeBlk rfl 39 (.tmp 6) (.tmp 50) rfl (wb) ((hh.map bv).toArray) (by rfl) (by rfl) _ _ hW9 (by rw [bv_size, HS.out]; exact Try.sizeHash) (by rw [bv_size, bv_size, HS.out, lkW_len]) (bv_all _) ?_; intro wq32 hW10 gq33; have HBI10 : Hid (BookIs wq32 B bk sm nm dm [] _) := Lib.hid (BookIs.frm0 HBI9.out (Frm.grownBlk (T := fun t => t = 39) (M := fun _ => False) hW9 gq33 rfl) (by decide) ⟨id, id, id⟩); have hB10 := hB9.grown gq33 (Nat.le_trans (Nat.le_of_eq HBS.out) hB9.size) (fun q e => by cases e; exact hWB); clear gq33 HBI9 hW9 hB9))
        go_roundw
        case rel => exact ⟨k + 1, by omega, by go_num, by rw [HLI.out], Lib.hid (by rw [← HLN.out]; exact HBI10.out), Lib.hid (by rw [HLW.out]; exact hW10), Lib.hid hB10⟩
        case measure => simp [intOf]; omega
      · have hne : (nm1 == ask) = false := beq_eq_false_iff_ne.2 he
        have HLW : Hid (lkW (l.take (k + 1)) ask = lkW (l.take k) ask) := by
          show _ = _
          unfold lkW
          rw [HNX.out, lk_snoc, if_neg (fun e => he (by rw [HN1.out]; exact e))]
        have HLI : Hid ((lk (l.take (k + 1)) ask).isSome = (lk (l.take k) ask).isSome) := by
          show _ = _
          rw [HNX.out, lk_snoc, if_neg (fun e => he (by rw [HN1.out]; exact e))]
        go_wp2_with ((with_reducible show wpList _ _ _ (⟨some 43, _, _, _, _, _⟩ :: _) _ _); refine wpList_load1 rfl 9 (.tmp 42) rfl (g) (o + k * 33) (by rfl) _ _ (HR1.out _ hB9) Try.underlying9 rfl ?_)
        go_roundw
        case rel => exact ⟨k + 1, by omega, by go_num, by rw [HLI.out, HD.out], Lib.hid (by rw [← HLN.out]; exact HBI9.out), Lib.hid (by rw [HLW.out]; exact hW9), Lib.hid hB9⟩
        case measure => simp [intOf]; omega
    · obtain rfl : k = n := by omega
      have hN0 : Hid (NamesOk (lkN (l.take k))) := fun x v hv => by
        unfold lkN at hv
        cases hq : lk (l.take k) x with
        | none => rw [hq] at hv; cases hv
        | some u =>
          rw [hq] at hv
          exact ⟨u, lk_ok _ _ _ hq, (Option.some.inj hv).symm⟩
      have hW := HW.out
      have hB := HB.out
      clear HW HB
      go_wp2_with fail
      refine (Named_calls B bk sm nm dm [] _ ask _ HBI.out HASK.out hN0.out).mono ?_
      rintro e w7 ⟨lw, hlw, hv, rfl, b7⟩
      have hD7 : (lkN (l.take k) ask).isSome = D := by rw [HD.out]; unfold lkN; cases lk (l.take k) ask <;> rfl
      have hlw2 : lw = lkW (l.take k) ask := by
        unfold lkW
        unfold lkN at hv
        cases hq : lk (l.take k) ask with
        | none =>
          rw [hq] at hv
          have : Value.agg Z32 = hashEnc lw := hv
          rw [← enc_zeros] at this
          exact (agg_inj this).symm
        | some u =>
          rw [hq] at hv
          have : hashEnc u = hashEnc lw := hv
          exact (agg_inj this).symm
      rw [hD7, hlw2]
      clear hD7 hv hlw hlw2 lw
      obtain ⟨q, hq⟩ : ∃ q, q = lkW (l.take k) ask := ⟨_, rfl⟩
      rw [← hq] at hW
      rw [← hq]
      have HQ : Hid (q.length = 32) := by show _ = _; rw [hq]; exact lkW_len _ _
      have hW7 := hW.below b7 hW.lt
      have HBI7 := Lib.hid (HBI.out.below b7)
      have hB7 := hB.trans (b7.mono (Nat.le_trans (Nat.le_of_eq HBS.out) hB.size))
      have heq : ∀ x, (Op.equalIn 10000 39 (.agg (q.map bv).toArray) (.agg (q.map bv).toArray)).run Try.prog x = .ok true x := fun x => by rw [run_eq_hash x q q HQ.out HQ.out]; simp
      clear hW HBI hB hq b7
      go_wp2_with (first | ((with_reducible show wpList _ _ _ (⟨some 9, _, _, _, _, _⟩ :: _) _ _); refine wpList_allocZ rfl 39 rfl _ Try.zeroHash ?_; intro wq34 hsq35 baq36 hNq37) | ((with_reducible show wpList _ _ _ (⟨none, Op.store _ (.tmp 9) _, _, _, _, _⟩ :: _) _ _); refine wpList_storeBlk rfl 39 (.tmp 9) (.tmp 55) rfl (w7.heap.size) ((q.map bv).toArray) (by rfl) (by rfl) _ _ hNq37 (by rw [bv_size, HQ.out]; exact Try.sizeHash) (by rw [bv_size, HQ.out, Z32_size]) (bv_all _) ?_; intro wq38 hKq39 gq40; have bbq41 := below_new baq36 gq40 (Nat.le_refl _) baq36.size; have ltq42 : wb < w7.heap.size := hW7.lt; have hCq43 := hW7.below bbq41 hW7.lt; have hCq44 := Lib.hid (HBI7.out.below bbq41); have hBq45 := hB7.trans (bbq41.mono (Nat.le_trans (Nat.le_of_eq HBS.out) hB7.size)); clear hW7 HBI7 hB7; clear bbq41 baq36 hNq37 gq40 hsq35) | ((with_reducible show wpList _ _ _ (⟨some 61, _, _, _, _, _⟩ :: _) _ _); refine wpList_if (by rfl) (wp_load_mid 39 (.tmp 9) rfl (w7.heap.size) 0 (by rfl) (q.map bv) _ (blk_rangeP hKq39) Try.underlying39 rfl (by rw [List.length_map, HQ.out]; exact Try.sizeHash) ?_)) | ((with_reducible show wpList _ _ _ (⟨some 62, _, _, _, _, _⟩ :: _) _ _); refine wpList_if (by rfl) (wp_load_mid 39 (.tmp 6) rfl (wb) 0 (by rfl) (q.map bv) _ (blk_rangeP hCq43) Try.underlying39 rfl (by rw [List.length_map, HQ.out]; exact Try.sizeHash) ?_)))
      refine (Len_calls B bk sm nm dm [] _ _ hCq44.out).mono ?_
      rintro e ww ⟨rfl, hww⟩
      subst ww
      rw [show (((([] : List FactT).length : Nat)) : Int) = 0 from rfl]
      go_wp2_with fail
      go_returns
      exact ⟨rfl, hBq45⟩
theorem walkBookNames {w0 : World} (v : Value) (l : List CallT) (hl : CallsAt w0 v l) (hn : l.length ≤ maxLen) (hnm : ∀ c ∈ l, c.1.length ≤ maxLen) (ask : List UInt8) (ha : ask.length ≤ maxLen) (w : World) (hw : w0 = w := by rfl) :
    Calls Try.prog 6 #[v, .string (str ask)] w fun e w' => e = .returned (.bool true) ∧ Below w.heap.size w w' := namesMain v l ask w (hw ▸ hl) hn hnm ha
end Go.Proofs.Ytjjmcogdohnhjaa
