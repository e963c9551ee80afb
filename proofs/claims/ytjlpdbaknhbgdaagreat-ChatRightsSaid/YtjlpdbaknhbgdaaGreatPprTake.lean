/-
  ppr: Take with a nil book.
-/
import Derived.Test.YtjlpdbaknhbgdaaGreatPprLook
set_option linter.unusedSimpArgs false
set_option linter.unusedVariables false
namespace Go.Proofs.YtjlpdbaknhbgdaaGreat
open Go.RowKit

/-- What a row has behind a taking. -/
def takeT (B : Nat) (p : Int) (l : List Sd) : List Sd :=
  if withinT B p then match findT B p.toNat l with
    | none => l
    | some i => match l[i]? with
      | none => l
      | some s => l.take i ++ ((stK B p.toNat s (B - s.lv)).2.1 ++ (stK B p.toNat s (B - s.lv)).2.2.reverse) ++ l.drop (i + 1)
  else l
theorem drew_grown {w w' : World} {row : Option Nat} (h : w.drew.grownBy w' row) : w.grownBy w' row := ⟨h.os, h.tape, h.output, h.size, h.block⟩
theorem seeds_take_cell {w : World} {g n c : Nat} {l : List Sd} (h : SeedsAt w (.slice (some ⟨g, 0, none⟩) n c) l) (i : Nat) : ∀ j u, ((l.take i).flatMap Sd.cells)[j]? = some u → w.cell? ⟨g, j, none⟩ = some u := by
  intro j u hj
  rcases h.2 with ⟨h0, _⟩ | ⟨g', c', he, _, _, hcell⟩
  · simp at h0
  · simp only [Value.slice.injEq, Option.some.injEq, Addr.mk.injEq] at he
    obtain ⟨⟨rfl, _⟩, _, _⟩ := he
    refine hcell j u ?_
    have hlt := (List.getElem?_eq_some_iff.1 hj).1
    conv => lhs; rw [← List.take_append_drop i l]
    rw [List.flatMap_append, List.getElem?_append_left hlt]; exact hj
theorem seeds_drop_cell {w : World} {g n c : Nat} {l : List Sd} (h : SeedsAt w (.slice (some ⟨g, 0, none⟩) n c) l) (i : Nat) (hi : i ≤ l.length) : ∀ j u, ((l.drop i).flatMap Sd.cells)[j]? = some u → w.cell? ⟨g, i * 34 + j, none⟩ = some u := by
  intro j u hj
  rcases h.2 with ⟨h0, _⟩ | ⟨g', c', he, _, _, hcell⟩
  · simp at h0
  · simp only [Value.slice.injEq, Option.some.injEq, Addr.mk.injEq] at he
    obtain ⟨⟨rfl, _⟩, _, _⟩ := he
    refine hcell _ u ?_
    have hl := seeds_cells_len (l.take i) (fun s hs => h.1 s (List.mem_of_mem_take hs))
    rw [List.length_take, Nat.min_eq_left hi] at hl
    conv => lhs; rw [← List.take_append_drop i l]
    rw [List.flatMap_append, List.getElem?_append_right (by omega), show i * 34 + j - ((l.take i).flatMap Sd.cells).length = j by omega]; exact hj

/-- The row's seeds lie where they lay, or in a new block. -/
def RowMove (w w' : World) (r B : Nat) : Prop := ∀ v v', Blk w r #[.int .i64 B, v] 158 → Blk w' r #[.int .i64 B, v'] 158 → ∀ q, v'.ownBlock = some q → v.ownBlock = some q ∨ w.heap.size ≤ q
theorem slot_eq {w : World} {r B : Nat} {v v' : Value} {t : TypeId} (h : Blk w r #[.int .i64 B, v] t) (h' : Blk w r #[.int .i64 B, v'] t) : v = v' := by
  unfold Blk at h h'
  rw [h] at h'
  simpa using h'
theorem RowMove.of {w w' : World} {r B n c g : Nat} {vNew : Value} (h0 : Blk w r #[.int .i64 B, .slice (some ⟨g, 0, none⟩) n c] 158) (h1 : Blk w' r #[.int .i64 B, vNew] 158) (hq : ∀ q, vNew.ownBlock = some q → q = g ∨ w.heap.size ≤ q) : RowMove w w' r B := by
  intro v v' hv hv' q hq'
  obtain rfl := slot_eq h0 hv
  obtain rfl := slot_eq h1 hv'
  rcases hq q hq' with rfl | h
  · exact .inl rfl
  · exact .inr h
theorem RowMove.below {w w' : World} {r B : Nat} {l : List Sd} (h : RowAt w r B l) (b : Below w.heap.size w w') : RowMove w w' r B := by
  intro v v' hv hv' q hq'
  obtain ⟨v0, h1, _⟩ := h
  obtain rfl := slot_eq h1 hv
  obtain rfl := slot_eq (h1.below b h1.lt) hv'
  exact .inl hq'
set_option maxHeartbeats 4000000 in
set_option maxRecDepth 100000 in
theorem Take2_calls (r B : Nat) (p : Int) (l : List Sd) (w : World) (h : RowAt w r B l) (hB : B ≤ 32) (hok : RowOk B l) (hp1 : -9223372036854775808 ≤ p) (hp2 : p ≤ 9223372036854775807) :
    Calls Tryz.prog 21 #[.pointer (some ⟨r, 0, none⟩), .pointer none, .int .i64 p] w fun e w' => e = .returned (.tuple #[.agg ((lookT B p l).1.map bv).toArray, .int .i64 (lookT B p l).2]) ∧ RowAt w' r B (takeT B p l) ∧ w.grownBy w' (some r) ∧ RowMove w w' r B := by
  have hpow : (2 ^ B : Nat) ≤ 2 ^ 32 := Nat.pow_le_pow_right (by omega) hB
  have hZ0 := Blk.new w Z32 23
  have hb0 := below_alloc1 w (.cells Z32 23)
  have HR := Lib.hid (h.below hb0)
  have HW := Lib.hid h
  have hlv : ∀ s ∈ l, s.lv ≤ B := fun s hs => (hok.1 s hs).1
  clear h
  by_cases hw : withinT B p = true
  · have hw2 : 0 ≤ p ∧ p < ((2 ^ B : Nat) : Int) := by simpa [withinT] using hw
    obtain ⟨q, rfl⟩ : ∃ q : Nat, p = q := ⟨p.toNat, by omega⟩
    have hq : q < 4294967296 := by omega
    have hqt : (q : Int).toNat = q := rfl
    cases hf : findT B q l with
    | none =>
      have hlk : lookT B q l = (zh32, 10) := by rw [lookT, if_pos hw, hqt, hf]
      have HLK := Lib.hid hlk
      have HTK : Hid (takeT B q l = l) := by show _ = _; rw [takeT, if_pos hw, hqt, hf]
      clear hlk
      go_enter Tryz.func21, Tryz.ntmps21
      go_wp2_with fail
      generalize w.alloc (.cells Z32 23) = W0 at hZ0 hb0 HR ⊢
      refine (within_calls r B l _ _ HR.out hB (by omega) (by omega)).mono ?_
      rintro e w1 ⟨rfl, b1⟩
      rw [hw]
      have hR1 := Lib.hid (HR.out.below b1)
      have hZ1 := hZ0.below b1 hZ0.lt
      have hb1 := hb0.trans (b1.mono hb0.size)
      clear b1 hZ0 hb0 HR
      go_wp2_with fail
      refine (find_calls r B q l _ hR1.out hB hlv hok.2 hq).mono ?_
      rintro e w2 ⟨rfl, b2⟩
      rw [hf]
      have hZ2 := hZ1.below b2 hZ1.lt
      have hb2 := hb1.trans (b2.mono hb1.size)
      clear b2 hZ1 hb1 hR1
      go_wp2_with (first | ((with_reducible show wpList _ _ _ (⟨some 16, _, _, _, _, _⟩ :: _) _ _); refine wpList_buildCells rfl 23 #[] rfl Z32 (by kernel_rfl) ?_) | ((with_reducible show wpList _ _ _ (⟨some 25, _, _, _, _, _⟩ :: _) _ _); refine wpList_buildCells rfl 23 #[] rfl Z32 (by kernel_rfl) ?_) | ((with_reducible show wpList _ _ _ (⟨none, Op.store _ (.tmp 6) _, _, _, _, _⟩ :: _) _ _); refine wpList_storeBlk rfl 23 (.tmp 6) _ rfl w.heap.size Z32 (by rfl) (by rfl) _ _ hZ2 Tryz.sizeHash rfl Z32_all ?_; intro wz hZz gz))
      refine ret_blk2 rfl w.heap.size _ _ _ (by rfl) hZz Tryz.underlying23 rfl Tryz.sizeHash rfl ?_
      rw [HLK.out]
      have hfin := hb2.trans (grown_below gz (Nat.le_refl _) hb2.size)
      rw [HTK.out]
      exact ⟨rfl, HW.out.below hfin, below_grown hfin _, RowMove.below HW.out hfin⟩
    | some i =>
      obtain ⟨s, hs⟩ := findT_lt hf
      have hsm := hok.1 s (List.mem_of_getElem? hs)
      have hilt : i < l.length := (List.getElem?_eq_some_iff.1 hs).1
      have hi6 : i < 1000000 := by have := hok.2; omega
      obtain ⟨R, hRR⟩ : ∃ R, R = (stK B q s (B - s.lv)).2.1 ++ (stK B q s (B - s.lv)).2.2.reverse := ⟨_, rfl⟩
      have hRl : R.length ≤ 100 := by have := stK_len B q s (B - s.lv); rw [hRR, List.length_append, List.length_reverse]; omega
      have hR32 : Hid (∀ t ∈ R, t.h.length = 32) := by
        obtain ⟨v9, _, h9⟩ := HW.out
        obtain ⟨_, h2, h3⟩ := stK_h B q s (h9.1 s (List.mem_of_getElem? hs)) (B - s.lv)
        intro t ht
        rw [hRR] at ht
        rcases List.mem_append.1 ht with h4 | h4
        · exact h2 t h4
        · exact h3 t (List.mem_reverse.1 h4)
      have HTK : Hid (takeT B q l = l.take i ++ R ++ l.drop (i + 1)) := by show _ = _; rw [takeT, if_pos hw, hqt, hf]; simp only [hs]; rw [hRR]
      obtain ⟨kk, hkk⟩ : ∃ k, k = keyT (stK B q s (B - s.lv)).1.h := ⟨_, rfl⟩
      have HKK : Hid (kk.length = 32) := by show _ = _; rw [hkk]; exact keyT_len _
      have hlk : lookT B q l = (kk, 0) := by rw [lookT, if_pos hw, hqt, hf]; simp only [hs]; rw [hkk]
      have c3 : ∀ y, RowAt y r B l → Calls Tryz.prog 70 #[.pointer (some ⟨r, 0, none⟩), .pointer none, .int .i64 i, .int .i64 q] y fun e w' => ∃ v, e = .returned (.tuple #[.agg (kk.map bv).toArray, v]) ∧ SeedsAt w' v R ∧ Below y.heap.size y w' := fun y hy => by
        rw [hkk, hRR]
        exact walk_calls r B q i l s y hy hs hB hsm.1 hsm.2 hq hi6
      have HLK := Lib.hid hlk
      clear hlk hkk hRR
      go_enter Tryz.func21, Tryz.ntmps21
      go_wp2_with fail
      generalize w.alloc (.cells Z32 23) = W0 at hZ0 hb0 HR ⊢
      refine (within_calls r B l _ _ HR.out hB (by omega) (by omega)).mono ?_
      rintro e w1 ⟨rfl, b1⟩
      rw [hw]
      have hR1 := Lib.hid (HR.out.below b1)
      have hZ1 := hZ0.below b1 hZ0.lt
      have hb1 := hb0.trans (b1.mono hb0.size)
      clear b1 hZ0 hb0 HR
      go_wp2_with fail
      refine (find_calls r B q l _ hR1.out hB hlv hok.2 hq).mono ?_
      rintro e w2 ⟨rfl, b2⟩
      rw [hf]
      have hR2 := Lib.hid (hR1.out.below b2)
      have hZ2 := hZ1.below b2 hZ1.lt
      have hb2 := hb1.trans (b2.mono hb1.size)
      clear b2 hZ1 hb1 hR1 hs hf
      go_wp2_with fail
      refine (c3 _ hR2.out).mono ?_
      rintro e w3 ⟨vb, rfl, hvb, b3⟩
      have hZ3 := (hZ2.below b3 hZ2.lt).alloc (.cells Z32 23)
      have hb3 := hb2.trans (b3.mono hb2.size)
      have hN := Blk.new w3 Z32 23
      have hb4 := hb3.alloc hb3.size (.cells Z32 23)
      have hs3 : w.heap.size < w3.heap.size := (hZ2.below b3 hZ2.lt).lt
      have hvlt : Hid (∀ q, vb.ownBlock = some q → q < w3.heap.size) := by
        intro q hq
        rcases hvb.2 with ⟨rfl, _⟩ | ⟨b, c, rfl, _, h4, _⟩
        · simp [Value.ownBlock] at hq
        · simp [Value.ownBlock] at hq; subst hq; exact h4
      have HVB := Lib.hid (hvb.below (below_alloc1 w3 (.cells Z32 23)))
      clear b3 hZ2 hb2 hR2 c3 hvb
      go_wp2_with ((with_reducible show wpList _ _ _ (⟨none, Op.store _ (.tmp 10) _, _, _, _, _⟩ :: _) _ _); refine wpList_storeBlk rfl 23 (.tmp 10) (.tmp 32) rfl w3.heap.size (kk.map bv).toArray (by rfl) (by rfl) _ _ hN (by rw [bv_size, HKK.out]; exact Tryz.sizeHash) (by rw [bv_size, HKK.out, Z32_size]) (bv_all _) ?_; intro w4 hK4 g4; have hZ4 := hZ3.grown g4 (by simp; omega); have hb5 := below_new hb4 g4 (by omega) hb4.size; have hvb4 := HVB.out.grown g4 (fun q hq e => by have := hvlt.out q hq; simp at e; omega); clear hN hZ3 hb4 g4 HVB)
      obtain ⟨v0, hrow0, hsd0⟩ := HW.out
      have hrow4 := hrow0.below hb5 hrow0.lt
      have hsd4 := hsd0.below hb5
      have hrw : r < w.heap.size := HW.out.lt
      obtain ⟨ao, c, rfl, hc⟩ := hsd4.slice
      obtain ⟨g0, rfl⟩ : ∃ g, ao = some ⟨g, 0, none⟩ := by
        rcases hsd4.2 with ⟨h3, h4⟩ | ⟨g, c', h3, h4, h5⟩
        · rw [h4] at hilt; simp at hilt
        · simp at h3; exact ⟨g, h3.1⟩
      have hg0w : g0 < w.heap.size := by
        rcases hsd0.2 with ⟨h3, h4⟩ | ⟨g, c', h3, h4, h5, _⟩
        · simp at h3
        · simp at h3; obtain ⟨rfl, _⟩ := h3; exact h5
      have hg0 : g0 < w4.heap.size := Nat.lt_of_lt_of_le hg0w hb5.size
      have hg0r : g0 ≠ r := by
        intro e
        subst e
        obtain ⟨s9, hs9⟩ : ∃ t, l[0]? = some t := ⟨l[0], List.getElem?_eq_getElem (by omega)⟩
        have h1 := hsd4.range 0 s9 hs9 1 (.int .i64 s9.pl) rfl
        have h2 := hrow4.cell 1 _ rfl
        simp at h1 h2
        rw [h1] at h2
        simp at h2
      have hl32 := Lib.hid hsd4.1
      obtain ⟨I1, hI1⟩ : ∃ I, I = i + 1 := ⟨_, rfl⟩
      obtain ⟨D, hD⟩ : ∃ D, D = l.drop (i + 1) := ⟨_, rfl⟩
      have hDl : D.length = l.length - I1 := by rw [hD, List.length_drop, hI1]
      have hDl2 : D.length ≤ l.length := by omega
      have hX : (l.take i).length = i := by rw [List.length_take]; omega
      have HX := Lib.hid hX
      have HD := Lib.hid hD
      have HI1 := Lib.hid hI1
      have HSD := Lib.hid hsd4
      have HVB4 := Lib.hid hvb4
      have hl6 := hok.2
      have hb00 : Below 0 w w4 := hb5.mono (Nat.zero_le _)
      have HROW0 := Lib.hid hrow0
      clear hD hX hsd4 hvb4 hsd0 hrow0
      go_wp2_with fail
      by_cases hcc : c = I1
      · obtain ⟨AD, hADe⟩ : ∃ A : Addr, A = ⟨g0, 0, none⟩ := ⟨_, rfl⟩
        obtain ⟨CC, hCC⟩ : ∃ C, C = 0 := ⟨_, rfl⟩
        have HAD : Hid (∀ W, SeedsAt W (.slice (some ⟨g0, 0, none⟩) l.length c) l → ∀ j u, (D.flatMap Sd.cells)[j]? = some u → W.cell? (AD.add j) = some u) := by
          intro W hW j u hj
          have h0 : D = [] := List.eq_nil_of_length_eq_zero (by omega)
          rw [h0] at hj
          simp at hj
        have HDL := Lib.hid hDl
        have HADE := Lib.hid hADe
        have HCC := Lib.hid hCC
        clear hDl hADe hCC
        refine wp_region_held_drew (S := fun x => Blk x (w3.heap.size) (kk.map bv).toArray 23 ∧ Blk x (w.heap.size) Z32 23 ∧ Below 0 w x) (by kernel_rfl) ⟨hK4.drew, hZ4.drew, below_drewN hb00 1⟩ (fun hSq1 => ?_)
        refine wpAnyH_take (i := 0) (v := .pointer (some ⟨r, 0, none⟩)) rfl (by kernel_rfl) (by kernel_rfl) (by kernel_rfl) (fun _ _ _ h => h) (Or.inl ⟨by rfl, fun x hx => by go_simp⟩) hSq1 ?_
        simp only [Act.put, List.getElem_toArray, List.getElem_cons_zero, List.getElem_cons_succ, List.setIfInBounds_toArray, List.set_cons_zero, List.set_cons_succ]
        refine wpAnyH_take (i := 1) (v := .pointer (some ⟨r, 0, none⟩)) rfl (by kernel_rfl) (by kernel_rfl) (by kernel_rfl) (fun _ _ _ h => h) (Or.inl ⟨by rfl, fun x hx => by go_simp⟩) hSq1 ?_
        simp only [Act.put, List.getElem_toArray, List.getElem_cons_zero, List.getElem_cons_succ, List.setIfInBounds_toArray, List.set_cons_zero, List.set_cons_succ]
        refine wpAnyH_take (i := 2) (v := .pointer (some ⟨r, 0, none⟩)) rfl (by kernel_rfl) (by kernel_rfl) (by kernel_rfl) (fun _ _ _ h => h) (Or.inl ⟨by rfl, fun x hx => by go_simp⟩) hSq1 ?_
        simp only [Act.put, List.getElem_toArray, List.getElem_cons_zero, List.getElem_cons_succ, List.setIfInBounds_toArray, List.set_cons_zero, List.set_cons_succ]
        refine wpAnyH_take (i := 3) (v := .pointer (some ⟨r, 1, none⟩)) rfl (by kernel_rfl) (by kernel_rfl) (by kernel_rfl) (fun _ _ _ h => h) (Or.inl ⟨by rfl, fun x hx => by go_simp⟩) hSq1 ?_
        simp only [Act.put, List.getElem_toArray, List.getElem_cons_zero, List.getElem_cons_succ, List.setIfInBounds_toArray, List.set_cons_zero, List.set_cons_succ]
        refine wpAnyH_take (i := 5) (v := .int .i64 i) rfl (by kernel_rfl) (by kernel_rfl) (by kernel_rfl) (fun _ _ _ h => h) (Or.inl ⟨by rfl, fun x hx => by go_simp⟩) hSq1 ?_
        simp only [Act.put, List.getElem_toArray, List.getElem_cons_zero, List.getElem_cons_succ, List.setIfInBounds_toArray, List.set_cons_zero, List.set_cons_succ]
        refine wpAnyH_take (i := 6) (v := .int .i64 i) rfl (by kernel_rfl) (by kernel_rfl) (by kernel_rfl) (fun _ _ _ h => h) (Or.inl ⟨by rfl, fun x hx => by go_simp⟩) hSq1 ?_
        simp only [Act.put, List.getElem_toArray, List.getElem_cons_zero, List.getElem_cons_succ, List.setIfInBounds_toArray, List.set_cons_zero, List.set_cons_succ]
        refine wpAnyH_take (i := 8) (v := vb) rfl (by kernel_rfl) (by kernel_rfl) (by kernel_rfl) (fun _ _ _ h => h) (Or.inl ⟨by rfl, fun x hx => by go_simp⟩) hSq1 ?_
        simp only [Act.put, List.getElem_toArray, List.getElem_cons_zero, List.getElem_cons_succ, List.setIfInBounds_toArray, List.set_cons_zero, List.set_cons_succ]
        refine wpAnyH_take (i := 10) (v := .pointer (some ⟨r, 0, none⟩)) rfl (by kernel_rfl) (by kernel_rfl) (by kernel_rfl) (fun _ _ _ h => h) (Or.inl ⟨by rfl, fun x hx => by go_simp⟩) hSq1 ?_
        simp only [Act.put, List.getElem_toArray, List.getElem_cons_zero, List.getElem_cons_succ, List.setIfInBounds_toArray, List.set_cons_zero, List.set_cons_succ]
        refine wpAnyH_take (i := 11) (v := .pointer (some ⟨r, 0, none⟩)) rfl (by kernel_rfl) (by kernel_rfl) (by kernel_rfl) (fun _ _ _ h => h) (Or.inl ⟨by rfl, fun x hx => by go_simp⟩) hSq1 ?_
        simp only [Act.put, List.getElem_toArray, List.getElem_cons_zero, List.getElem_cons_succ, List.setIfInBounds_toArray, List.set_cons_zero, List.set_cons_succ]
        refine wpAnyH_take (i := 12) (v := .pointer (some ⟨r, 1, none⟩)) rfl (by kernel_rfl) (by kernel_rfl) (by kernel_rfl) (fun _ _ _ h => h) (Or.inl ⟨by rfl, fun x hx => by go_simp⟩) hSq1 ?_
        simp only [Act.put, List.getElem_toArray, List.getElem_cons_zero, List.getElem_cons_succ, List.setIfInBounds_toArray, List.set_cons_zero, List.set_cons_succ]
        refine wpAnyH_take (i := 14) (v := .int .i64 i) rfl (by kernel_rfl) (by kernel_rfl) (by kernel_rfl) (fun _ _ _ h => h) (Or.inl ⟨by rfl, fun x hx => by go_simp⟩) hSq1 ?_
        simp only [Act.put, List.getElem_toArray, List.getElem_cons_zero, List.getElem_cons_succ, List.setIfInBounds_toArray, List.set_cons_zero, List.set_cons_succ]
        refine wpAnyH_take (i := 15) (v := .int .i64 (I1 : Nat)) rfl (by kernel_rfl) (by kernel_rfl) (by kernel_rfl) (fun _ _ _ h => h) (Or.inl ⟨by rfl, fun x hx => by have e := HI1.out; go_simp; rw [wrapI _ (by omega) (by omega)]; try omega⟩) hSq1 ?_
        simp only [Act.put, List.getElem_toArray, List.getElem_cons_zero, List.getElem_cons_succ, List.setIfInBounds_toArray, List.set_cons_zero, List.set_cons_succ]
        refine wpAnyH_ready (rs := [4, 13]) (by kernel_rfl) (by simp) ?_
        refine AllReadyH.cons rfl (fun K hK => ?_) ?_
        · have hc := (hrow4.drew).cell 1 _ rfl
          go_simp
          refine hK.out _ _ hSq1 (fun hSq2 => ?_)
          clear hK K hc
          try simp only [Act.put, List.getElem_toArray, List.getElem_cons_zero, List.getElem_cons_succ, List.setIfInBounds_toArray, List.set_cons_zero, List.set_cons_succ]
          refine wpAnyH_take (i := 7) (v := .slice (some ⟨g0, 0, none⟩) i i) rfl (by kernel_rfl) (by kernel_rfl) (by kernel_rfl) (fun _ _ _ h => h) (Or.inl ⟨by rfl, fun x hx => by go_simp; try (intro h; exfalso; omega)⟩) hSq2 ?_
          simp only [Act.put, List.getElem_toArray, List.getElem_cons_zero, List.getElem_cons_succ, List.setIfInBounds_toArray, List.set_cons_zero, List.set_cons_succ]
          refine wpAnyH_ready (rs := [9, 13]) (by kernel_rfl) (by simp) ?_
          refine AllReadyH.cons rfl (fun K hK => ?_) ?_
          · rw [if_pos (by rfl)]
            refine wp_append_cut1 (.tmp 41) (.tmp 42) rfl g0 i (l.take i) R vb (by rfl) (by rfl) HX.out (fun s hs => hl32.out s (List.mem_of_mem_take hs)) (seeds_take_cell (HSD.out.below (below_drewN (Below.refl _ _) 1)) i) (HVB4.out.below (below_drewN (Below.refl _ _) 1)) (by omega) ?_
            intro vq3 yq4 bq5 csq6
            refine hK.out _ _ ⟨hSq2.1.below bq5 hSq2.1.lt, hSq2.2.1.below bq5 hSq2.2.1.lt, hSq2.2.2.trans (bq5.mono (Nat.zero_le _))⟩ (fun hSq7 => ?_)
            clear hK K
            try simp only [Act.put, List.getElem_toArray, List.getElem_cons_zero, List.getElem_cons_succ, List.setIfInBounds_toArray, List.set_cons_zero, List.set_cons_succ]
            refine wpAnyH_ready (rs := [13]) (by kernel_rfl) (by simp) ?_
            refine AllReadyH.cons rfl (fun K hK => ?_) AllReadyH.nil
            have hc := (hrow4.drew.below bq5 hrow4.lt).cell 1 _ rfl
            go_simp
            refine hK.out _ _ hSq7 (fun hSq8 => ?_)
            clear hK K hc
            try simp only [Act.put, List.getElem_toArray, List.getElem_cons_zero, List.getElem_cons_succ, List.setIfInBounds_toArray, List.set_cons_zero, List.set_cons_succ]
            refine wpAnyH_take (i := 16) (v := .slice (some AD) D.length CC) rfl (by kernel_rfl) (by kernel_rfl) (by kernel_rfl) (fun _ _ _ h => h) (Or.inl ⟨by rfl, fun x hx => by have e := HDL.out; have e3 := HADE.out; have e4 := HCC.out; go_simp; first | (intro h; exfalso; have h2 := h (by omega); omega) | (rw [if_pos (by omega), if_neg (by omega)])⟩) hSq8 ?_
            simp only [Act.put, List.getElem_toArray, List.getElem_cons_zero, List.getElem_cons_succ, List.setIfInBounds_toArray, List.set_cons_zero, List.set_cons_succ]
            refine wpAnyH_ready (rs := [17]) (by kernel_rfl) (by simp) ?_
            refine AllReadyH.cons rfl (fun K hK => ?_) AllReadyH.nil
            rw [if_pos (by rfl)]
            refine wp_append_cut2 (w0 := World.drew w4) (.tmp 43) (.tmp 50) rfl g0 i (l.take i) (l.take i ++ R) D _ AD CC (by rfl) (by rfl) HX.out (fun s hs => hl32.out s (List.mem_of_mem_take hs)) (seeds_take_cell (HSD.out.below ((below_drewN (Below.refl _ _) 1).trans bq5)) i) (Nat.lt_of_lt_of_le hg0 bq5.size) csq6 (fun s hs => by rcases List.mem_append.1 hs with h4 | h4; exact hl32.out s (List.mem_of_mem_take h4); exact hR32.out s h4) (fun s hs => hl32.out s (by rw [HD.out] at hs; exact List.mem_of_mem_drop hs)) (HAD.out _ (HSD.out.below ((below_drewN (Below.refl _ _) 1).trans bq5))) (by omega) (by rw [List.length_append, HX.out]; omega) bq5 ?_
            intro vq9 yq10 bq11 sdq12 hqq13
            obtain ⟨aovq9, ccvq9, hvvq9, _⟩ := sdq12.slice
            generalize hNvq9 : (l.take i ++ R ++ D).length = Nvq9 at hvvq9
            subst hvvq9
            refine hK.out _ _ ⟨hK4.drew.below bq11 hK4.lt, hZ4.drew.below bq11 hZ4.lt, hb00.trans ((below_drewN (Below.refl _ _) 1).trans (bq11.mono (Nat.zero_le _)))⟩ (fun hSq14 => ?_)
            clear hK K
            try simp only [Act.put, List.getElem_toArray, List.getElem_cons_zero, List.getElem_cons_succ, List.setIfInBounds_toArray, List.set_cons_zero, List.set_cons_succ]
            refine wpAnyH_take (i := 18) (v := .pointer (some ⟨r, 0, none⟩)) rfl (by kernel_rfl) (by kernel_rfl) (by kernel_rfl) (fun _ _ _ h => h) (Or.inl ⟨by rfl, fun x hx => by go_simp⟩) hSq14 ?_
            simp only [Act.put, List.getElem_toArray, List.getElem_cons_zero, List.getElem_cons_succ, List.setIfInBounds_toArray, List.set_cons_zero, List.set_cons_succ]
            refine wpAnyH_take (i := 19) (v := .pointer (some ⟨r, 1, none⟩)) rfl (by kernel_rfl) (by kernel_rfl) (by kernel_rfl) (fun _ _ _ h => h) (Or.inl ⟨by rfl, fun x hx => by go_simp⟩) hSq14 ?_
            simp only [Act.put, List.getElem_toArray, List.getElem_cons_zero, List.getElem_cons_succ, List.setIfInBounds_toArray, List.set_cons_zero, List.set_cons_succ]
            refine wpAnyH_ready (rs := [20]) (by kernel_rfl) (by simp) ?_
            refine AllReadyH.cons rfl (fun K hK => ?_) AllReadyH.nil
            have hrw7 := hrow4.drew.below bq11 hrow4.lt
            have hc := hrw7.cell 1 _ rfl
            have hf := hrw7.free 1
            go_simp
            refine hK.out _ _ ⟨hSq14.1.setOther ⟨r, 1, none⟩ _ (by show w3.heap.size ≠ r; omega), hSq14.2.1.setOther ⟨r, 1, none⟩ _ (by show w.heap.size ≠ r; omega), hSq14.2.2.setCell (p := ⟨r, 1, none⟩) (Nat.zero_le _) _⟩ (fun hSq15 => ?_)
            clear hK K hc hf
            refine wpAnyH_done (by kernel_rfl) ?_ _
            have hK9 := hSq15.1
            have hZ9 := hSq15.2.1
            have hrow9 := hrw7.set 1 (.slice aovq9 Nvq9 ccvq9)
            have hsd9 : SeedsAt (yq10.setCell ⟨r, 1, none⟩ (.slice aovq9 Nvq9 ccvq9)) (.slice aovq9 Nvq9 ccvq9) (l.take i ++ R ++ D) := sdq12.grown (grown_set (World.grownBy.refl _ _) 1 _) (fun q hq9 e => by have := hqq13 q hq9; simp at e; subst e; rcases this with h4 | h4; exact hg0r h4.symm; (have : w4.heap.size ≤ q := h4; have := hb5.size; omega))
            have hgr9 : w.grownBy (yq10.setCell ⟨r, 1, none⟩ (.slice aovq9 Nvq9 ccvq9)) (some r) := grown_set (grown_trans (below_grown hb5 (some r)) (drew_grown (below_grown bq11 (some r)))) 1 _
            clear hSq15 hrw7
            generalize yq10.setCell ⟨r, 1, none⟩ (.slice aovq9 Nvq9 ccvq9) = W9 at hK9 hZ9 hrow9 hsd9 hgr9 ⊢
            go_wp2_with (first | ((with_reducible show wpList _ _ _ (⟨some 54, _, _, _, _, _⟩ :: _) _ _); refine wpList_loadBlk rfl 23 (.tmp 10) rfl w3.heap.size (by rfl) _ _ _ hK9 Tryz.underlying23 rfl (by rw [bv_size, HKK.out]; exact Tryz.sizeHash) ?_) | ((with_reducible show wpList _ _ _ (⟨none, Op.store _ (.tmp 6) _, _, _, _, _⟩ :: _) _ _); refine wpList_storeBlk rfl 23 (.tmp 6) (.tmp 54) rfl w.heap.size (kk.map bv).toArray (by rfl) (by rfl) _ _ hZ9 (by rw [bv_size, HKK.out]; exact Tryz.sizeHash) (by rw [bv_size, HKK.out, Z32_size]) (bv_all _) ?_; intro w5 hZ5 g5))
            refine ret_blk2 rfl w.heap.size _ _ _ (by rfl) hZ5 Tryz.underlying23 rfl (by rw [bv_size, HKK.out]; exact Tryz.sizeHash) rfl ?_
            rw [HLK.out, HTK.out, ← HD.out]
            refine ⟨rfl, ⟨(.slice aovq9 Nvq9 ccvq9), ?_, ?_⟩, grown_new hgr9 g5 (Nat.le_refl _), ?_⟩
            · exact hrow9.grown g5 (by simp; omega)
            · refine hsd9.grown g5 (fun q hq9 e => ?_)
              simp at e
              rcases hqq13 q hq9 with h4 | h4
              · omega
              · have h5 : w4.heap.size ≤ q := h4
                have := hb5.size
                have := hK4.lt
                omega
            · exact RowMove.of HROW0.out (hrow9.grown g5 (by simp; omega)) (fun q hq9 => (hqq13 q hq9).imp id (fun h4 => by have h5 : w4.heap.size ≤ q := h4; have := hb5.size; omega))
          refine AllReadyH.cons rfl (fun K hK => ?_) AllReadyH.nil
          have hc := (hrow4.drew).cell 1 _ rfl
          go_simp
          refine hK.out _ _ hSq2 (fun hSq16 => ?_)
          clear hK K hc
          try simp only [Act.put, List.getElem_toArray, List.getElem_cons_zero, List.getElem_cons_succ, List.setIfInBounds_toArray, List.set_cons_zero, List.set_cons_succ]
          refine wpAnyH_take (i := 16) (v := .slice (some AD) D.length CC) rfl (by kernel_rfl) (by kernel_rfl) (by kernel_rfl) (fun _ _ _ h => h) (Or.inl ⟨by rfl, fun x hx => by have e := HDL.out; have e3 := HADE.out; have e4 := HCC.out; go_simp; first | (intro h; exfalso; have h2 := h (by omega); omega) | (rw [if_pos (by omega), if_neg (by omega)])⟩) hSq16 ?_
          simp only [Act.put, List.getElem_toArray, List.getElem_cons_zero, List.getElem_cons_succ, List.setIfInBounds_toArray, List.set_cons_zero, List.set_cons_succ]
          refine wpAnyH_ready (rs := [9]) (by kernel_rfl) (by simp) ?_
          refine AllReadyH.cons rfl (fun K hK => ?_) AllReadyH.nil
          rw [if_pos (by rfl)]
          refine wp_append_cut1 (.tmp 41) (.tmp 42) rfl g0 i (l.take i) R vb (by rfl) (by rfl) HX.out (fun s hs => hl32.out s (List.mem_of_mem_take hs)) (seeds_take_cell (HSD.out.below (below_drewN (Below.refl _ _) 1)) i) (HVB4.out.below (below_drewN (Below.refl _ _) 1)) (by omega) ?_
          intro vq17 yq18 bq19 csq20
          refine hK.out _ _ ⟨hSq16.1.below bq19 hSq16.1.lt, hSq16.2.1.below bq19 hSq16.2.1.lt, hSq16.2.2.trans (bq19.mono (Nat.zero_le _))⟩ (fun hSq21 => ?_)
          clear hK K
          try simp only [Act.put, List.getElem_toArray, List.getElem_cons_zero, List.getElem_cons_succ, List.setIfInBounds_toArray, List.set_cons_zero, List.set_cons_succ]
          refine wpAnyH_ready (rs := [17]) (by kernel_rfl) (by simp) ?_
          refine AllReadyH.cons rfl (fun K hK => ?_) AllReadyH.nil
          rw [if_pos (by rfl)]
          refine wp_append_cut2 (w0 := World.drew w4) (.tmp 43) (.tmp 50) rfl g0 i (l.take i) (l.take i ++ R) D _ AD CC (by rfl) (by rfl) HX.out (fun s hs => hl32.out s (List.mem_of_mem_take hs)) (seeds_take_cell (HSD.out.below ((below_drewN (Below.refl _ _) 1).trans bq19)) i) (Nat.lt_of_lt_of_le hg0 bq19.size) csq20 (fun s hs => by rcases List.mem_append.1 hs with h4 | h4; exact hl32.out s (List.mem_of_mem_take h4); exact hR32.out s h4) (fun s hs => hl32.out s (by rw [HD.out] at hs; exact List.mem_of_mem_drop hs)) (HAD.out _ (HSD.out.below ((below_drewN (Below.refl _ _) 1).trans bq19))) (by omega) (by rw [List.length_append, HX.out]; omega) bq19 ?_
          intro vq22 yq23 bq24 sdq25 hqq26
          obtain ⟨aovq22, ccvq22, hvvq22, _⟩ := sdq25.slice
          generalize hNvq22 : (l.take i ++ R ++ D).length = Nvq22 at hvvq22
          subst hvvq22
          refine hK.out _ _ ⟨hK4.drew.below bq24 hK4.lt, hZ4.drew.below bq24 hZ4.lt, hb00.trans ((below_drewN (Below.refl _ _) 1).trans (bq24.mono (Nat.zero_le _)))⟩ (fun hSq27 => ?_)
          clear hK K
          try simp only [Act.put, List.getElem_toArray, List.getElem_cons_zero, List.getElem_cons_succ, List.setIfInBounds_toArray, List.set_cons_zero, List.set_cons_succ]
          refine wpAnyH_take (i := 18) (v := .pointer (some ⟨r, 0, none⟩)) rfl (by kernel_rfl) (by kernel_rfl) (by kernel_rfl) (fun _ _ _ h => h) (Or.inl ⟨by rfl, fun x hx => by go_simp⟩) hSq27 ?_
          simp only [Act.put, List.getElem_toArray, List.getElem_cons_zero, List.getElem_cons_succ, List.setIfInBounds_toArray, List.set_cons_zero, List.set_cons_succ]
          refine wpAnyH_take (i := 19) (v := .pointer (some ⟨r, 1, none⟩)) rfl (by kernel_rfl) (by kernel_rfl) (by kernel_rfl) (fun _ _ _ h => h) (Or.inl ⟨by rfl, fun x hx => by go_simp⟩) hSq27 ?_
          simp only [Act.put, List.getElem_toArray, List.getElem_cons_zero, List.getElem_cons_succ, List.setIfInBounds_toArray, List.set_cons_zero, List.set_cons_succ]
          refine wpAnyH_ready (rs := [20]) (by kernel_rfl) (by simp) ?_
          refine AllReadyH.cons rfl (fun K hK => ?_) AllReadyH.nil
          have hrw7 := hrow4.drew.below bq24 hrow4.lt
          have hc := hrw7.cell 1 _ rfl
          have hf := hrw7.free 1
          go_simp
          refine hK.out _ _ ⟨hSq27.1.setOther ⟨r, 1, none⟩ _ (by show w3.heap.size ≠ r; omega), hSq27.2.1.setOther ⟨r, 1, none⟩ _ (by show w.heap.size ≠ r; omega), hSq27.2.2.setCell (p := ⟨r, 1, none⟩) (Nat.zero_le _) _⟩ (fun hSq28 => ?_)
          clear hK K hc hf
          refine wpAnyH_done (by kernel_rfl) ?_ _
          have hK9 := hSq28.1
          have hZ9 := hSq28.2.1
          have hrow9 := hrw7.set 1 (.slice aovq22 Nvq22 ccvq22)
          have hsd9 : SeedsAt (yq23.setCell ⟨r, 1, none⟩ (.slice aovq22 Nvq22 ccvq22)) (.slice aovq22 Nvq22 ccvq22) (l.take i ++ R ++ D) := sdq25.grown (grown_set (World.grownBy.refl _ _) 1 _) (fun q hq9 e => by have := hqq26 q hq9; simp at e; subst e; rcases this with h4 | h4; exact hg0r h4.symm; (have : w4.heap.size ≤ q := h4; have := hb5.size; omega))
          have hgr9 : w.grownBy (yq23.setCell ⟨r, 1, none⟩ (.slice aovq22 Nvq22 ccvq22)) (some r) := grown_set (grown_trans (below_grown hb5 (some r)) (drew_grown (below_grown bq24 (some r)))) 1 _
          clear hSq28 hrw7
          generalize yq23.setCell ⟨r, 1, none⟩ (.slice aovq22 Nvq22 ccvq22) = W9 at hK9 hZ9 hrow9 hsd9 hgr9 ⊢
          go_wp2_with (first | ((with_reducible show wpList _ _ _ (⟨some 54, _, _, _, _, _⟩ :: _) _ _); refine wpList_loadBlk rfl 23 (.tmp 10) rfl w3.heap.size (by rfl) _ _ _ hK9 Tryz.underlying23 rfl (by rw [bv_size, HKK.out]; exact Tryz.sizeHash) ?_) | ((with_reducible show wpList _ _ _ (⟨none, Op.store _ (.tmp 6) _, _, _, _, _⟩ :: _) _ _); refine wpList_storeBlk rfl 23 (.tmp 6) (.tmp 54) rfl w.heap.size (kk.map bv).toArray (by rfl) (by rfl) _ _ hZ9 (by rw [bv_size, HKK.out]; exact Tryz.sizeHash) (by rw [bv_size, HKK.out, Z32_size]) (bv_all _) ?_; intro w5 hZ5 g5))
          refine ret_blk2 rfl w.heap.size _ _ _ (by rfl) hZ5 Tryz.underlying23 rfl (by rw [bv_size, HKK.out]; exact Tryz.sizeHash) rfl ?_
          rw [HLK.out, HTK.out, ← HD.out]
          refine ⟨rfl, ⟨(.slice aovq22 Nvq22 ccvq22), ?_, ?_⟩, grown_new hgr9 g5 (Nat.le_refl _), ?_⟩
          · exact hrow9.grown g5 (by simp; omega)
          · refine hsd9.grown g5 (fun q hq9 e => ?_)
            simp at e
            rcases hqq26 q hq9 with h4 | h4
            · omega
            · have h5 : w4.heap.size ≤ q := h4
              have := hb5.size
              have := hK4.lt
              omega
          · exact RowMove.of HROW0.out (hrow9.grown g5 (by simp; omega)) (fun q hq9 => (hqq26 q hq9).imp id (fun h4 => by have h5 : w4.heap.size ≤ q := h4; have := hb5.size; omega))
        refine AllReadyH.cons rfl (fun K hK => ?_) AllReadyH.nil
        have hc := (hrow4.drew).cell 1 _ rfl
        go_simp
        refine hK.out _ _ hSq1 (fun hSq29 => ?_)
        clear hK K hc
        try simp only [Act.put, List.getElem_toArray, List.getElem_cons_zero, List.getElem_cons_succ, List.setIfInBounds_toArray, List.set_cons_zero, List.set_cons_succ]
        refine wpAnyH_take (i := 16) (v := .slice (some AD) D.length CC) rfl (by kernel_rfl) (by kernel_rfl) (by kernel_rfl) (fun _ _ _ h => h) (Or.inl ⟨by rfl, fun x hx => by have e := HDL.out; have e3 := HADE.out; have e4 := HCC.out; go_simp; first | (intro h; exfalso; have h2 := h (by omega); omega) | (rw [if_pos (by omega), if_neg (by omega)])⟩) hSq29 ?_
        simp only [Act.put, List.getElem_toArray, List.getElem_cons_zero, List.getElem_cons_succ, List.setIfInBounds_toArray, List.set_cons_zero, List.set_cons_succ]
        refine wpAnyH_ready (rs := [4]) (by kernel_rfl) (by simp) ?_
        refine AllReadyH.cons rfl (fun K hK => ?_) AllReadyH.nil
        have hc := (hrow4.drew).cell 1 _ rfl
        go_simp
        refine hK.out _ _ hSq29 (fun hSq30 => ?_)
        clear hK K hc
        try simp only [Act.put, List.getElem_toArray, List.getElem_cons_zero, List.getElem_cons_succ, List.setIfInBounds_toArray, List.set_cons_zero, List.set_cons_succ]
        refine wpAnyH_take (i := 7) (v := .slice (some ⟨g0, 0, none⟩) i i) rfl (by kernel_rfl) (by kernel_rfl) (by kernel_rfl) (fun _ _ _ h => h) (Or.inl ⟨by rfl, fun x hx => by go_simp; try (intro h; exfalso; omega)⟩) hSq30 ?_
        simp only [Act.put, List.getElem_toArray, List.getElem_cons_zero, List.getElem_cons_succ, List.setIfInBounds_toArray, List.set_cons_zero, List.set_cons_succ]
        refine wpAnyH_ready (rs := [9]) (by kernel_rfl) (by simp) ?_
        refine AllReadyH.cons rfl (fun K hK => ?_) AllReadyH.nil
        rw [if_pos (by rfl)]
        refine wp_append_cut1 (.tmp 41) (.tmp 42) rfl g0 i (l.take i) R vb (by rfl) (by rfl) HX.out (fun s hs => hl32.out s (List.mem_of_mem_take hs)) (seeds_take_cell (HSD.out.below (below_drewN (Below.refl _ _) 1)) i) (HVB4.out.below (below_drewN (Below.refl _ _) 1)) (by omega) ?_
        intro vq31 yq32 bq33 csq34
        refine hK.out _ _ ⟨hSq30.1.below bq33 hSq30.1.lt, hSq30.2.1.below bq33 hSq30.2.1.lt, hSq30.2.2.trans (bq33.mono (Nat.zero_le _))⟩ (fun hSq35 => ?_)
        clear hK K
        try simp only [Act.put, List.getElem_toArray, List.getElem_cons_zero, List.getElem_cons_succ, List.setIfInBounds_toArray, List.set_cons_zero, List.set_cons_succ]
        refine wpAnyH_ready (rs := [17]) (by kernel_rfl) (by simp) ?_
        refine AllReadyH.cons rfl (fun K hK => ?_) AllReadyH.nil
        rw [if_pos (by rfl)]
        refine wp_append_cut2 (w0 := World.drew w4) (.tmp 43) (.tmp 50) rfl g0 i (l.take i) (l.take i ++ R) D _ AD CC (by rfl) (by rfl) HX.out (fun s hs => hl32.out s (List.mem_of_mem_take hs)) (seeds_take_cell (HSD.out.below ((below_drewN (Below.refl _ _) 1).trans bq33)) i) (Nat.lt_of_lt_of_le hg0 bq33.size) csq34 (fun s hs => by rcases List.mem_append.1 hs with h4 | h4; exact hl32.out s (List.mem_of_mem_take h4); exact hR32.out s h4) (fun s hs => hl32.out s (by rw [HD.out] at hs; exact List.mem_of_mem_drop hs)) (HAD.out _ (HSD.out.below ((below_drewN (Below.refl _ _) 1).trans bq33))) (by omega) (by rw [List.length_append, HX.out]; omega) bq33 ?_
        intro vq36 yq37 bq38 sdq39 hqq40
        obtain ⟨aovq36, ccvq36, hvvq36, _⟩ := sdq39.slice
        generalize hNvq36 : (l.take i ++ R ++ D).length = Nvq36 at hvvq36
        subst hvvq36
        refine hK.out _ _ ⟨hK4.drew.below bq38 hK4.lt, hZ4.drew.below bq38 hZ4.lt, hb00.trans ((below_drewN (Below.refl _ _) 1).trans (bq38.mono (Nat.zero_le _)))⟩ (fun hSq41 => ?_)
        clear hK K
        try simp only [Act.put, List.getElem_toArray, List.getElem_cons_zero, List.getElem_cons_succ, List.setIfInBounds_toArray, List.set_cons_zero, List.set_cons_succ]
        refine wpAnyH_take (i := 18) (v := .pointer (some ⟨r, 0, none⟩)) rfl (by kernel_rfl) (by kernel_rfl) (by kernel_rfl) (fun _ _ _ h => h) (Or.inl ⟨by rfl, fun x hx => by go_simp⟩) hSq41 ?_
        simp only [Act.put, List.getElem_toArray, List.getElem_cons_zero, List.getElem_cons_succ, List.setIfInBounds_toArray, List.set_cons_zero, List.set_cons_succ]
        refine wpAnyH_take (i := 19) (v := .pointer (some ⟨r, 1, none⟩)) rfl (by kernel_rfl) (by kernel_rfl) (by kernel_rfl) (fun _ _ _ h => h) (Or.inl ⟨by rfl, fun x hx => by go_simp⟩) hSq41 ?_
        simp only [Act.put, List.getElem_toArray, List.getElem_cons_zero, List.getElem_cons_succ, List.setIfInBounds_toArray, List.set_cons_zero, List.set_cons_succ]
        refine wpAnyH_ready (rs := [20]) (by kernel_rfl) (by simp) ?_
        refine AllReadyH.cons rfl (fun K hK => ?_) AllReadyH.nil
        have hrw7 := hrow4.drew.below bq38 hrow4.lt
        have hc := hrw7.cell 1 _ rfl
        have hf := hrw7.free 1
        go_simp
        refine hK.out _ _ ⟨hSq41.1.setOther ⟨r, 1, none⟩ _ (by show w3.heap.size ≠ r; omega), hSq41.2.1.setOther ⟨r, 1, none⟩ _ (by show w.heap.size ≠ r; omega), hSq41.2.2.setCell (p := ⟨r, 1, none⟩) (Nat.zero_le _) _⟩ (fun hSq42 => ?_)
        clear hK K hc hf
        refine wpAnyH_done (by kernel_rfl) ?_ _
        have hK9 := hSq42.1
        have hZ9 := hSq42.2.1
        have hrow9 := hrw7.set 1 (.slice aovq36 Nvq36 ccvq36)
        have hsd9 : SeedsAt (yq37.setCell ⟨r, 1, none⟩ (.slice aovq36 Nvq36 ccvq36)) (.slice aovq36 Nvq36 ccvq36) (l.take i ++ R ++ D) := sdq39.grown (grown_set (World.grownBy.refl _ _) 1 _) (fun q hq9 e => by have := hqq40 q hq9; simp at e; subst e; rcases this with h4 | h4; exact hg0r h4.symm; (have : w4.heap.size ≤ q := h4; have := hb5.size; omega))
        have hgr9 : w.grownBy (yq37.setCell ⟨r, 1, none⟩ (.slice aovq36 Nvq36 ccvq36)) (some r) := grown_set (grown_trans (below_grown hb5 (some r)) (drew_grown (below_grown bq38 (some r)))) 1 _
        clear hSq42 hrw7
        generalize yq37.setCell ⟨r, 1, none⟩ (.slice aovq36 Nvq36 ccvq36) = W9 at hK9 hZ9 hrow9 hsd9 hgr9 ⊢
        go_wp2_with (first | ((with_reducible show wpList _ _ _ (⟨some 54, _, _, _, _, _⟩ :: _) _ _); refine wpList_loadBlk rfl 23 (.tmp 10) rfl w3.heap.size (by rfl) _ _ _ hK9 Tryz.underlying23 rfl (by rw [bv_size, HKK.out]; exact Tryz.sizeHash) ?_) | ((with_reducible show wpList _ _ _ (⟨none, Op.store _ (.tmp 6) _, _, _, _, _⟩ :: _) _ _); refine wpList_storeBlk rfl 23 (.tmp 6) (.tmp 54) rfl w.heap.size (kk.map bv).toArray (by rfl) (by rfl) _ _ hZ9 (by rw [bv_size, HKK.out]; exact Tryz.sizeHash) (by rw [bv_size, HKK.out, Z32_size]) (bv_all _) ?_; intro w5 hZ5 g5))
        refine ret_blk2 rfl w.heap.size _ _ _ (by rfl) hZ5 Tryz.underlying23 rfl (by rw [bv_size, HKK.out]; exact Tryz.sizeHash) rfl ?_
        rw [HLK.out, HTK.out, ← HD.out]
        refine ⟨rfl, ⟨(.slice aovq36 Nvq36 ccvq36), ?_, ?_⟩, grown_new hgr9 g5 (Nat.le_refl _), ?_⟩
        · exact hrow9.grown g5 (by simp; omega)
        · refine hsd9.grown g5 (fun q hq9 e => ?_)
          simp at e
          rcases hqq40 q hq9 with h4 | h4
          · omega
          · have h5 : w4.heap.size ≤ q := h4
            have := hb5.size
            have := hK4.lt
            omega
        · exact RowMove.of HROW0.out (hrow9.grown g5 (by simp; omega)) (fun q hq9 => (hqq40 q hq9).imp id (fun h4 => by have h5 : w4.heap.size ≤ q := h4; have := hb5.size; omega))
      · obtain ⟨AD, hADe⟩ : ∃ A : Addr, A = ⟨g0, I1 * 34, none⟩ := ⟨_, rfl⟩
        obtain ⟨CC, hCC⟩ : ∃ C, C = c - I1 := ⟨_, rfl⟩
        have HAD : Hid (∀ W, SeedsAt W (.slice (some ⟨g0, 0, none⟩) l.length c) l → ∀ j u, (D.flatMap Sd.cells)[j]? = some u → W.cell? (AD.add j) = some u) := by
          intro W hW j u hj
          rw [hADe, Addr.add_lit, HI1.out]
          rw [HD.out] at hj
          exact seeds_drop_cell hW (i + 1) (by omega) j u hj
        have HDL := Lib.hid hDl
        have HADE := Lib.hid hADe
        have HCC := Lib.hid hCC
        clear hDl hADe hCC
        refine wp_region_held_drew (S := fun x => Blk x (w3.heap.size) (kk.map bv).toArray 23 ∧ Blk x (w.heap.size) Z32 23 ∧ Below 0 w x) (by kernel_rfl) ⟨hK4.drew, hZ4.drew, below_drewN hb00 1⟩ (fun hSq43 => ?_)
        refine wpAnyH_take (i := 0) (v := .pointer (some ⟨r, 0, none⟩)) rfl (by kernel_rfl) (by kernel_rfl) (by kernel_rfl) (fun _ _ _ h => h) (Or.inl ⟨by rfl, fun x hx => by go_simp⟩) hSq43 ?_
        simp only [Act.put, List.getElem_toArray, List.getElem_cons_zero, List.getElem_cons_succ, List.setIfInBounds_toArray, List.set_cons_zero, List.set_cons_succ]
        refine wpAnyH_take (i := 1) (v := .pointer (some ⟨r, 0, none⟩)) rfl (by kernel_rfl) (by kernel_rfl) (by kernel_rfl) (fun _ _ _ h => h) (Or.inl ⟨by rfl, fun x hx => by go_simp⟩) hSq43 ?_
        simp only [Act.put, List.getElem_toArray, List.getElem_cons_zero, List.getElem_cons_succ, List.setIfInBounds_toArray, List.set_cons_zero, List.set_cons_succ]
        refine wpAnyH_take (i := 2) (v := .pointer (some ⟨r, 0, none⟩)) rfl (by kernel_rfl) (by kernel_rfl) (by kernel_rfl) (fun _ _ _ h => h) (Or.inl ⟨by rfl, fun x hx => by go_simp⟩) hSq43 ?_
        simp only [Act.put, List.getElem_toArray, List.getElem_cons_zero, List.getElem_cons_succ, List.setIfInBounds_toArray, List.set_cons_zero, List.set_cons_succ]
        refine wpAnyH_take (i := 3) (v := .pointer (some ⟨r, 1, none⟩)) rfl (by kernel_rfl) (by kernel_rfl) (by kernel_rfl) (fun _ _ _ h => h) (Or.inl ⟨by rfl, fun x hx => by go_simp⟩) hSq43 ?_
        simp only [Act.put, List.getElem_toArray, List.getElem_cons_zero, List.getElem_cons_succ, List.setIfInBounds_toArray, List.set_cons_zero, List.set_cons_succ]
        refine wpAnyH_take (i := 5) (v := .int .i64 i) rfl (by kernel_rfl) (by kernel_rfl) (by kernel_rfl) (fun _ _ _ h => h) (Or.inl ⟨by rfl, fun x hx => by go_simp⟩) hSq43 ?_
        simp only [Act.put, List.getElem_toArray, List.getElem_cons_zero, List.getElem_cons_succ, List.setIfInBounds_toArray, List.set_cons_zero, List.set_cons_succ]
        refine wpAnyH_take (i := 6) (v := .int .i64 i) rfl (by kernel_rfl) (by kernel_rfl) (by kernel_rfl) (fun _ _ _ h => h) (Or.inl ⟨by rfl, fun x hx => by go_simp⟩) hSq43 ?_
        simp only [Act.put, List.getElem_toArray, List.getElem_cons_zero, List.getElem_cons_succ, List.setIfInBounds_toArray, List.set_cons_zero, List.set_cons_succ]
        refine wpAnyH_take (i := 8) (v := vb) rfl (by kernel_rfl) (by kernel_rfl) (by kernel_rfl) (fun _ _ _ h => h) (Or.inl ⟨by rfl, fun x hx => by go_simp⟩) hSq43 ?_
        simp only [Act.put, List.getElem_toArray, List.getElem_cons_zero, List.getElem_cons_succ, List.setIfInBounds_toArray, List.set_cons_zero, List.set_cons_succ]
        refine wpAnyH_take (i := 10) (v := .pointer (some ⟨r, 0, none⟩)) rfl (by kernel_rfl) (by kernel_rfl) (by kernel_rfl) (fun _ _ _ h => h) (Or.inl ⟨by rfl, fun x hx => by go_simp⟩) hSq43 ?_
        simp only [Act.put, List.getElem_toArray, List.getElem_cons_zero, List.getElem_cons_succ, List.setIfInBounds_toArray, List.set_cons_zero, List.set_cons_succ]
        refine wpAnyH_take (i := 11) (v := .pointer (some ⟨r, 0, none⟩)) rfl (by kernel_rfl) (by kernel_rfl) (by kernel_rfl) (fun _ _ _ h => h) (Or.inl ⟨by rfl, fun x hx => by go_simp⟩) hSq43 ?_
        simp only [Act.put, List.getElem_toArray, List.getElem_cons_zero, List.getElem_cons_succ, List.setIfInBounds_toArray, List.set_cons_zero, List.set_cons_succ]
        refine wpAnyH_take (i := 12) (v := .pointer (some ⟨r, 1, none⟩)) rfl (by kernel_rfl) (by kernel_rfl) (by kernel_rfl) (fun _ _ _ h => h) (Or.inl ⟨by rfl, fun x hx => by go_simp⟩) hSq43 ?_
        simp only [Act.put, List.getElem_toArray, List.getElem_cons_zero, List.getElem_cons_succ, List.setIfInBounds_toArray, List.set_cons_zero, List.set_cons_succ]
        refine wpAnyH_take (i := 14) (v := .int .i64 i) rfl (by kernel_rfl) (by kernel_rfl) (by kernel_rfl) (fun _ _ _ h => h) (Or.inl ⟨by rfl, fun x hx => by go_simp⟩) hSq43 ?_
        simp only [Act.put, List.getElem_toArray, List.getElem_cons_zero, List.getElem_cons_succ, List.setIfInBounds_toArray, List.set_cons_zero, List.set_cons_succ]
        refine wpAnyH_take (i := 15) (v := .int .i64 (I1 : Nat)) rfl (by kernel_rfl) (by kernel_rfl) (by kernel_rfl) (fun _ _ _ h => h) (Or.inl ⟨by rfl, fun x hx => by have e := HI1.out; go_simp; rw [wrapI _ (by omega) (by omega)]; try omega⟩) hSq43 ?_
        simp only [Act.put, List.getElem_toArray, List.getElem_cons_zero, List.getElem_cons_succ, List.setIfInBounds_toArray, List.set_cons_zero, List.set_cons_succ]
        refine wpAnyH_ready (rs := [4, 13]) (by kernel_rfl) (by simp) ?_
        refine AllReadyH.cons rfl (fun K hK => ?_) ?_
        · have hc := (hrow4.drew).cell 1 _ rfl
          go_simp
          refine hK.out _ _ hSq43 (fun hSq44 => ?_)
          clear hK K hc
          try simp only [Act.put, List.getElem_toArray, List.getElem_cons_zero, List.getElem_cons_succ, List.setIfInBounds_toArray, List.set_cons_zero, List.set_cons_succ]
          refine wpAnyH_take (i := 7) (v := .slice (some ⟨g0, 0, none⟩) i i) rfl (by kernel_rfl) (by kernel_rfl) (by kernel_rfl) (fun _ _ _ h => h) (Or.inl ⟨by rfl, fun x hx => by go_simp; try (intro h; exfalso; omega)⟩) hSq44 ?_
          simp only [Act.put, List.getElem_toArray, List.getElem_cons_zero, List.getElem_cons_succ, List.setIfInBounds_toArray, List.set_cons_zero, List.set_cons_succ]
          refine wpAnyH_ready (rs := [9, 13]) (by kernel_rfl) (by simp) ?_
          refine AllReadyH.cons rfl (fun K hK => ?_) ?_
          · rw [if_pos (by rfl)]
            refine wp_append_cut1 (.tmp 41) (.tmp 42) rfl g0 i (l.take i) R vb (by rfl) (by rfl) HX.out (fun s hs => hl32.out s (List.mem_of_mem_take hs)) (seeds_take_cell (HSD.out.below (below_drewN (Below.refl _ _) 1)) i) (HVB4.out.below (below_drewN (Below.refl _ _) 1)) (by omega) ?_
            intro vq45 yq46 bq47 csq48
            refine hK.out _ _ ⟨hSq44.1.below bq47 hSq44.1.lt, hSq44.2.1.below bq47 hSq44.2.1.lt, hSq44.2.2.trans (bq47.mono (Nat.zero_le _))⟩ (fun hSq49 => ?_)
            clear hK K
            try simp only [Act.put, List.getElem_toArray, List.getElem_cons_zero, List.getElem_cons_succ, List.setIfInBounds_toArray, List.set_cons_zero, List.set_cons_succ]
            refine wpAnyH_ready (rs := [13]) (by kernel_rfl) (by simp) ?_
            refine AllReadyH.cons rfl (fun K hK => ?_) AllReadyH.nil
            have hc := (hrow4.drew.below bq47 hrow4.lt).cell 1 _ rfl
            go_simp
            refine hK.out _ _ hSq49 (fun hSq50 => ?_)
            clear hK K hc
            try simp only [Act.put, List.getElem_toArray, List.getElem_cons_zero, List.getElem_cons_succ, List.setIfInBounds_toArray, List.set_cons_zero, List.set_cons_succ]
            refine wpAnyH_take (i := 16) (v := .slice (some AD) D.length CC) rfl (by kernel_rfl) (by kernel_rfl) (by kernel_rfl) (fun _ _ _ h => h) (Or.inl ⟨by rfl, fun x hx => by have e := HDL.out; have e3 := HADE.out; have e4 := HCC.out; go_simp; first | (intro h; exfalso; have h2 := h (by omega); omega) | (rw [if_pos (by omega), if_neg (by omega)])⟩) hSq50 ?_
            simp only [Act.put, List.getElem_toArray, List.getElem_cons_zero, List.getElem_cons_succ, List.setIfInBounds_toArray, List.set_cons_zero, List.set_cons_succ]
            refine wpAnyH_ready (rs := [17]) (by kernel_rfl) (by simp) ?_
            refine AllReadyH.cons rfl (fun K hK => ?_) AllReadyH.nil
            rw [if_pos (by rfl)]
            refine wp_append_cut2 (w0 := World.drew w4) (.tmp 43) (.tmp 50) rfl g0 i (l.take i) (l.take i ++ R) D _ AD CC (by rfl) (by rfl) HX.out (fun s hs => hl32.out s (List.mem_of_mem_take hs)) (seeds_take_cell (HSD.out.below ((below_drewN (Below.refl _ _) 1).trans bq47)) i) (Nat.lt_of_lt_of_le hg0 bq47.size) csq48 (fun s hs => by rcases List.mem_append.1 hs with h4 | h4; exact hl32.out s (List.mem_of_mem_take h4); exact hR32.out s h4) (fun s hs => hl32.out s (by rw [HD.out] at hs; exact List.mem_of_mem_drop hs)) (HAD.out _ (HSD.out.below ((below_drewN (Below.refl _ _) 1).trans bq47))) (by omega) (by rw [List.length_append, HX.out]; omega) bq47 ?_
            intro vq51 yq52 bq53 sdq54 hqq55
            obtain ⟨aovq51, ccvq51, hvvq51, _⟩ := sdq54.slice
            generalize hNvq51 : (l.take i ++ R ++ D).length = Nvq51 at hvvq51
            subst hvvq51
            refine hK.out _ _ ⟨hK4.drew.below bq53 hK4.lt, hZ4.drew.below bq53 hZ4.lt, hb00.trans ((below_drewN (Below.refl _ _) 1).trans (bq53.mono (Nat.zero_le _)))⟩ (fun hSq56 => ?_)
            clear hK K
            try simp only [Act.put, List.getElem_toArray, List.getElem_cons_zero, List.getElem_cons_succ, List.setIfInBounds_toArray, List.set_cons_zero, List.set_cons_succ]
            refine wpAnyH_take (i := 18) (v := .pointer (some ⟨r, 0, none⟩)) rfl (by kernel_rfl) (by kernel_rfl) (by kernel_rfl) (fun _ _ _ h => h) (Or.inl ⟨by rfl, fun x hx => by go_simp⟩) hSq56 ?_
            simp only [Act.put, List.getElem_toArray, List.getElem_cons_zero, List.getElem_cons_succ, List.setIfInBounds_toArray, List.set_cons_zero, List.set_cons_succ]
            refine wpAnyH_take (i := 19) (v := .pointer (some ⟨r, 1, none⟩)) rfl (by kernel_rfl) (by kernel_rfl) (by kernel_rfl) (fun _ _ _ h => h) (Or.inl ⟨by rfl, fun x hx => by go_simp⟩) hSq56 ?_
            simp only [Act.put, List.getElem_toArray, List.getElem_cons_zero, List.getElem_cons_succ, List.setIfInBounds_toArray, List.set_cons_zero, List.set_cons_succ]
            refine wpAnyH_ready (rs := [20]) (by kernel_rfl) (by simp) ?_
            refine AllReadyH.cons rfl (fun K hK => ?_) AllReadyH.nil
            have hrw7 := hrow4.drew.below bq53 hrow4.lt
            have hc := hrw7.cell 1 _ rfl
            have hf := hrw7.free 1
            go_simp
            refine hK.out _ _ ⟨hSq56.1.setOther ⟨r, 1, none⟩ _ (by show w3.heap.size ≠ r; omega), hSq56.2.1.setOther ⟨r, 1, none⟩ _ (by show w.heap.size ≠ r; omega), hSq56.2.2.setCell (p := ⟨r, 1, none⟩) (Nat.zero_le _) _⟩ (fun hSq57 => ?_)
            clear hK K hc hf
            refine wpAnyH_done (by kernel_rfl) ?_ _
            have hK9 := hSq57.1
            have hZ9 := hSq57.2.1
            have hrow9 := hrw7.set 1 (.slice aovq51 Nvq51 ccvq51)
            have hsd9 : SeedsAt (yq52.setCell ⟨r, 1, none⟩ (.slice aovq51 Nvq51 ccvq51)) (.slice aovq51 Nvq51 ccvq51) (l.take i ++ R ++ D) := sdq54.grown (grown_set (World.grownBy.refl _ _) 1 _) (fun q hq9 e => by have := hqq55 q hq9; simp at e; subst e; rcases this with h4 | h4; exact hg0r h4.symm; (have : w4.heap.size ≤ q := h4; have := hb5.size; omega))
            have hgr9 : w.grownBy (yq52.setCell ⟨r, 1, none⟩ (.slice aovq51 Nvq51 ccvq51)) (some r) := grown_set (grown_trans (below_grown hb5 (some r)) (drew_grown (below_grown bq53 (some r)))) 1 _
            clear hSq57 hrw7
            generalize yq52.setCell ⟨r, 1, none⟩ (.slice aovq51 Nvq51 ccvq51) = W9 at hK9 hZ9 hrow9 hsd9 hgr9 ⊢
            go_wp2_with (first | ((with_reducible show wpList _ _ _ (⟨some 54, _, _, _, _, _⟩ :: _) _ _); refine wpList_loadBlk rfl 23 (.tmp 10) rfl w3.heap.size (by rfl) _ _ _ hK9 Tryz.underlying23 rfl (by rw [bv_size, HKK.out]; exact Tryz.sizeHash) ?_) | ((with_reducible show wpList _ _ _ (⟨none, Op.store _ (.tmp 6) _, _, _, _, _⟩ :: _) _ _); refine wpList_storeBlk rfl 23 (.tmp 6) (.tmp 54) rfl w.heap.size (kk.map bv).toArray (by rfl) (by rfl) _ _ hZ9 (by rw [bv_size, HKK.out]; exact Tryz.sizeHash) (by rw [bv_size, HKK.out, Z32_size]) (bv_all _) ?_; intro w5 hZ5 g5))
            refine ret_blk2 rfl w.heap.size _ _ _ (by rfl) hZ5 Tryz.underlying23 rfl (by rw [bv_size, HKK.out]; exact Tryz.sizeHash) rfl ?_
            rw [HLK.out, HTK.out, ← HD.out]
            refine ⟨rfl, ⟨(.slice aovq51 Nvq51 ccvq51), ?_, ?_⟩, grown_new hgr9 g5 (Nat.le_refl _), ?_⟩
            · exact hrow9.grown g5 (by simp; omega)
            · refine hsd9.grown g5 (fun q hq9 e => ?_)
              simp at e
              rcases hqq55 q hq9 with h4 | h4
              · omega
              · have h5 : w4.heap.size ≤ q := h4
                have := hb5.size
                have := hK4.lt
                omega
            · exact RowMove.of HROW0.out (hrow9.grown g5 (by simp; omega)) (fun q hq9 => (hqq55 q hq9).imp id (fun h4 => by have h5 : w4.heap.size ≤ q := h4; have := hb5.size; omega))
          refine AllReadyH.cons rfl (fun K hK => ?_) AllReadyH.nil
          have hc := (hrow4.drew).cell 1 _ rfl
          go_simp
          refine hK.out _ _ hSq44 (fun hSq58 => ?_)
          clear hK K hc
          try simp only [Act.put, List.getElem_toArray, List.getElem_cons_zero, List.getElem_cons_succ, List.setIfInBounds_toArray, List.set_cons_zero, List.set_cons_succ]
          refine wpAnyH_take (i := 16) (v := .slice (some AD) D.length CC) rfl (by kernel_rfl) (by kernel_rfl) (by kernel_rfl) (fun _ _ _ h => h) (Or.inl ⟨by rfl, fun x hx => by have e := HDL.out; have e3 := HADE.out; have e4 := HCC.out; go_simp; first | (intro h; exfalso; have h2 := h (by omega); omega) | (rw [if_pos (by omega), if_neg (by omega)])⟩) hSq58 ?_
          simp only [Act.put, List.getElem_toArray, List.getElem_cons_zero, List.getElem_cons_succ, List.setIfInBounds_toArray, List.set_cons_zero, List.set_cons_succ]
          refine wpAnyH_ready (rs := [9]) (by kernel_rfl) (by simp) ?_
          refine AllReadyH.cons rfl (fun K hK => ?_) AllReadyH.nil
          rw [if_pos (by rfl)]
          refine wp_append_cut1 (.tmp 41) (.tmp 42) rfl g0 i (l.take i) R vb (by rfl) (by rfl) HX.out (fun s hs => hl32.out s (List.mem_of_mem_take hs)) (seeds_take_cell (HSD.out.below (below_drewN (Below.refl _ _) 1)) i) (HVB4.out.below (below_drewN (Below.refl _ _) 1)) (by omega) ?_
          intro vq59 yq60 bq61 csq62
          refine hK.out _ _ ⟨hSq58.1.below bq61 hSq58.1.lt, hSq58.2.1.below bq61 hSq58.2.1.lt, hSq58.2.2.trans (bq61.mono (Nat.zero_le _))⟩ (fun hSq63 => ?_)
          clear hK K
          try simp only [Act.put, List.getElem_toArray, List.getElem_cons_zero, List.getElem_cons_succ, List.setIfInBounds_toArray, List.set_cons_zero, List.set_cons_succ]
          refine wpAnyH_ready (rs := [17]) (by kernel_rfl) (by simp) ?_
          refine AllReadyH.cons rfl (fun K hK => ?_) AllReadyH.nil
          rw [if_pos (by rfl)]
          refine wp_append_cut2 (w0 := World.drew w4) (.tmp 43) (.tmp 50) rfl g0 i (l.take i) (l.take i ++ R) D _ AD CC (by rfl) (by rfl) HX.out (fun s hs => hl32.out s (List.mem_of_mem_take hs)) (seeds_take_cell (HSD.out.below ((below_drewN (Below.refl _ _) 1).trans bq61)) i) (Nat.lt_of_lt_of_le hg0 bq61.size) csq62 (fun s hs => by rcases List.mem_append.1 hs with h4 | h4; exact hl32.out s (List.mem_of_mem_take h4); exact hR32.out s h4) (fun s hs => hl32.out s (by rw [HD.out] at hs; exact List.mem_of_mem_drop hs)) (HAD.out _ (HSD.out.below ((below_drewN (Below.refl _ _) 1).trans bq61))) (by omega) (by rw [List.length_append, HX.out]; omega) bq61 ?_
          intro vq64 yq65 bq66 sdq67 hqq68
          obtain ⟨aovq64, ccvq64, hvvq64, _⟩ := sdq67.slice
          generalize hNvq64 : (l.take i ++ R ++ D).length = Nvq64 at hvvq64
          subst hvvq64
          refine hK.out _ _ ⟨hK4.drew.below bq66 hK4.lt, hZ4.drew.below bq66 hZ4.lt, hb00.trans ((below_drewN (Below.refl _ _) 1).trans (bq66.mono (Nat.zero_le _)))⟩ (fun hSq69 => ?_)
          clear hK K
          try simp only [Act.put, List.getElem_toArray, List.getElem_cons_zero, List.getElem_cons_succ, List.setIfInBounds_toArray, List.set_cons_zero, List.set_cons_succ]
          refine wpAnyH_take (i := 18) (v := .pointer (some ⟨r, 0, none⟩)) rfl (by kernel_rfl) (by kernel_rfl) (by kernel_rfl) (fun _ _ _ h => h) (Or.inl ⟨by rfl, fun x hx => by go_simp⟩) hSq69 ?_
          simp only [Act.put, List.getElem_toArray, List.getElem_cons_zero, List.getElem_cons_succ, List.setIfInBounds_toArray, List.set_cons_zero, List.set_cons_succ]
          refine wpAnyH_take (i := 19) (v := .pointer (some ⟨r, 1, none⟩)) rfl (by kernel_rfl) (by kernel_rfl) (by kernel_rfl) (fun _ _ _ h => h) (Or.inl ⟨by rfl, fun x hx => by go_simp⟩) hSq69 ?_
          simp only [Act.put, List.getElem_toArray, List.getElem_cons_zero, List.getElem_cons_succ, List.setIfInBounds_toArray, List.set_cons_zero, List.set_cons_succ]
          refine wpAnyH_ready (rs := [20]) (by kernel_rfl) (by simp) ?_
          refine AllReadyH.cons rfl (fun K hK => ?_) AllReadyH.nil
          have hrw7 := hrow4.drew.below bq66 hrow4.lt
          have hc := hrw7.cell 1 _ rfl
          have hf := hrw7.free 1
          go_simp
          refine hK.out _ _ ⟨hSq69.1.setOther ⟨r, 1, none⟩ _ (by show w3.heap.size ≠ r; omega), hSq69.2.1.setOther ⟨r, 1, none⟩ _ (by show w.heap.size ≠ r; omega), hSq69.2.2.setCell (p := ⟨r, 1, none⟩) (Nat.zero_le _) _⟩ (fun hSq70 => ?_)
          clear hK K hc hf
          refine wpAnyH_done (by kernel_rfl) ?_ _
          have hK9 := hSq70.1
          have hZ9 := hSq70.2.1
          have hrow9 := hrw7.set 1 (.slice aovq64 Nvq64 ccvq64)
          have hsd9 : SeedsAt (yq65.setCell ⟨r, 1, none⟩ (.slice aovq64 Nvq64 ccvq64)) (.slice aovq64 Nvq64 ccvq64) (l.take i ++ R ++ D) := sdq67.grown (grown_set (World.grownBy.refl _ _) 1 _) (fun q hq9 e => by have := hqq68 q hq9; simp at e; subst e; rcases this with h4 | h4; exact hg0r h4.symm; (have : w4.heap.size ≤ q := h4; have := hb5.size; omega))
          have hgr9 : w.grownBy (yq65.setCell ⟨r, 1, none⟩ (.slice aovq64 Nvq64 ccvq64)) (some r) := grown_set (grown_trans (below_grown hb5 (some r)) (drew_grown (below_grown bq66 (some r)))) 1 _
          clear hSq70 hrw7
          generalize yq65.setCell ⟨r, 1, none⟩ (.slice aovq64 Nvq64 ccvq64) = W9 at hK9 hZ9 hrow9 hsd9 hgr9 ⊢
          go_wp2_with (first | ((with_reducible show wpList _ _ _ (⟨some 54, _, _, _, _, _⟩ :: _) _ _); refine wpList_loadBlk rfl 23 (.tmp 10) rfl w3.heap.size (by rfl) _ _ _ hK9 Tryz.underlying23 rfl (by rw [bv_size, HKK.out]; exact Tryz.sizeHash) ?_) | ((with_reducible show wpList _ _ _ (⟨none, Op.store _ (.tmp 6) _, _, _, _, _⟩ :: _) _ _); refine wpList_storeBlk rfl 23 (.tmp 6) (.tmp 54) rfl w.heap.size (kk.map bv).toArray (by rfl) (by rfl) _ _ hZ9 (by rw [bv_size, HKK.out]; exact Tryz.sizeHash) (by rw [bv_size, HKK.out, Z32_size]) (bv_all _) ?_; intro w5 hZ5 g5))
          refine ret_blk2 rfl w.heap.size _ _ _ (by rfl) hZ5 Tryz.underlying23 rfl (by rw [bv_size, HKK.out]; exact Tryz.sizeHash) rfl ?_
          rw [HLK.out, HTK.out, ← HD.out]
          refine ⟨rfl, ⟨(.slice aovq64 Nvq64 ccvq64), ?_, ?_⟩, grown_new hgr9 g5 (Nat.le_refl _), ?_⟩
          · exact hrow9.grown g5 (by simp; omega)
          · refine hsd9.grown g5 (fun q hq9 e => ?_)
            simp at e
            rcases hqq68 q hq9 with h4 | h4
            · omega
            · have h5 : w4.heap.size ≤ q := h4
              have := hb5.size
              have := hK4.lt
              omega
          · exact RowMove.of HROW0.out (hrow9.grown g5 (by simp; omega)) (fun q hq9 => (hqq68 q hq9).imp id (fun h4 => by have h5 : w4.heap.size ≤ q := h4; have := hb5.size; omega))
        refine AllReadyH.cons rfl (fun K hK => ?_) AllReadyH.nil
        have hc := (hrow4.drew).cell 1 _ rfl
        go_simp
        refine hK.out _ _ hSq43 (fun hSq71 => ?_)
        clear hK K hc
        try simp only [Act.put, List.getElem_toArray, List.getElem_cons_zero, List.getElem_cons_succ, List.setIfInBounds_toArray, List.set_cons_zero, List.set_cons_succ]
        refine wpAnyH_take (i := 16) (v := .slice (some AD) D.length CC) rfl (by kernel_rfl) (by kernel_rfl) (by kernel_rfl) (fun _ _ _ h => h) (Or.inl ⟨by rfl, fun x hx => by have e := HDL.out; have e3 := HADE.out; have e4 := HCC.out; go_simp; first | (intro h; exfalso; have h2 := h (by omega); omega) | (rw [if_pos (by omega), if_neg (by omega)])⟩) hSq71 ?_
        simp only [Act.put, List.getElem_toArray, List.getElem_cons_zero, List.getElem_cons_succ, List.setIfInBounds_toArray, List.set_cons_zero, List.set_cons_succ]
        refine wpAnyH_ready (rs := [4]) (by kernel_rfl) (by simp) ?_
        refine AllReadyH.cons rfl (fun K hK => ?_) AllReadyH.nil
        have hc := (hrow4.drew).cell 1 _ rfl
        go_simp
        refine hK.out _ _ hSq71 (fun hSq72 => ?_)
        clear hK K hc
        try simp only [Act.put, List.getElem_toArray, List.getElem_cons_zero, List.getElem_cons_succ, List.setIfInBounds_toArray, List.set_cons_zero, List.set_cons_succ]
        refine wpAnyH_take (i := 7) (v := .slice (some ⟨g0, 0, none⟩) i i) rfl (by kernel_rfl) (by kernel_rfl) (by kernel_rfl) (fun _ _ _ h => h) (Or.inl ⟨by rfl, fun x hx => by go_simp; try (intro h; exfalso; omega)⟩) hSq72 ?_
        simp only [Act.put, List.getElem_toArray, List.getElem_cons_zero, List.getElem_cons_succ, List.setIfInBounds_toArray, List.set_cons_zero, List.set_cons_succ]
        refine wpAnyH_ready (rs := [9]) (by kernel_rfl) (by simp) ?_
        refine AllReadyH.cons rfl (fun K hK => ?_) AllReadyH.nil
        rw [if_pos (by rfl)]
        refine wp_append_cut1 (.tmp 41) (.tmp 42) rfl g0 i (l.take i) R vb (by rfl) (by rfl) HX.out (fun s hs => hl32.out s (List.mem_of_mem_take hs)) (seeds_take_cell (HSD.out.below (below_drewN (Below.refl _ _) 1)) i) (HVB4.out.below (below_drewN (Below.refl _ _) 1)) (by omega) ?_
        intro vq73 yq74 bq75 csq76
        refine hK.out _ _ ⟨hSq72.1.below bq75 hSq72.1.lt, hSq72.2.1.below bq75 hSq72.2.1.lt, hSq72.2.2.trans (bq75.mono (Nat.zero_le _))⟩ (fun hSq77 => ?_)
        clear hK K
        try simp only [Act.put, List.getElem_toArray, List.getElem_cons_zero, List.getElem_cons_succ, List.setIfInBounds_toArray, List.set_cons_zero, List.set_cons_succ]
        refine wpAnyH_ready (rs := [17]) (by kernel_rfl) (by simp) ?_
        refine AllReadyH.cons rfl (fun K hK => ?_) AllReadyH.nil
        rw [if_pos (by rfl)]
        refine wp_append_cut2 (w0 := World.drew w4) (.tmp 43) (.tmp 50) rfl g0 i (l.take i) (l.take i ++ R) D _ AD CC (by rfl) (by rfl) HX.out (fun s hs => hl32.out s (List.mem_of_mem_take hs)) (seeds_take_cell (HSD.out.below ((below_drewN (Below.refl _ _) 1).trans bq75)) i) (Nat.lt_of_lt_of_le hg0 bq75.size) csq76 (fun s hs => by rcases List.mem_append.1 hs with h4 | h4; exact hl32.out s (List.mem_of_mem_take h4); exact hR32.out s h4) (fun s hs => hl32.out s (by rw [HD.out] at hs; exact List.mem_of_mem_drop hs)) (HAD.out _ (HSD.out.below ((below_drewN (Below.refl _ _) 1).trans bq75))) (by omega) (by rw [List.length_append, HX.out]; omega) bq75 ?_
        intro vq78 yq79 bq80 sdq81 hqq82
        obtain ⟨aovq78, ccvq78, hvvq78, _⟩ := sdq81.slice
        generalize hNvq78 : (l.take i ++ R ++ D).length = Nvq78 at hvvq78
        subst hvvq78
        refine hK.out _ _ ⟨hK4.drew.below bq80 hK4.lt, hZ4.drew.below bq80 hZ4.lt, hb00.trans ((below_drewN (Below.refl _ _) 1).trans (bq80.mono (Nat.zero_le _)))⟩ (fun hSq83 => ?_)
        clear hK K
        try simp only [Act.put, List.getElem_toArray, List.getElem_cons_zero, List.getElem_cons_succ, List.setIfInBounds_toArray, List.set_cons_zero, List.set_cons_succ]
        refine wpAnyH_take (i := 18) (v := .pointer (some ⟨r, 0, none⟩)) rfl (by kernel_rfl) (by kernel_rfl) (by kernel_rfl) (fun _ _ _ h => h) (Or.inl ⟨by rfl, fun x hx => by go_simp⟩) hSq83 ?_
        simp only [Act.put, List.getElem_toArray, List.getElem_cons_zero, List.getElem_cons_succ, List.setIfInBounds_toArray, List.set_cons_zero, List.set_cons_succ]
        refine wpAnyH_take (i := 19) (v := .pointer (some ⟨r, 1, none⟩)) rfl (by kernel_rfl) (by kernel_rfl) (by kernel_rfl) (fun _ _ _ h => h) (Or.inl ⟨by rfl, fun x hx => by go_simp⟩) hSq83 ?_
        simp only [Act.put, List.getElem_toArray, List.getElem_cons_zero, List.getElem_cons_succ, List.setIfInBounds_toArray, List.set_cons_zero, List.set_cons_succ]
        refine wpAnyH_ready (rs := [20]) (by kernel_rfl) (by simp) ?_
        refine AllReadyH.cons rfl (fun K hK => ?_) AllReadyH.nil
        have hrw7 := hrow4.drew.below bq80 hrow4.lt
        have hc := hrw7.cell 1 _ rfl
        have hf := hrw7.free 1
        go_simp
        refine hK.out _ _ ⟨hSq83.1.setOther ⟨r, 1, none⟩ _ (by show w3.heap.size ≠ r; omega), hSq83.2.1.setOther ⟨r, 1, none⟩ _ (by show w.heap.size ≠ r; omega), hSq83.2.2.setCell (p := ⟨r, 1, none⟩) (Nat.zero_le _) _⟩ (fun hSq84 => ?_)
        clear hK K hc hf
        refine wpAnyH_done (by kernel_rfl) ?_ _
        have hK9 := hSq84.1
        have hZ9 := hSq84.2.1
        have hrow9 := hrw7.set 1 (.slice aovq78 Nvq78 ccvq78)
        have hsd9 : SeedsAt (yq79.setCell ⟨r, 1, none⟩ (.slice aovq78 Nvq78 ccvq78)) (.slice aovq78 Nvq78 ccvq78) (l.take i ++ R ++ D) := sdq81.grown (grown_set (World.grownBy.refl _ _) 1 _) (fun q hq9 e => by have := hqq82 q hq9; simp at e; subst e; rcases this with h4 | h4; exact hg0r h4.symm; (have : w4.heap.size ≤ q := h4; have := hb5.size; omega))
        have hgr9 : w.grownBy (yq79.setCell ⟨r, 1, none⟩ (.slice aovq78 Nvq78 ccvq78)) (some r) := grown_set (grown_trans (below_grown hb5 (some r)) (drew_grown (below_grown bq80 (some r)))) 1 _
        clear hSq84 hrw7
        generalize yq79.setCell ⟨r, 1, none⟩ (.slice aovq78 Nvq78 ccvq78) = W9 at hK9 hZ9 hrow9 hsd9 hgr9 ⊢
        go_wp2_with (first | ((with_reducible show wpList _ _ _ (⟨some 54, _, _, _, _, _⟩ :: _) _ _); refine wpList_loadBlk rfl 23 (.tmp 10) rfl w3.heap.size (by rfl) _ _ _ hK9 Tryz.underlying23 rfl (by rw [bv_size, HKK.out]; exact Tryz.sizeHash) ?_) | ((with_reducible show wpList _ _ _ (⟨none, Op.store _ (.tmp 6) _, _, _, _, _⟩ :: _) _ _); refine wpList_storeBlk rfl 23 (.tmp 6) (.tmp 54) rfl w.heap.size (kk.map bv).toArray (by rfl) (by rfl) _ _ hZ9 (by rw [bv_size, HKK.out]; exact Tryz.sizeHash) (by rw [bv_size, HKK.out, Z32_size]) (bv_all _) ?_; intro w5 hZ5 g5))
        refine ret_blk2 rfl w.heap.size _ _ _ (by rfl) hZ5 Tryz.underlying23 rfl (by rw [bv_size, HKK.out]; exact Tryz.sizeHash) rfl ?_
        rw [HLK.out, HTK.out, ← HD.out]
        refine ⟨rfl, ⟨(.slice aovq78 Nvq78 ccvq78), ?_, ?_⟩, grown_new hgr9 g5 (Nat.le_refl _), ?_⟩
        · exact hrow9.grown g5 (by simp; omega)
        · refine hsd9.grown g5 (fun q hq9 e => ?_)
          simp at e
          rcases hqq82 q hq9 with h4 | h4
          · omega
          · have h5 : w4.heap.size ≤ q := h4
            have := hb5.size
            have := hK4.lt
            omega
        · exact RowMove.of HROW0.out (hrow9.grown g5 (by simp; omega)) (fun q hq9 => (hqq82 q hq9).imp id (fun h4 => by have h5 : w4.heap.size ≤ q := h4; have := hb5.size; omega))
  · have hw2 : withinT B p = false := by simpa using hw
    have hlk : lookT B p l = (zh32, 1) := by rw [lookT, if_neg hw]
    have HLK := Lib.hid hlk
    have HTK : Hid (takeT B p l = l) := by show _ = _; rw [takeT, if_neg hw]
    clear hlk hw
    go_enter Tryz.func21, Tryz.ntmps21
    go_wp2_with fail
    generalize w.alloc (.cells Z32 23) = W0 at hZ0 hb0 HR ⊢
    refine (within_calls r B l _ _ HR.out hB hp1 hp2).mono ?_
    rintro e w1 ⟨rfl, b1⟩
    rw [hw2]
    have hZ1 := hZ0.below b1 hZ0.lt
    have hb1 := hb0.trans (b1.mono hb0.size)
    clear b1 hZ0 hb0 HR
    go_wp2_with (first | ((with_reducible show wpList _ _ _ (⟨some 16, _, _, _, _, _⟩ :: _) _ _); refine wpList_buildCells rfl 23 #[] rfl Z32 (by kernel_rfl) ?_) | ((with_reducible show wpList _ _ _ (⟨some 25, _, _, _, _, _⟩ :: _) _ _); refine wpList_buildCells rfl 23 #[] rfl Z32 (by kernel_rfl) ?_) | ((with_reducible show wpList _ _ _ (⟨none, Op.store _ (.tmp 6) _, _, _, _, _⟩ :: _) _ _); refine wpList_storeBlk rfl 23 (.tmp 6) _ rfl w.heap.size Z32 (by rfl) (by rfl) _ _ hZ1 Tryz.sizeHash rfl Z32_all ?_; intro wz hZz gz))
    refine ret_blk2 rfl w.heap.size _ _ _ (by rfl) hZz Tryz.underlying23 rfl Tryz.sizeHash rfl ?_
    rw [HLK.out]
    have hfin := hb1.trans (grown_below gz (Nat.le_refl _) hb1.size)
    rw [HTK.out]
    exact ⟨rfl, HW.out.below hfin, below_grown hfin _, RowMove.below HW.out hfin⟩
theorem Take_calls (r B : Nat) (p : Int) (l : List Sd) (w : World) (h : RowAt w r B l) (hB : B ≤ 32) (hok : RowOk B l) (hp1 : -9223372036854775808 ≤ p) (hp2 : p ≤ 9223372036854775807) :
    Calls Tryz.prog 21 #[.pointer (some ⟨r, 0, none⟩), .pointer none, .int .i64 p] w fun e w' => e = .returned (.tuple #[.agg ((lookT B p l).1.map bv).toArray, .int .i64 (lookT B p l).2]) ∧ RowAt w' r B (takeT B p l) ∧ w.grownBy w' (some r) :=
  (Take2_calls r B p l w h hB hok hp1 hp2).mono fun _ _ ⟨a, b, c, _⟩ => ⟨a, b, c⟩
end Go.Proofs.YtjlpdbaknhbgdaaGreat
