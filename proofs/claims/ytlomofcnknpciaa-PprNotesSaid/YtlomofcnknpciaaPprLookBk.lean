/-
  ppr: Look with a book or none.
-/
import Derived.Test.YtlomofcnknpciaaPprLook
import Derived.Test.YtlomofcnknpciaaPprWalkBk
set_option linter.unusedSimpArgs false
set_option linter.unusedVariables false
namespace Go.Proofs.Ytlomofcnknpciaa
open Go.RowKit

/-- What a look notes. -/
def lookF (B : Nat) (p : Int) (l : List Sd) : List FactT :=
  if withinT B p then match findT B p.toNat l with
    | none => []
    | some i => match l[i]? with
      | none => []
      | some s => walkF B p.toNat s
  else []
/-- A store into a block that was made just now. -/
theorem BkRun.mkstore {A : Nat → Prop} {o o' : Option BkSt} {w cur new : World} {B N : Nat} {ob : Obj} (h : BkRun A o o' w cur B N) (g : (cur.alloc ob).grownBy new (some cur.heap.size)) : BkRun A o o' w new B N := by
  obtain ⟨h1, h2, h3⟩ := ((BkRun.start (below_alloc1 cur ob) h.at_ h.le h.aw).store g (Nat.le_refl _) (by simp)).done
  exact h.call h1 h2 h3 rfl rfl
/-- A callee that has the book. -/
theorem BkRun.call_ {A : Nat → Prop} {o o' : Option BkSt} {w cur new : World} {B N : Nat} {l : List FactT} (h : BkRun A o o' w cur B N) (k : BkAt (wideA A w N) new B (bkNotes o' l)) (f : BkFrm (wideA A w N) o' cur new) (b : Below B cur new) : BkRun A o (bkNotes o' l) w new B N :=
  h.call k f b (bkMaps_notes _ _) (bkPtr_notes _ _)
set_option maxHeartbeats 4000000 in
set_option maxRecDepth 100000 in
theorem LookO_calls {A : Nat → Prop} (r B : Nat) (p : Int) (l : List Sd) (Bb : Nat) (o : Option BkSt) (pv : Value) (hpv : pv = bkPtr o) (w : World) (ho : BkAt A w Bb o) (hrm : BkRoom 33 o) (hBb : Bb ≤ w.heap.size) (hAw : ∀ q, A q → q < w.heap.size) (h : RowAt w r B l) (hB : B ≤ 32) (hok : RowOk B l) (hp1 : -9223372036854775808 ≤ p) (hp2 : p ≤ 9223372036854775807) :
    Calls Try.prog 49 #[.pointer (some ⟨r, 0, none⟩), pv, .int .i64 p] w fun e w' => e = .returned (.tuple #[.agg ((lookT B p l).1.map bv).toArray, .int .i64 (lookT B p l).2]) ∧ BkAt A w' Bb (bkNotes o (lookF B p l)) ∧ BkFrm A o w w' ∧ Below Bb w w' := by
  have hpow : (2 ^ B : Nat) ≤ 2 ^ 32 := Nat.pow_le_pow_right (by omega) hB
  have hZ0 := Blk.new w Z32 23
  have hb00 := below_alloc1 w (.cells Z32 23)
  have hb0 := BkRun.start hb00 ho hBb hAw
  rw [show (w.alloc (.cells Z32 23)).heap.size = w.heap.size + 1 by simp] at hb0
  have HR := Lib.hid (h.below hb00)
  have HPV := Lib.hid hpv
  have HRM := Lib.hid hrm
  clear hb00 hpv hrm ho
  have hlv : ∀ s ∈ l, s.lv ≤ B := fun s hs => (hok.1 s hs).1
  clear h
  by_cases hw : withinT B p = true
  · have hw2 : 0 ≤ p ∧ p < ((2 ^ B : Nat) : Int) := by simpa [withinT] using hw
    obtain ⟨q, rfl⟩ : ∃ q : Nat, p = q := ⟨p.toNat, by omega⟩
    have hq : q < 4294967296 := by omega
    have hqt : (q : Int).toNat = q := rfl
    cases hf : findT B q l with
    | none =>
      have hlk : lookT B q l = (zh32, 10) := by rw [lookT, if_pos hw, hqt, hf]
      have HLF : Hid (lookF B q l = []) := by show _ = _; rw [lookF, if_pos hw, hqt, hf]
      have HLK := Lib.hid hlk
      clear hlk
      go_enter Try.func49, Try.ntmps49
      go_wp2_with fail
      generalize w.alloc (.cells Z32 23) = W0 at hZ0 hb0 HR ⊢
      refine (within_calls r B l _ _ HR.out hB (by omega) (by omega)).mono ?_
      rintro e w1 ⟨rfl, b1⟩
      rw [hw]
      have hR1 := Lib.hid (HR.out.below b1)
      have hZ1 := hZ0.below b1 hZ0.lt
      have hb1 := hb0.below b1
      clear b1 hZ0 hb0 HR
      go_wp2_with fail
      refine (find_calls r B q l _ hR1.out hB hlv hok.2 hq).mono ?_
      rintro e w2 ⟨rfl, b2⟩
      rw [hf]
      have hZ2 := hZ1.below b2 hZ1.lt
      have hb2 := hb1.below b2
      clear b2 hZ1 hb1 hR1
      go_wp2_with (first | ((with_reducible show wpList _ _ _ (⟨some 16, _, _, _, _, _⟩ :: _) _ _); refine wpList_buildCells rfl 23 #[] rfl Z32 (by kernel_rfl) ?_) | ((with_reducible show wpList _ _ _ (⟨some 25, _, _, _, _, _⟩ :: _) _ _); refine wpList_buildCells rfl 23 #[] rfl Z32 (by kernel_rfl) ?_) | ((with_reducible show wpList _ _ _ (⟨none, Op.store _ (.tmp 6) _, _, _, _, _⟩ :: _) _ _); refine wpList_storeBlk rfl 23 (.tmp 6) _ rfl w.heap.size Z32 (by rfl) (by rfl) _ _ hZ2 Try.sizeHash rfl Z32_all ?_; intro wz hZz gz))
      refine ret_blk2 rfl w.heap.size _ _ _ (by rfl) hZz Try.underlying23 rfl Try.sizeHash rfl ?_
      rw [HLK.out]
      have hlf : lookF B q l = [] := HLF.out
      rw [hlf]
      exact ⟨rfl, (hb2.store gz (Nat.le_refl _) (by omega)).done⟩
    | some i =>
      obtain ⟨s, hs⟩ := findT_lt hf
      have hsm := hok.1 s (List.mem_of_getElem? hs)
      have hilt : i < l.length := (List.getElem?_eq_some_iff.1 hs).1
      have hi6 : i < 1000000 := by have := hok.2; omega
      obtain ⟨kk, hkk⟩ : ∃ k, k = keyT (stK B q s (B - s.lv)).1.h := ⟨_, rfl⟩
      have HKK : Hid (kk.length = 32) := by show _ = _; rw [hkk]; exact keyT_len _
      have HLF : Hid (lookF B q l = walkF B q s) := by show _ = _; rw [lookF, if_pos hw, hqt, hf]; simp only [hs]
      have hlk : lookT B q l = (kk, 0) := by rw [lookT, if_pos hw, hqt, hf]; simp only [hs]; rw [hkk]
      have c3 : ∀ y, BkRun A o o w y Bb (w.heap.size + 1) → RowAt y r B l → Calls Try.prog 75 #[.pointer (some ⟨r, 0, none⟩), pv, .int .i64 i, .int .i64 q] y fun e w' => ∃ v, e = .returned (.tuple #[.agg (kk.map bv).toArray, v]) ∧ BkRun A o (bkNotes o (walkF B q s)) w w' Bb (w.heap.size + 1) ∧ BkFrm (wideA A w (w.heap.size + 1)) o y w' ∧ Below Bb y w' := fun y hy hr => by
        rw [hkk]
        exact (walkO_calls r B q i l s Bb o pv HPV.out y hy.at_ (HRM.out.less (by omega)) hy.le hy.aw hr hs hB hsm.1 hsm.2 hq hi6).mono fun e w' ⟨v, h1, _, h3, h4, h5⟩ => ⟨v, h1, hy.call_ h3 h4 h5, h4, h5⟩
      have HLK := Lib.hid hlk
      clear hlk hkk
      go_enter Try.func49, Try.ntmps49
      go_wp2_with fail
      generalize w.alloc (.cells Z32 23) = W0 at hZ0 hb0 HR ⊢
      refine (within_calls r B l _ _ HR.out hB (by omega) (by omega)).mono ?_
      rintro e w1 ⟨rfl, b1⟩
      rw [hw]
      have hR1 := Lib.hid (HR.out.below b1)
      have hZ1 := hZ0.below b1 hZ0.lt
      have hb1 := hb0.below b1
      clear b1 hZ0 hb0 HR
      go_wp2_with fail
      refine (find_calls r B q l _ hR1.out hB hlv hok.2 hq).mono ?_
      rintro e w2 ⟨rfl, b2⟩
      rw [hf]
      have hR2 := Lib.hid (hR1.out.below b2)
      have hZ2 := hZ1.below b2 hZ1.lt
      have hb2 := hb1.below b2
      clear b2 hZ1 hb1 hR1 hs hf
      go_wp2_with fail
      refine (c3 _ hb2 hR2.out).mono ?_
      rintro e w3 ⟨v, rfl, hb3, f3, b3⟩
      have hZ3' := hZ2.frm f3 (by unfold NT; decide)
      have hZ3 := hZ3'.alloc (.cells Z32 23)
      have hN := Blk.new w3 Z32 23
      have hs3 : w.heap.size < w3.heap.size := hZ3'.lt
      clear b3 f3 hZ3' hZ2 hb2 hR2 c3
      go_wp2_with (first | ((with_reducible show wpList _ _ _ (⟨none, Op.store _ (.tmp 10) _, _, _, _, _⟩ :: _) _ _); refine wpList_storeBlk rfl 23 (.tmp 10) (.tmp 32) rfl w3.heap.size (kk.map bv).toArray (by rfl) (by rfl) _ _ hN (by rw [bv_size, HKK.out]; exact Try.sizeHash) (by rw [bv_size, HKK.out, Z32_size]) (bv_all _) ?_; intro w4 hK4 g4; have hZ4 := hZ3.grown g4 (by simp; omega); have hb5 := hb3.mkstore g4; clear hN hZ3 hb3 g4) | ((with_reducible show wpList _ _ _ (⟨some 34, _, _, _, _, _⟩ :: _) _ _); refine wpList_loadBlk rfl 23 (.tmp 10) rfl w3.heap.size (by rfl) _ _ _ hK4 Try.underlying23 rfl (by rw [bv_size, HKK.out]; exact Try.sizeHash) ?_) | ((with_reducible show wpList _ _ _ (⟨none, Op.store _ (.tmp 6) _, _, _, _, _⟩ :: _) _ _); refine wpList_storeBlk rfl 23 (.tmp 6) (.tmp 34) rfl w.heap.size (kk.map bv).toArray (by rfl) (by rfl) _ _ hZ4 (by rw [bv_size, HKK.out]; exact Try.sizeHash) (by rw [bv_size, HKK.out, Z32_size]) (bv_all _) ?_; intro w5 hZ5 g5))
      refine ret_blk2 rfl w.heap.size _ _ _ (by rfl) hZ5 Try.underlying23 rfl (by rw [bv_size, HKK.out]; exact Try.sizeHash) rfl ?_
      rw [HLK.out]
      rw [HLF.out]
      exact ⟨rfl, (hb5.store g5 (Nat.le_refl _) (by omega)).done⟩
  · have hw2 : withinT B p = false := by simpa using hw
    have hlk : lookT B p l = (zh32, 1) := by rw [lookT, if_neg hw]
    have HLF : Hid (lookF B p l = []) := by show _ = _; rw [lookF, if_neg hw]
    have HLK := Lib.hid hlk
    clear hlk hw
    go_enter Try.func49, Try.ntmps49
    go_wp2_with fail
    generalize w.alloc (.cells Z32 23) = W0 at hZ0 hb0 HR ⊢
    refine (within_calls r B l _ _ HR.out hB hp1 hp2).mono ?_
    rintro e w1 ⟨rfl, b1⟩
    rw [hw2]
    have hZ1 := hZ0.below b1 hZ0.lt
    have hb1 := hb0.below b1
    clear b1 hZ0 hb0 HR
    go_wp2_with (first | ((with_reducible show wpList _ _ _ (⟨some 16, _, _, _, _, _⟩ :: _) _ _); refine wpList_buildCells rfl 23 #[] rfl Z32 (by kernel_rfl) ?_) | ((with_reducible show wpList _ _ _ (⟨some 25, _, _, _, _, _⟩ :: _) _ _); refine wpList_buildCells rfl 23 #[] rfl Z32 (by kernel_rfl) ?_) | ((with_reducible show wpList _ _ _ (⟨none, Op.store _ (.tmp 6) _, _, _, _, _⟩ :: _) _ _); refine wpList_storeBlk rfl 23 (.tmp 6) _ rfl w.heap.size Z32 (by rfl) (by rfl) _ _ hZ1 Try.sizeHash rfl Z32_all ?_; intro wz hZz gz))
    refine ret_blk2 rfl w.heap.size _ _ _ (by rfl) hZz Try.underlying23 rfl Try.sizeHash rfl ?_
    rw [HLK.out]
    have hlf : lookF B p l = [] := HLF.out
    rw [hlf]
    exact ⟨rfl, (hb1.store gz (Nat.le_refl _) (by omega)).done⟩
end Go.Proofs.Ytlomofcnknpciaa
