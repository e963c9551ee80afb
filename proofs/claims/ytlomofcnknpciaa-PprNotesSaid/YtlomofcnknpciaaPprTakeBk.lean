/-
  ppr: Take with a book or none.
-/
import Derived.Test.YtlomofcnknpciaaPprTake
import Derived.Test.YtlomofcnknpciaaPprLookBk
set_option linter.unusedSimpArgs false
set_option linter.unusedVariables false
namespace Go.Proofs.Ytlomofcnknpciaa
open Go.RowKit

/-- The row's blocks are none of the book's. -/
def RowIn (A : Nat → Prop) (w : World) (r B : Nat) : Prop := A r ∧ ∀ v, Blk w r #[.int .i64 B, v] 138 → ∀ q, v.ownBlock = some q → A q
/-- What a taking leaves as it was: all but the row's block and what the book writes. -/
structure TakeFrm (A : Nat → Prop) (o : Option BkSt) (Bb r : Nat) (w w' : World) : Prop where
  b0 : Below 0 w w'
  typ : ∀ q ob, q ≠ r → w.heap[q]? = some ob → (∀ cs t fz, ob = .cells cs t fz → ¬ NT t) → (∀ es c, ob = .map es c → ¬ bkMaps o q) → w'.heap[q]? = some ob
  own : ∀ q ob, q ≠ r → A q ∨ q < Bb → w.heap[q]? = some ob → w'.heap[q]? = some ob
theorem TakeFrm.ofBk {A : Nat → Prop} {o : Option BkSt} {Bb r : Nat} {w w' : World} (f : BkFrm A o w w') (b : Below Bb w w') : TakeFrm A o Bb r w w' :=
  ⟨b.mono (Nat.zero_le _), fun q ob _ h1 h2 h3 => f.1.2 q ob h1 h2 h3, fun q ob _ h h1 => h.elim (fun h => f.2 q ob h h1) (fun h => (b.block q h).trans h1)⟩
theorem TakeFrm.trans {A : Nat → Prop} {o : Option BkSt} {Bb r : Nat} {a b c : World} (h : TakeFrm A o Bb r a b) (g : TakeFrm A o Bb r b c) : TakeFrm A o Bb r a c :=
  ⟨h.b0.trans g.b0, fun q ob hq h1 h2 h3 => g.typ q ob hq (h.typ q ob hq h1 h2 h3) h2 h3, fun q ob hq ha h1 => g.own q ob hq ha (h.own q ob hq ha h1)⟩
theorem TakeFrm.size {A : Nat → Prop} {o : Option BkSt} {Bb r : Nat} {a b : World} (h : TakeFrm A o Bb r a b) : a.heap.size ≤ b.heap.size := h.b0.size
theorem TakeFrm.narrow {A A' : Nat → Prop} {o : Option BkSt} {Bb r : Nat} {a b : World} (h : TakeFrm A o Bb r a b) (hA : ∀ q, A' q → A q) : TakeFrm A' o Bb r a b :=
  ⟨h.b0, h.typ, fun q ob hq ha => h.own q ob hq (ha.imp (hA q) id)⟩
theorem SeedsAt.agr {A : Nat → Prop} {T : TypeId → Prop} {M : Nat → Prop} {w w' : World} {v : Value} {l : List Sd} (h : SeedsAt w v l) (f : Frm A T M w w') (hA : ∀ q, v.ownBlock = some q → A q) : SeedsAt w' v l := by
  refine ⟨h.1, ?_⟩
  rcases h.2 with h0 | ⟨g, c, rfl, hc, hg, hcell⟩
  · exact .inl h0
  · refine .inr ⟨g, c, rfl, hc, Nat.lt_of_lt_of_le hg f.size, fun j u hj => ?_⟩
    have h1 := hcell j u hj
    have h2 : w'.heap[g]? = w.heap[g]? := (f.2 g _ (hA g rfl) (Array.getElem?_eq_getElem hg)).trans (Array.getElem?_eq_getElem hg).symm
    simp only [World.cell?, h2] at h1 ⊢
    exact h1
theorem RowAt.agr {A : Nat → Prop} {M : Nat → Prop} {w w' : World} {r B : Nat} {l : List Sd} (h : RowAt w r B l) (hr : RowIn A w r B) (f : Frm A NT M w w') : RowAt w' r B l := by
  obtain ⟨v, h1, h2⟩ := h
  exact ⟨v, h1.agr f hr.1, h2.agr f (hr.2 v h1)⟩
theorem RowIn.agr {A A' : Nat → Prop} {T : TypeId → Prop} {M : Nat → Prop} {w w' : World} {r B : Nat} {l : List Sd} (h : RowAt w r B l) (hr : RowIn A w r B) (f : Frm A T M w w') (hA : ∀ q, A q → A' q) : RowIn A' w' r B := by
  obtain ⟨v, h1, h2⟩ := h
  refine ⟨hA _ hr.1, fun v' h3 q hq => ?_⟩
  obtain rfl := slot_eq (h1.agr f hr.1) h3
  exact hA q (hr.2 v h1 q hq)
theorem RowMove.agr {A : Nat → Prop} {T : TypeId → Prop} {M : Nat → Prop} {w w' : World} {r B : Nat} {l : List Sd} (h : RowAt w r B l) (hr : A r) (f : Frm A T M w w') : RowMove w w' r B := fun v v' h1 h2 q hq => by
  obtain rfl := slot_eq (h1.agr f hr) h2
  exact .inl hq
/-- An end that changes nothing. -/
theorem take_same {A : Nat → Prop} {o : Option BkSt} {w w' : World} {Bb N r B : Nat} {l : List Sd} (hk : BkRun A o o w w' Bb N) (h : RowAt w r B l) (hr : RowIn A w r B) :
    RowAt w' r B l ∧ TakeFrm A o Bb r w w' ∧ RowMove w w' r B ∧ ∃ A' : Nat → Prop, (∀ q, A q → A' q) ∧ (∀ q, A' q → A q ∨ w.heap.size ≤ q) ∧ (∀ q, A' q → q < w'.heap.size) ∧ BkAt A' w' Bb (bkNotes o []) ∧ RowIn A' w' r B := by
  obtain ⟨h1, h2, h3⟩ := hk.done
  exact ⟨h.agr hr h2, TakeFrm.ofBk h2 h3, RowMove.agr h hr.1 h2, A, fun _ h => h, fun _ h => .inl h, fun q hq => Nat.lt_of_lt_of_le (hk.hA q hq) hk.size, h1, hr.agr h h2 (fun _ h => h)⟩
theorem take_done {A : Nat → Prop} {o o' : Option BkSt} {w w4 y W9 w5 : World} {Bb r B g0 : Nat} {v : Value} {L : List Sd} {n0 c0 : Nat} (h0 : Blk w r #[.int .i64 B, .slice (some ⟨g0, 0, none⟩) n0 c0] 138)
    (hk : BkRun A o o' w w4 Bb (w.heap.size + 1)) (b : Below w4.heap.size w4 y) (hAr : A r) (hAg : A g0) (g9 : y.grownBy W9 (some r)) (g5 : W9.grownBy w5 (some w.heap.size))
    (hrow : Blk w5 r #[.int .i64 B, v] 138) (hsd : SeedsAt w5 v L) (hq : ∀ q, v.ownBlock = some q → q = g0 ∨ w4.heap.size ≤ q) :
    TakeFrm A o Bb r w w5 ∧ RowMove w w5 r B ∧ ∃ A' : Nat → Prop, (∀ q, A q → A' q) ∧ (∀ q, A' q → A q ∨ w.heap.size ≤ q) ∧ (∀ q, A' q → q < w5.heap.size) ∧ BkAt A' w5 Bb o' ∧ RowIn A' w5 r B := by
  have hsz : w4.heap.size ≤ w5.heap.size := Nat.le_trans b.size (Nat.le_trans g9.size g5.size)
  have hNw := hk.hN
  have go : ∀ q ob, q < w.heap.size → q ≠ r → w4.heap[q]? = some ob → w5.heap[q]? = some ob := fun q ob hlt hq h4 => by
    have h5 := (b.block q (Array.getElem?_eq_some_iff.1 h4).1).trans h4
    have h6 := (g9.block q (Array.getElem?_eq_some_iff.1 h5).1 (fun e => hq (Option.some.inj e))).trans h5
    exact (g5.block q (Array.getElem?_eq_some_iff.1 h6).1 (fun e => by have := Option.some.inj e; omega)).trans h6
  refine ⟨⟨?_, fun q ob hq h1 h2 h3 => go q ob (Array.getElem?_eq_some_iff.1 h1).1 hq (hk.frm.1.2 q ob h1 h2 h3), fun q ob hq ha h1 => go q ob (Array.getElem?_eq_some_iff.1 h1).1 hq (ha.elim (fun h => hk.frm.2 q ob h h1) (fun h => (hk.bel.block q h).trans h1))⟩, RowMove.of h0 hrow (fun q hq' => (hq q hq').imp id (fun e => Nat.le_trans hk.size e)), ?_⟩
  · exact (((hk.bel.mono (Nat.zero_le _)).trans (b.mono (Nat.zero_le _))).grown g9 (Nat.zero_le _) (fun q _ => Nat.zero_le _)).grown g5 (Nat.zero_le _) (fun q _ => Nat.zero_le _)
  · refine ⟨fun q => wideA A w (w.heap.size + 1) q ∨ (w4.heap.size ≤ q ∧ q < w5.heap.size), fun q h => .inl (.inl h), ?_, ?_, ?_, ?_⟩
    · rintro q ((h | h) | h)
      · exact .inl h
      · exact .inr h.1
      · exact .inr (Nat.le_trans hk.size h.1)
    · rintro q ((h | h) | h)
      · exact Nat.lt_of_lt_of_le (hk.hA q h) (Nat.le_trans hk.size hsz)
      · exact Nat.lt_of_lt_of_le h.2 (Nat.le_trans hNw hsz)
      · exact h.2
    · have h1 := (hk.at_.widen (A' := fun q => wideA A w (w.heap.size + 1) q ∨ (w4.heap.size ≤ q ∧ q < w5.heap.size)) (fun q h => h.imp id (fun h => h.1))).below b
      exact (h1.store (.inl (.inl hAr)) g9).store (.inl (.inr ⟨Nat.le_refl _, Nat.lt_succ_self _⟩)) g5
    · refine ⟨.inl (.inl hAr), fun v' h3 q hq' => ?_⟩
      obtain rfl := slot_eq hrow h3
      rcases hq q hq' with rfl | h4
      · exact .inl (.inl hAg)
      · refine .inr ⟨h4, ?_⟩
        rcases hsd.2 with ⟨rfl, _⟩ | ⟨g, c, rfl, _, h5, _⟩
        · simp [Value.ownBlock] at hq'
        · simp [Value.ownBlock] at hq'; subst hq'; exact h5
set_option maxHeartbeats 4000000 in
set_option maxRecDepth 100000 in
theorem TakeO_calls {A : Nat → Prop} (r B : Nat) (p : Int) (l : List Sd) (Bb : Nat) (o : Option BkSt) (pv : Value) (hpv : pv = bkPtr o) (w : World) (ho : BkAt A w Bb o) (hrm : BkRoom 33 o) (hBb : Bb ≤ w.heap.size) (hAw : ∀ q, A q → q < w.heap.size) (h : RowAt w r B l) (hin : RowIn A w r B) (hB : B ≤ 32) (hok : RowOk B l) (hp1 : -9223372036854775808 ≤ p) (hp2 : p ≤ 9223372036854775807) :
    Calls Try.prog 19 #[.pointer (some ⟨r, 0, none⟩), pv, .int .i64 p] w fun e w' => e = .returned (.tuple #[.agg ((lookT B p l).1.map bv).toArray, .int .i64 (lookT B p l).2]) ∧ RowAt w' r B (takeT B p l) ∧ TakeFrm A o Bb r w w' ∧ RowMove w w' r B ∧ ∃ A' : Nat → Prop, (∀ q, A q → A' q) ∧ (∀ q, A' q → A q ∨ w.heap.size ≤ q) ∧ (∀ q, A' q → q < w'.heap.size) ∧ BkAt A' w' Bb (bkNotes o (lookF B p l)) ∧ RowIn A' w' r B := by
  have hpow : (2 ^ B : Nat) ≤ 2 ^ 32 := Nat.pow_le_pow_right (by omega) hB
  have hZ0 := Blk.new w Z32 23
  have hb00 := below_alloc1 w (.cells Z32 23)
  have hb0 := BkRun.start hb00 ho hBb hAw
  rw [show (w.alloc (.cells Z32 23)).heap.size = w.heap.size + 1 by simp] at hb0
  have HR := Lib.hid (h.below hb00)
  have HPV := Lib.hid hpv
  have HRM := Lib.hid hrm
  have HIN := Lib.hid hin
  clear hb00 hpv hrm ho hin
  have HW := Lib.hid h
  have hlv : ∀ s ∈ l, s.lv ≤ B := fun s hs => (hok.1 s hs).1
  clear h
  by_cases hw : withinT B p = true
  · have hw2 : 0 ≤ p ∧ p < ((2 ^ B : Nat) : Int) := by simpa [withinT] using hw
    obtain ⟨q, rfl⟩ : ∃ q : Nat, p = q := ⟨p.toNat, by omega⟩
    have hq : q < 4294967296 := by omega
    have hqt : (q : Int).toNat = q := rfl
    cases hf : findT B q l with
    | none =>
      have hlk : lookT B q l = (zh32, 10) := by rw [lookT, if_pos hw, hqt, hf]
      have HLK := Lib.hid hlk
      have HTK : Hid (takeT B q l = l) := by show _ = _; rw [takeT, if_pos hw, hqt, hf]
      have HLF : Hid (lookF B q l = []) := by show _ = _; rw [lookF, if_pos hw, hqt, hf]
      clear hlk
      go_enter Try.func19, Try.ntmps19
      go_wp2_with fail
      generalize w.alloc (.cells Z32 23) = W0 at hZ0 hb0 HR ⊢
      refine (within_calls r B l _ _ HR.out hB (by omega) (by omega)).mono ?_
      rintro e w1 ⟨rfl, b1⟩
      rw [hw]
      have hR1 := Lib.hid (HR.out.below b1)
      have hZ1 := hZ0.below b1 hZ0.lt
      have hb1 := hb0.below b1
      clear b1 hZ0 hb0 HR
      go_wp2_with fail
      refine (find_calls r B q l _ hR1.out hB hlv hok.2 hq).mono ?_
      rintro e w2 ⟨rfl, b2⟩
      rw [hf]
      have hZ2 := hZ1.below b2 hZ1.lt
      have hb2 := hb1.below b2
      clear b2 hZ1 hb1 hR1
      go_wp2_with (first | ((with_reducible show wpList _ _ _ (⟨some 16, _, _, _, _, _⟩ :: _) _ _); refine wpList_buildCells rfl 23 #[] rfl Z32 (by kernel_rfl) ?_) | ((with_reducible show wpList _ _ _ (⟨some 25, _, _, _, _, _⟩ :: _) _ _); refine wpList_buildCells rfl 23 #[] rfl Z32 (by kernel_rfl) ?_) | ((with_reducible show wpList _ _ _ (⟨none, Op.store _ (.tmp 6) _, _, _, _, _⟩ :: _) _ _); refine wpList_storeBlk rfl 23 (.tmp 6) _ rfl w.heap.size Z32 (by rfl) (by rfl) _ _ hZ2 Try.sizeHash rfl Z32_all ?_; intro wz hZz gz))
      refine ret_blk2 rfl w.heap.size _ _ _ (by rfl) hZz Try.underlying23 rfl Try.sizeHash rfl ?_
      rw [HLK.out]
      have hfin := hb2.store gz (Nat.le_refl _) (by omega)
      rw [HTK.out, HLF.out]
      exact ⟨rfl, take_same hfin HW.out HIN.out⟩
    | some i =>
      obtain ⟨s, hs⟩ := findT_lt hf
      have hsm := hok.1 s (List.mem_of_getElem? hs)
      have hilt : i < l.length := (List.getElem?_eq_some_iff.1 hs).1
      have hi6 : i < 1000000 := by have := hok.2; omega
      obtain ⟨R, hRR⟩ : ∃ R, R = (stK B q s (B - s.lv)).2.1 ++ (stK B q s (B - s.lv)).2.2.reverse := ⟨_, rfl⟩
      have hRl : R.length ≤ 100 := by have := stK_len B q s (B - s.lv); rw [hRR, List.length_append, List.length_reverse]; omega
      have hR32 : Hid (∀ t ∈ R, t.h.length = 32) := by
        obtain ⟨v9, _, h9⟩ := HW.out
        obtain ⟨_, h2, h3⟩ := stK_h B q s (h9.1 s (List.mem_of_getElem? hs)) (B - s.lv)
        intro t ht
        rw [hRR] at ht
        rcases List.mem_append.1 ht with h4 | h4
        · exact h2 t h4
        · exact h3 t (List.mem_reverse.1 h4)
      have HTK : Hid (takeT B q l = l.take i ++ R ++ l.drop (i + 1)) := by show _ = _; rw [takeT, if_pos hw, hqt, hf]; simp only [hs]; rw [hRR]
      have HLF : Hid (lookF B q l = walkF B q s) := by show _ = _; rw [lookF, if_pos hw, hqt, hf]; simp only [hs]
      obtain ⟨kk, hkk⟩ : ∃ k, k = keyT (stK B q s (B - s.lv)).1.h := ⟨_, rfl⟩
      have HKK : Hid (kk.length = 32) := by show _ = _; rw [hkk]; exact keyT_len _
      have hlk : lookT B q l = (kk, 0) := by rw [lookT, if_pos hw, hqt, hf]; simp only [hs]; rw [hkk]
      have c3 : ∀ y, BkRun A o o w y Bb (w.heap.size + 1) → RowAt y r B l → Calls Try.prog 75 #[.pointer (some ⟨r, 0, none⟩), pv, .int .i64 i, .int .i64 q] y fun e w' => ∃ v, e = .returned (.tuple #[.agg (kk.map bv).toArray, v]) ∧ SeedsAt w' v R ∧ BkRun A o (bkNotes o (walkF B q s)) w w' Bb (w.heap.size + 1) ∧ BkFrm (wideA A w (w.heap.size + 1)) o y w' ∧ Below Bb y w' := fun y hy hr => by
        rw [hkk, hRR]
        exact (walkO_calls r B q i l s Bb o pv HPV.out y hy.at_ (HRM.out.less (by omega)) hy.le hy.aw hr hs hB hsm.1 hsm.2 hq hi6).mono fun e w' ⟨v, h1, h2, h3, h4, h5⟩ => ⟨v, h1, h2, hy.call_ h3 h4 h5, h4, h5⟩
      have HLK := Lib.hid hlk
      clear hlk hkk hRR
      go_enter Try.func19, Try.ntmps19
      go_wp2_with fail
      generalize w.alloc (.cells Z32 23) = W0 at hZ0 hb0 HR ⊢
      refine (within_calls r B l _ _ HR.out hB (by omega) (by omega)).mono ?_
      rintro e w1 ⟨rfl, b1⟩
      rw [hw]
      have hR1 := Lib.hid (HR.out.below b1)
      have hZ1 := hZ0.below b1 hZ0.lt
      have hb1 := hb0.below b1
      clear b1 hZ0 hb0 HR
      go_wp2_with fail
      refine (find_calls r B q l _ hR1.out hB hlv hok.2 hq).mono ?_
      rintro e w2 ⟨rfl, b2⟩
      rw [hf]
      have hR2 := Lib.hid (hR1.out.below b2)
      have hZ2 := hZ1.below b2 hZ1.lt
      have hb2 := hb1.below b2
      clear b2 hZ1 hb1 hR1 hs hf
      go_wp2_with fail
      refine (c3 _ hb2 hR2.out).mono ?_
      rintro e w3 ⟨vb, rfl, hvb, hb3, f3, b3⟩
      have hZ3' := hZ2.frm f3 (by unfold NT; decide)
      have hZ3 := hZ3'.alloc (.cells Z32 23)
      have hN := Blk.new w3 Z32 23
      have hb4 := below_alloc1 w3 (.cells Z32 23)
      have hs3 : w.heap.size < w3.heap.size := hZ3'.lt
      have hvlt : Hid (∀ q, vb.ownBlock = some q → q < w3.heap.size) := by
        intro q hq
        rcases hvb.2 with ⟨rfl, _⟩ | ⟨b, c, rfl, _, h4, _⟩
        · simp [Value.ownBlock] at hq
        · simp [Value.ownBlock] at hq; subst hq; exact h4
      have HVB := Lib.hid (hvb.below (below_alloc1 w3 (.cells Z32 23)))
      clear b3 f3 hZ3' hZ2 hb2 hR2 c3 hvb
      go_wp2_with ((with_reducible show wpList _ _ _ (⟨none, Op.store _ (.tmp 10) _, _, _, _, _⟩ :: _) _ _); refine wpList_storeBlk rfl 23 (.tmp 10) (.tmp 32) rfl w3.heap.size (kk.map bv).toArray (by rfl) (by rfl) _ _ hN (by rw [bv_size, HKK.out]; exact Try.sizeHash) (by rw [bv_size, HKK.out, Z32_size]) (bv_all _) ?_; intro w4 hK4 g4; have hZ4 := hZ3.grown g4 (by simp; omega); have hb5 := below_new hb4 g4 (Nat.le_refl _) hb4.size; have hbk4 := hb3.mkstore g4; have hvb4 := HVB.out.grown g4 (fun q hq e => by have := hvlt.out q hq; simp at e; omega); clear hN hZ3 hb4 g4 HVB)
      obtain ⟨v0, hrow0, hsd0⟩ := HW.out
      have HAG := Lib.hid (HIN.out.2 _ hrow0)
      have hrow3 := hrow0.frm hb3.frm (by unfold NT; decide)
      have hsd3 := hsd0.agr hb3.frm HAG.out
      have hrow4 := hrow3.below hb5 hrow3.lt
      have hsd4 := hsd3.below hb5
      have hrw : r < w.heap.size := HW.out.lt
      obtain ⟨ao, c, rfl, hc⟩ := hsd4.slice
      obtain ⟨g0, rfl⟩ : ∃ g, ao = some ⟨g, 0, none⟩ := by
        rcases hsd4.2 with ⟨h3, h4⟩ | ⟨g, c', h3, h4, h5⟩
        · rw [h4] at hilt; simp at hilt
        · simp at h3; exact ⟨g, h3.1⟩
      have hg0w : g0 < w.heap.size := by
        rcases hsd0.2 with ⟨h3, h4⟩ | ⟨g, c', h3, h4, h5, _⟩
        · simp at h3
        · simp at h3; obtain ⟨rfl, _⟩ := h3; exact h5
      have hg0 : g0 < w4.heap.size := by have := hb5.size; omega
      have hg0r : g0 ≠ r := by
        intro e
        subst e
        obtain ⟨s9, hs9⟩ : ∃ t, l[0]? = some t := ⟨l[0], List.getElem?_eq_getElem (by omega)⟩
        have h1 := hsd4.range 0 s9 hs9 1 (.int .i64 s9.pl) rfl
        have h2 := hrow4.cell 1 _ rfl
        simp at h1 h2
        rw [h1] at h2
        simp at h2
      have hl32 := Lib.hid hsd4.1
      obtain ⟨I1, hI1⟩ : ∃ I, I = i + 1 := ⟨_, rfl⟩
      obtain ⟨D, hD⟩ : ∃ D, D = l.drop (i + 1) := ⟨_, rfl⟩
      have hDl : D.length = l.length - I1 := by rw [hD, List.length_drop, hI1]
      have hDl2 : D.length ≤ l.length := by omega
      have hX : (l.take i).length = i := by rw [List.length_take]; omega
      have HX := Lib.hid hX
      have HD := Lib.hid hD
      have HI1 := Lib.hid hI1
      have HSD := Lib.hid hsd4
      have HVB4 := Lib.hid hvb4
      have hl6 := hok.2
      have hb00 : Below 0 w w4 := hbk4.bel.mono (Nat.zero_le _)
      have HROW0 := Lib.hid hrow0
      have HAG0 : Hid (A g0) := HAG.out g0 rfl
      have HBK4 := Lib.hid hbk4
      have hsz35 := hb5.size
      clear hD hX hsd4 hvb4 hsd0 hrow0 hsd3 hrow3 hb3 HAG hbk4
      go_wp2_with fail
      by_cases hcc : c = I1
      · obtain ⟨AD, hADe⟩ : ∃ A : Addr, A = ⟨g0, 0, none⟩ := ⟨_, rfl⟩
        obtain ⟨CC, hCC⟩ : ∃ C, C = 0 := ⟨_, rfl⟩
        have HAD : Hid (∀ W, SeedsAt W (.slice (some ⟨g0, 0, none⟩) l.length c) l → ∀ j u, (D.flatMap Sd.cells)[j]? = some u → W.cell? (AD.add j) = some u) := by
          intro W hW j u hj
          have h0 : D = [] := List.eq_nil_of_length_eq_zero (by omega)
          rw [h0] at hj
          simp at hj
        have HDL := Lib.hid hDl
        have HADE := Lib.hid hADe
        have HCC := Lib.hid hCC
        clear hDl hADe hCC
        refine wp_region_held_drew (S := fun x => Blk x (w3.heap.size) (kk.map bv).toArray 23 ∧ Blk x (w.heap.size) Z32 23 ∧ Below 0 w x) (by kernel_rfl) ⟨hK4.drew, hZ4.drew, below_drewN hb00 1⟩ (fun hSq1 => ?_)
        refine wpAnyH_take (i := 0) (v := .pointer (some ⟨r, 0, none⟩)) rfl (by kernel_rfl) (by kernel_rfl) (by kernel_rfl) (fun _ _ _ h => h) (Or.inl ⟨by rfl, fun x hx => by go_simp⟩) hSq1 ?_
        simp only [Act.put, List.getElem_toArray, List.getElem_cons_zero, List.getElem_cons_succ, List.setIfInBounds_toArray, List.set_cons_zero, List.set_cons_succ]
        refine wpAnyH_take (i := 1) (v := .pointer (some ⟨r, 0, none⟩)) rfl (by kernel_rfl) (by kernel_rfl) (by kernel_rfl) (fun _ _ _ h => h) (Or.inl ⟨by rfl, fun x hx => by go_simp⟩) hSq1 ?_
        simp only [Act.put, List.getElem_toArray, List.getElem_cons_zero, List.getElem_cons_succ, List.setIfInBounds_toArray, List.set_cons_zero, List.set_cons_succ]
        refine wpAnyH_take (i := 2) (v := .pointer (some ⟨r, 0, none⟩)) rfl (by kernel_rfl) (by kernel_rfl) (by kernel_rfl) (fun _ _ _ h => h) (Or.inl ⟨by rfl, fun x hx => by go_simp⟩) hSq1 ?_
        simp only [Act.put, List.getElem_toArray, List.getElem_cons_zero, List.getElem_cons_succ, List.setIfInBounds_toArray, List.set_cons_zero, List.set_cons_succ]
        refine wpAnyH_take (i := 3) (v := .pointer (some ⟨r, 1, none⟩)) rfl (by kernel_rfl) (by kernel_rfl) (by kernel_rfl) (fun _ _ _ h => h) (Or.inl ⟨by rfl, fun x hx => by go_simp⟩) hSq1 ?_
        simp only [Act.put, List.getElem_toArray, List.getElem_cons_zero, List.getElem_cons_succ, List.setIfInBounds_toArray, List.set_cons_zero, List.set_cons_succ]
        refine wpAnyH_take (i := 5) (v := .int .i64 i) rfl (by kernel_rfl) (by kernel_rfl) (by kernel_rfl) (fun _ _ _ h => h) (Or.inl ⟨by rfl, fun x hx => by go_simp⟩) hSq1 ?_
        simp only [Act.put, List.getElem_toArray, List.getElem_cons_zero, List.getElem_cons_succ, List.setIfInBounds_toArray, List.set_cons_zero, List.set_cons_succ]
        refine wpAnyH_take (i := 6) (v := .int .i64 i) rfl (by kernel_rfl) (by kernel_rfl) (by kernel_rfl) (fun _ _ _ h => h) (Or.inl ⟨by rfl, fun x hx => by go_simp⟩) hSq1 ?_
        simp only [Act.put, List.getElem_toArray, List.getElem_cons_zero, List.getElem_cons_succ, List.setIfInBounds_toArray, List.set_cons_zero, List.set_cons_succ]
        refine wpAnyH_take (i := 8) (v := vb) rfl (by kernel_rfl) (by kernel_rfl) (by kernel_rfl) (fun _ _ _ h => h) (Or.inl ⟨by rfl, fun x hx => by go_simp⟩) hSq1 ?_
        simp only [Act.put, List.getElem_toArray, List.getElem_cons_zero, List.getElem_cons_succ, List.setIfInBounds_toArray, List.set_cons_zero, List.set_cons_succ]
        refine wpAnyH_take (i := 10) (v := .pointer (some ⟨r, 0, none⟩)) rfl (by kernel_rfl) (by kernel_rfl) (by kernel_rfl) (fun _ _ _ h => h) (Or.inl ⟨by rfl, fun x hx => by go_simp⟩) hSq1 ?_
        simp only [Act.put, List.getElem_toArray, List.getElem_cons_zero, List.getElem_cons_succ, List.setIfInBounds_toArray, List.set_cons_zero, List.set_cons_succ]
        refine wpAnyH_take (i := 11) (v := .pointer (some ⟨r, 0, none⟩)) rfl (by kernel_rfl) (by kernel_rfl) (by kernel_rfl) (fun _ _ _ h => h) (Or.inl ⟨by rfl, fun x hx => by go_simp⟩) hSq1 ?_
        simp only [Act.put, List.getElem_toArray, List.getElem_cons_zero, List.getElem_cons_succ, List.setIfInBounds_toArray, List.set_cons_zero, List.set_cons_succ]
        refine wpAnyH_take (i := 12) (v := .pointer (some ⟨r, 1, none⟩)) rfl (by kernel_rfl) (by kernel_rfl) (by kernel_rfl) (fun _ _ _ h => h) (Or.inl ⟨by rfl, fun x hx => by go_simp⟩) hSq1 ?_
        simp only [Act.put, List.getElem_toArray, List.getElem_cons_zero, List.getElem_cons_succ, List.setIfInBounds_toArray, List.set_cons_zero, List.set_cons_succ]
        refine wpAnyH_take (i := 14) (v := .int .i64 i) rfl (by kernel_rfl) (by kernel_rfl) (by kernel_rfl) (fun _ _ _ h => h) (Or.inl ⟨by rfl, fun x hx => by go_simp⟩) hSq1 ?_
        simp only [Act.put, List.getElem_toArray, List.getElem_cons_zero, List.getElem_cons_succ, List.setIfInBounds_toArray, List.set_cons_zero, List.set_cons_succ]
        refine wpAnyH_take (i := 15) (v := .int .i64 (I1 : Nat)) rfl (by kernel_rfl) (by kernel_rfl) (by kernel_rfl) (fun _ _ _ h => h) (Or.inl ⟨by rfl, fun x hx => by have e := HI1.out; go_simp; rw [wrapI _ (by omega) (by omega)]; try omega⟩) hSq1 ?_
        simp only [Act.put, List.getElem_toArray, List.getElem_cons_zero, List.getElem_cons_succ, List.setIfInBounds_toArray, List.set_cons_zero, List.set_cons_succ]
        refine wpAnyH_ready (rs := [4, 13]) (by kernel_rfl) (by simp) ?_
        refine AllReadyH.cons rfl (fun K hK => ?_) ?_
        · have hc := (hrow4.drew).cell 1 _ rfl
          go_simp
          refine hK.out _ _ hSq1 (fun hSq2 => ?_)
          clear hK K hc
          try simp only [Act.put, List.getElem_toArray, List.getElem_cons_zero, List.getElem_cons_succ, List.setIfInBounds_toArray, List.set_cons_zero, List.set_cons_succ]
          refine wpAnyH_take (i := 7) (v := .slice (some ⟨g0, 0, none⟩) i i) rfl (by kernel_rfl) (by kernel_rfl) (by kernel_rfl) (fun _ _ _ h => h) (Or.inl ⟨by rfl, fun x hx => by go_simp; try (intro h; exfalso; omega)⟩) hSq2 ?_
          simp only [Act.put, List.getElem_toArray, List.getElem_cons_zero, List.getElem_cons_succ, List.setIfInBounds_toArray, List.set_cons_zero, List.set_cons_succ]
          refine wpAnyH_ready (rs := [9, 13]) (by kernel_rfl) (by simp) ?_
          refine AllReadyH.cons rfl (fun K hK => ?_) ?_
          · rw [if_pos (by rfl)]
            refine wp_append_cut1 (.tmp 41) (.tmp 42) rfl g0 i (l.take i) R vb (by rfl) (by rfl) HX.out (fun s hs => hl32.out s (List.mem_of_mem_take hs)) (seeds_take_cell (HSD.out.below (below_drewN (Below.refl _ _) 1)) i) (HVB4.out.below (below_drewN (Below.refl _ _) 1)) (by omega) ?_
            intro vq3 yq4 bq5 csq6
            refine hK.out _ _ ⟨hSq2.1.below bq5 hSq2.1.lt, hSq2.2.1.below bq5 hSq2.2.1.lt, hSq2.2.2.trans (bq5.mono (Nat.zero_le _))⟩ (fun hSq7 => ?_)
            clear hK K
            try simp only [Act.put, List.getElem_toArray, List.getElem_cons_zero, List.getElem_cons_succ, List.setIfInBounds_toArray, List.set_cons_zero, List.set_cons_succ]
            refine wpAnyH_ready (rs := [13]) (by kernel_rfl) (by simp) ?_
            refine AllReadyH.cons rfl (fun K hK => ?_) AllReadyH.nil
            have hc := (hrow4.drew.below bq5 hrow4.lt).cell 1 _ rfl
            go_simp
            refine hK.out _ _ hSq7 (fun hSq8 => ?_)
            clear hK K hc
            try simp only [Act.put, List.getElem_toArray, List.getElem_cons_zero, List.getElem_cons_succ, List.setIfInBounds_toArray, List.set_cons_zero, List.set_cons_succ]
            refine wpAnyH_take (i := 16) (v := .slice (some AD) D.length CC) rfl (by kernel_rfl) (by kernel_rfl) (by kernel_rfl) (fun _ _ _ h => h) (Or.inl ⟨by rfl, fun x hx => by have e := HDL.out; have e3 := HADE.out; have e4 := HCC.out; go_simp; first | (intro h; exfalso; have h2 := h (by omega); omega) | (rw [if_pos (by omega), if_neg (by omega)])⟩) hSq8 ?_
            simp only [Act.put, List.getElem_toArray, List.getElem_cons_zero, List.getElem_cons_succ, List.setIfInBounds_toArray, List.set_cons_zero, List.set_cons_succ]
            refine wpAnyH_ready (rs := [17]) (by kernel_rfl) (by simp) ?_
            refine AllReadyH.cons rfl (fun K hK => ?_) AllReadyH.nil
            rw [if_pos (by rfl)]
            refine wp_append_cut2 (w0 := World.drew w4) (.tmp 43) (.tmp 50) rfl g0 i (l.take i) (l.take i ++ R) D _ AD CC (by rfl) (by rfl) HX.out (fun s hs => hl32.out s (List.mem_of_mem_take hs)) (seeds_take_cell (HSD.out.below ((below_drewN (Below.refl _ _) 1).trans bq5)) i) (Nat.lt_of_lt_of_le hg0 bq5.size) csq6 (fun s hs => by rcases List.mem_append.1 hs with h4 | h4; exact hl32.out s (List.mem_of_mem_take h4); exact hR32.out s h4) (fun s hs => hl32.out s (by rw [HD.out] at hs; exact List.mem_of_mem_drop hs)) (HAD.out _ (HSD.out.below ((below_drewN (Below.refl _ _) 1).trans bq5))) (by omega) (by rw [List.length_append, HX.out]; omega) bq5 ?_
            intro vq9 yq10 bq11 sdq12 hqq13
            obtain ⟨aovq9, ccvq9, hvvq9, _⟩ := sdq12.slice
            generalize hNvq9 : (l.take i ++ R ++ D).length = Nvq9 at hvvq9
            subst hvvq9
            refine hK.out _ _ ⟨hK4.drew.below bq11 hK4.lt, hZ4.drew.below bq11 hZ4.lt, hb00.trans ((below_drewN (Below.refl _ _) 1).trans (bq11.mono (Nat.zero_le _)))⟩ (fun hSq14 => ?_)
            clear hK K
            try simp only [Act.put, List.getElem_toArray, List.getElem_cons_zero, List.getElem_cons_succ, List.setIfInBounds_toArray, List.set_cons_zero, List.set_cons_succ]
            refine wpAnyH_take (i := 18) (v := .pointer (some ⟨r, 0, none⟩)) rfl (by kernel_rfl) (by kernel_rfl) (by kernel_rfl) (fun _ _ _ h => h) (Or.inl ⟨by rfl, fun x hx => by go_simp⟩) hSq14 ?_
            simp only [Act.put, List.getElem_toArray, List.getElem_cons_zero, List.getElem_cons_succ, List.setIfInBounds_toArray, List.set_cons_zero, List.set_cons_succ]
            refine wpAnyH_take (i := 19) (v := .pointer (some ⟨r, 1, none⟩)) rfl (by kernel_rfl) (by kernel_rfl) (by kernel_rfl) (fun _ _ _ h => h) (Or.inl ⟨by rfl, fun x hx => by go_simp⟩) hSq14 ?_
            simp only [Act.put, List.getElem_toArray, List.getElem_cons_zero, List.getElem_cons_succ, List.setIfInBounds_toArray, List.set_cons_zero, List.set_cons_succ]
            refine wpAnyH_ready (rs := [20]) (by kernel_rfl) (by simp) ?_
            refine AllReadyH.cons rfl (fun K hK => ?_) AllReadyH.nil
            have hrw7 := hrow4.drew.below bq11 hrow4.lt
            have hc := hrw7.cell 1 _ rfl
            have hf := hrw7.free 1
            go_simp
            refine hK.out _ _ ⟨hSq14.1.setOther ⟨r, 1, none⟩ _ (by show w3.heap.size ≠ r; omega), hSq14.2.1.setOther ⟨r, 1, none⟩ _ (by show w.heap.size ≠ r; omega), hSq14.2.2.setCell (p := ⟨r, 1, none⟩) (Nat.zero_le _) _⟩ (fun hSq15 => ?_)
            clear hK K hc hf
            refine wpAnyH_done (by kernel_rfl) ?_ _
            have hK9 := hSq15.1
            have hZ9 := hSq15.2.1
            have hrow9 := hrw7.set 1 (.slice aovq9 Nvq9 ccvq9)
            have hsd9 : SeedsAt (yq10.setCell ⟨r, 1, none⟩ (.slice aovq9 Nvq9 ccvq9)) (.slice aovq9 Nvq9 ccvq9) (l.take i ++ R ++ D) := sdq12.grown (grown_set (World.grownBy.refl _ _) 1 _) (fun q hq9 e => by have := hqq13 q hq9; simp at e; subst e; rcases this with h4 | h4; exact hg0r h4.symm; (have : w4.heap.size ≤ q := h4; have := hb5.size; omega))
            have g9 : World.grownBy yq10 (yq10.setCell ⟨r, 1, none⟩ (.slice aovq9 Nvq9 ccvq9)) (some r) := grown_set (World.grownBy.refl _ _) 1 _
            have b49 : Below w4.heap.size w4 yq10 := (below_drewN (Below.refl _ _) 1).trans bq11
            clear hSq15 hrw7
            generalize yq10.setCell ⟨r, 1, none⟩ (.slice aovq9 Nvq9 ccvq9) = W9 at hK9 hZ9 hrow9 hsd9 g9 ⊢
            go_wp2_with (first | ((with_reducible show wpList _ _ _ (⟨some 54, _, _, _, _, _⟩ :: _) _ _); refine wpList_loadBlk rfl 23 (.tmp 10) rfl w3.heap.size (by rfl) _ _ _ hK9 Try.underlying23 rfl (by rw [bv_size, HKK.out]; exact Try.sizeHash) ?_) | ((with_reducible show wpList _ _ _ (⟨none, Op.store _ (.tmp 6) _, _, _, _, _⟩ :: _) _ _); refine wpList_storeBlk rfl 23 (.tmp 6) (.tmp 54) rfl w.heap.size (kk.map bv).toArray (by rfl) (by rfl) _ _ hZ9 (by rw [bv_size, HKK.out]; exact Try.sizeHash) (by rw [bv_size, HKK.out, Z32_size]) (bv_all _) ?_; intro w5 hZ5 g5))
            refine ret_blk2 rfl w.heap.size _ _ _ (by rfl) hZ5 Try.underlying23 rfl (by rw [bv_size, HKK.out]; exact Try.sizeHash) rfl ?_
            rw [HLK.out, HTK.out, ← HD.out]
            have hrow5 := hrow9.grown g5 (by simp; omega)
            have hsd5 : SeedsAt w5 (.slice aovq9 Nvq9 ccvq9) (l.take i ++ R ++ D) := by
              refine hsd9.grown g5 (fun q hq9 e => ?_)
              simp at e
              rcases hqq13 q hq9 with h4 | h4
              · omega
              · have h5 : w4.heap.size ≤ q := h4
                have := hb5.size
                have := hK4.lt
                omega
            rw [HLF.out]
            exact ⟨rfl, ⟨_, hrow5, hsd5⟩, take_done HROW0.out HBK4.out b49 HIN.out.1 HAG0.out g9 g5 hrow5 hsd5 (fun q hq9 => hqq13 q hq9)⟩
          refine AllReadyH.cons rfl (fun K hK => ?_) AllReadyH.nil
          have hc := (hrow4.drew).cell 1 _ rfl
          go_simp
          refine hK.out _ _ hSq2 (fun hSq16 => ?_)
          clear hK K hc
          try simp only [Act.put, List.getElem_toArray, List.getElem_cons_zero, List.getElem_cons_succ, List.setIfInBounds_toArray, List.set_cons_zero, List.set_cons_succ]
          refine wpAnyH_take (i := 16) (v := .slice (some AD) D.length CC) rfl (by kernel_rfl) (by kernel_rfl) (by kernel_rfl) (fun _ _ _ h => h) (Or.inl ⟨by rfl, fun x hx => by have e := HDL.out; have e3 := HADE.out; have e4 := HCC.out; go_simp; first | (intro h; exfalso; have h2 := h (by omega); omega) | (rw [if_pos (by omega), if_neg (by omega)])⟩) hSq16 ?_
          simp only [Act.put, List.getElem_toArray, List.getElem_cons_zero, List.getElem_cons_succ, List.setIfInBounds_toArray, List.set_cons_zero, List.set_cons_succ]
          refine wpAnyH_ready (rs := [9]) (by kernel_rfl) (by simp) ?_
          refine AllReadyH.cons rfl (fun K hK => ?_) AllReadyH.nil
          rw [if_pos (by rfl)]
          refine wp_append_cut1 (.tmp 41) (.tmp 42) rfl g0 i (l.take i) R vb (by rfl) (by rfl) HX.out (fun s hs => hl32.out s (List.mem_of_mem_take hs)) (seeds_take_cell (HSD.out.below (below_drewN (Below.refl _ _) 1)) i) (HVB4.out.below (below_drewN (Below.refl _ _) 1)) (by omega) ?_
          intro vq17 yq18 bq19 csq20
          refine hK.out _ _ ⟨hSq16.1.below bq19 hSq16.1.lt, hSq16.2.1.below bq19 hSq16.2.1.lt, hSq16.2.2.trans (bq19.mono (Nat.zero_le _))⟩ (fun hSq21 => ?_)
          clear hK K
          try simp only [Act.put, List.getElem_toArray, List.getElem_cons_zero, List.getElem_cons_succ, List.setIfInBounds_toArray, List.set_cons_zero, List.set_cons_succ]
          refine wpAnyH_ready (rs := [17]) (by kernel_rfl) (by simp) ?_
          refine AllReadyH.cons rfl (fun K hK => ?_) AllReadyH.nil
          rw [if_pos (by rfl)]
          refine wp_append_cut2 (w0 := World.drew w4) (.tmp 43) (.tmp 50) rfl g0 i (l.take i) (l.take i ++ R) D _ AD CC (by rfl) (by rfl) HX.out (fun s hs => hl32.out s (List.mem_of_mem_take hs)) (seeds_take_cell (HSD.out.below ((below_drewN (Below.refl _ _) 1).trans bq19)) i) (Nat.lt_of_lt_of_le hg0 bq19.size) csq20 (fun s hs => by rcases List.mem_append.1 hs with h4 | h4; exact hl32.out s (List.mem_of_mem_take h4); exact hR32.out s h4) (fun s hs => hl32.out s (by rw [HD.out] at hs; exact List.mem_of_mem_drop hs)) (HAD.out _ (HSD.out.below ((below_drewN (Below.refl _ _) 1).trans bq19))) (by omega) (by rw [List.length_append, HX.out]; omega) bq19 ?_
          intro vq22 yq23 bq24 sdq25 hqq26
          obtain ⟨aovq22, ccvq22, hvvq22, _⟩ := sdq25.slice
          generalize hNvq22 : (l.take i ++ R ++ D).length = Nvq22 at hvvq22
          subst hvvq22
          refine hK.out _ _ ⟨hK4.drew.below bq24 hK4.lt, hZ4.drew.below bq24 hZ4.lt, hb00.trans ((below_drewN (Below.refl _ _) 1).trans (bq24.mono (Nat.zero_le _)))⟩ (fun hSq27 => ?_)
          clear hK K
          try simp only [Act.put, List.getElem_toArray, List.getElem_cons_zero, List.getElem_cons_succ, List.setIfInBounds_toArray, List.set_cons_zero, List.set_cons_succ]
          refine wpAnyH_take (i := 18) (v := .pointer (some ⟨r, 0, none⟩)) rfl (by kernel_rfl) (by kernel_rfl) (by kernel_rfl) (fun _ _ _ h => h) (Or.inl ⟨by rfl, fun x hx => by go_simp⟩) hSq27 ?_
          simp only [Act.put, List.getElem_toArray, List.getElem_cons_zero, List.getElem_cons_succ, List.setIfInBounds_toArray, List.set_cons_zero, List.set_cons_succ]
          refine wpAnyH_take (i := 19) (v := .pointer (some ⟨r, 1, none⟩)) rfl (by kernel_rfl) (by kernel_rfl) (by kernel_rfl) (fun _ _ _ h => h) (Or.inl ⟨by rfl, fun x hx => by go_simp⟩) hSq27 ?_
          simp only [Act.put, List.getElem_toArray, List.getElem_cons_zero, List.getElem_cons_succ, List.setIfInBounds_toArray, List.set_cons_zero, List.set_cons_succ]
          refine wpAnyH_ready (rs := [20]) (by kernel_rfl) (by simp) ?_
          refine AllReadyH.cons rfl (fun K hK => ?_) AllReadyH.nil
          have hrw7 := hrow4.drew.below bq24 hrow4.lt
          have hc := hrw7.cell 1 _ rfl
          have hf := hrw7.free 1
          go_simp
          refine hK.out _ _ ⟨hSq27.1.setOther ⟨r, 1, none⟩ _ (by show w3.heap.size ≠ r; omega), hSq27.2.1.setOther ⟨r, 1, none⟩ _ (by show w.heap.size ≠ r; omega), hSq27.2.2.setCell (p := ⟨r, 1, none⟩) (Nat.zero_le _) _⟩ (fun hSq28 => ?_)
          clear hK K hc hf
          refine wpAnyH_done (by kernel_rfl) ?_ _
          have hK9 := hSq28.1
          have hZ9 := hSq28.2.1
          have hrow9 := hrw7.set 1 (.slice aovq22 Nvq22 ccvq22)
          have hsd9 : SeedsAt (yq23.setCell ⟨r, 1, none⟩ (.slice aovq22 Nvq22 ccvq22)) (.slice aovq22 Nvq22 ccvq22) (l.take i ++ R ++ D) := sdq25.grown (grown_set (World.grownBy.refl _ _) 1 _) (fun q hq9 e => by have := hqq26 q hq9; simp at e; subst e; rcases this with h4 | h4; exact hg0r h4.symm; (have : w4.heap.size ≤ q := h4; have := hb5.size; omega))
          have g9 : World.grownBy yq23 (yq23.setCell ⟨r, 1, none⟩ (.slice aovq22 Nvq22 ccvq22)) (some r) := grown_set (World.grownBy.refl _ _) 1 _
          have b49 : Below w4.heap.size w4 yq23 := (below_drewN (Below.refl _ _) 1).trans bq24
          clear hSq28 hrw7
          generalize yq23.setCell ⟨r, 1, none⟩ (.slice aovq22 Nvq22 ccvq22) = W9 at hK9 hZ9 hrow9 hsd9 g9 ⊢
          go_wp2_with (first | ((with_reducible show wpList _ _ _ (⟨some 54, _, _, _, _, _⟩ :: _) _ _); refine wpList_loadBlk rfl 23 (.tmp 10) rfl w3.heap.size (by rfl) _ _ _ hK9 Try.underlying23 rfl (by rw [bv_size, HKK.out]; exact Try.sizeHash) ?_) | ((with_reducible show wpList _ _ _ (⟨none, Op.store _ (.tmp 6) _, _, _, _, _⟩ :: _) _ _); refine wpList_storeBlk rfl 23 (.tmp 6) (.tmp 54) rfl w.heap.size (kk.map bv).toArray (by rfl) (by rfl) _ _ hZ9 (by rw [bv_size, HKK.out]; exact Try.sizeHash) (by rw [bv_size, HKK.out, Z32_size]) (bv_all _) ?_; intro w5 hZ5 g5))
          refine ret_blk2 rfl w.heap.size _ _ _ (by rfl) hZ5 Try.underlying23 rfl (by rw [bv_size, HKK.out]; exact Try.sizeHash) rfl ?_
          rw [HLK.out, HTK.out, ← HD.out]
          have hrow5 := hrow9.grown g5 (by simp; omega)
          have hsd5 : SeedsAt w5 (.slice aovq22 Nvq22 ccvq22) (l.take i ++ R ++ D) := by
            refine hsd9.grown g5 (fun q hq9 e => ?_)
            simp at e
            rcases hqq26 q hq9 with h4 | h4
            · omega
            · have h5 : w4.heap.size ≤ q := h4
              have := hb5.size
              have := hK4.lt
              omega
          rw [HLF.out]
          exact ⟨rfl, ⟨_, hrow5, hsd5⟩, take_done HROW0.out HBK4.out b49 HIN.out.1 HAG0.out g9 g5 hrow5 hsd5 (fun q hq9 => hqq26 q hq9)⟩
        refine AllReadyH.cons rfl (fun K hK => ?_) AllReadyH.nil
        have hc := (hrow4.drew).cell 1 _ rfl
        go_simp
        refine hK.out _ _ hSq1 (fun hSq29 => ?_)
        clear hK K hc
        try simp only [Act.put, List.getElem_toArray, List.getElem_cons_zero, List.getElem_cons_succ, List.setIfInBounds_toArray, List.set_cons_zero, List.set_cons_succ]
        refine wpAnyH_take (i := 16) (v := .slice (some AD) D.length CC) rfl (by kernel_rfl) (by kernel_rfl) (by kernel_rfl) (fun _ _ _ h => h) (Or.inl ⟨by rfl, fun x hx => by have e := HDL.out; have e3 := HADE.out; have e4 := HCC.out; go_simp; first | (intro h; exfalso; have h2 := h (by omega); omega) | (rw [if_pos (by omega), if_neg (by omega)])⟩) hSq29 ?_
        simp only [Act.put, List.getElem_toArray, List.getElem_cons_zero, List.getElem_cons_succ, List.setIfInBounds_toArray, List.set_cons_zero, List.set_cons_succ]
        refine wpAnyH_ready (rs := [4]) (by kernel_rfl) (by simp) ?_
        refine AllReadyH.cons rfl (fun K hK => ?_) AllReadyH.nil
        have hc := (hrow4.drew).cell 1 _ rfl
        go_simp
        refine hK.out _ _ hSq29 (fun hSq30 => ?_)
        clear hK K hc
        try simp only [Act.put, List.getElem_toArray, List.getElem_cons_zero, List.getElem_cons_succ, List.setIfInBounds_toArray, List.set_cons_zero, List.set_cons_succ]
        refine wpAnyH_take (i := 7) (v := .slice (some ⟨g0, 0, none⟩) i i) rfl (by kernel_rfl) (by kernel_rfl) (by kernel_rfl) (fun _ _ _ h => h) (Or.inl ⟨by rfl, fun x hx => by go_simp; try (intro h; exfalso; omega)⟩) hSq30 ?_
        simp only [Act.put, List.getElem_toArray, List.getElem_cons_zero, List.getElem_cons_succ, List.setIfInBounds_toArray, List.set_cons_zero, List.set_cons_succ]
        refine wpAnyH_ready (rs := [9]) (by kernel_rfl) (by simp) ?_
        refine AllReadyH.cons rfl (fun K hK => ?_) AllReadyH.nil
        rw [if_pos (by rfl)]
        refine wp_append_cut1 (.tmp 41) (.tmp 42) rfl g0 i (l.take i) R vb (by rfl) (by rfl) HX.out (fun s hs => hl32.out s (List.mem_of_mem_take hs)) (seeds_take_cell (HSD.out.below (below_drewN (Below.refl _ _) 1)) i) (HVB4.out.below (below_drewN (Below.refl _ _) 1)) (by omega) ?_
        intro vq31 yq32 bq33 csq34
        refine hK.out _ _ ⟨hSq30.1.below bq33 hSq30.1.lt, hSq30.2.1.below bq33 hSq30.2.1.lt, hSq30.2.2.trans (bq33.mono (Nat.zero_le _))⟩ (fun hSq35 => ?_)
        clear hK K
        try simp only [Act.put, List.getElem_toArray, List.getElem_cons_zero, List.getElem_cons_succ, List.setIfInBounds_toArray, List.set_cons_zero, List.set_cons_succ]
        refine wpAnyH_ready (rs := [17]) (by kernel_rfl) (by simp) ?_
        refine AllReadyH.cons rfl (fun K hK => ?_) AllReadyH.nil
        rw [if_pos (by rfl)]
        refine wp_append_cut2 (w0 := World.drew w4) (.tmp 43) (.tmp 50) rfl g0 i (l.take i) (l.take i ++ R) D _ AD CC (by rfl) (by rfl) HX.out (fun s hs => hl32.out s (List.mem_of_mem_take hs)) (seeds_take_cell (HSD.out.below ((below_drewN (Below.refl _ _) 1).trans bq33)) i) (Nat.lt_of_lt_of_le hg0 bq33.size) csq34 (fun s hs => by rcases List.mem_append.1 hs with h4 | h4; exact hl32.out s (List.mem_of_mem_take h4); exact hR32.out s h4) (fun s hs => hl32.out s (by rw [HD.out] at hs; exact List.mem_of_mem_drop hs)) (HAD.out _ (HSD.out.below ((below_drewN (Below.refl _ _) 1).trans bq33))) (by omega) (by rw [List.length_append, HX.out]; omega) bq33 ?_
        intro vq36 yq37 bq38 sdq39 hqq40
        obtain ⟨aovq36, ccvq36, hvvq36, _⟩ := sdq39.slice
        generalize hNvq36 : (l.take i ++ R ++ D).length = Nvq36 at hvvq36
        subst hvvq36
        refine hK.out _ _ ⟨hK4.drew.below bq38 hK4.lt, hZ4.drew.below bq38 hZ4.lt, hb00.trans ((below_drewN (Below.refl _ _) 1).trans (bq38.mono (Nat.zero_le _)))⟩ (fun hSq41 => ?_)
        clear hK K
        try simp only [Act.put, List.getElem_toArray, List.getElem_cons_zero, List.getElem_cons_succ, List.setIfInBounds_toArray, List.set_cons_zero, List.set_cons_succ]
        refine wpAnyH_take (i := 18) (v := .pointer (some ⟨r, 0, none⟩)) rfl (by kernel_rfl) (by kernel_rfl) (by kernel_rfl) (fun _ _ _ h => h) (Or.inl ⟨by rfl, fun x hx => by go_simp⟩) hSq41 ?_
        simp only [Act.put, List.getElem_toArray, List.getElem_cons_zero, List.getElem_cons_succ, List.setIfInBounds_toArray, List.set_cons_zero, List.set_cons_succ]
        refine wpAnyH_take (i := 19) (v := .pointer (some ⟨r, 1, none⟩)) rfl (by kernel_rfl) (by kernel_rfl) (by kernel_rfl) (fun _ _ _ h => h) (Or.inl ⟨by rfl, fun x hx => by go_simp⟩) hSq41 ?_
        simp only [Act.put, List.getElem_toArray, List.getElem_cons_zero, List.getElem_cons_succ, List.setIfInBounds_toArray, List.set_cons_zero, List.set_cons_succ]
        refine wpAnyH_ready (rs := [20]) (by kernel_rfl) (by simp) ?_
        refine AllReadyH.cons rfl (fun K hK => ?_) AllReadyH.nil
        have hrw7 := hrow4.drew.below bq38 hrow4.lt
        have hc := hrw7.cell 1 _ rfl
        have hf := hrw7.free 1
        go_simp
        refine hK.out _ _ ⟨hSq41.1.setOther ⟨r, 1, none⟩ _ (by show w3.heap.size ≠ r; omega), hSq41.2.1.setOther ⟨r, 1, none⟩ _ (by show w.heap.size ≠ r; omega), hSq41.2.2.setCell (p := ⟨r, 1, none⟩) (Nat.zero_le _) _⟩ (fun hSq42 => ?_)
        clear hK K hc hf
        refine wpAnyH_done (by kernel_rfl) ?_ _
        have hK9 := hSq42.1
        have hZ9 := hSq42.2.1
        have hrow9 := hrw7.set 1 (.slice aovq36 Nvq36 ccvq36)
        have hsd9 : SeedsAt (yq37.setCell ⟨r, 1, none⟩ (.slice aovq36 Nvq36 ccvq36)) (.slice aovq36 Nvq36 ccvq36) (l.take i ++ R ++ D) := sdq39.grown (grown_set (World.grownBy.refl _ _) 1 _) (fun q hq9 e => by have := hqq40 q hq9; simp at e; subst e; rcases this with h4 | h4; exact hg0r h4.symm; (have : w4.heap.size ≤ q := h4; have := hb5.size; omega))
        have g9 : World.grownBy yq37 (yq37.setCell ⟨r, 1, none⟩ (.slice aovq36 Nvq36 ccvq36)) (some r) := grown_set (World.grownBy.refl _ _) 1 _
        have b49 : Below w4.heap.size w4 yq37 := (below_drewN (Below.refl _ _) 1).trans bq38
        clear hSq42 hrw7
        generalize yq37.setCell ⟨r, 1, none⟩ (.slice aovq36 Nvq36 ccvq36) = W9 at hK9 hZ9 hrow9 hsd9 g9 ⊢
        go_wp2_with (first | ((with_reducible show wpList _ _ _ (⟨some 54, _, _, _, _, _⟩ :: _) _ _); refine wpList_loadBlk rfl 23 (.tmp 10) rfl w3.heap.size (by rfl) _ _ _ hK9 Try.underlying23 rfl (by rw [bv_size, HKK.out]; exact Try.sizeHash) ?_) | ((with_reducible show wpList _ _ _ (⟨none, Op.store _ (.tmp 6) _, _, _, _, _⟩ :: _) _ _); refine wpList_storeBlk rfl 23 (.tmp 6) (.tmp 54) rfl w.heap.size (kk.map bv).toArray (by rfl) (by rfl) _ _ hZ9 (by rw [bv_size, HKK.out]; exact Try.sizeHash) (by rw [bv_size, HKK.out, Z32_size]) (bv_all _) ?_; intro w5 hZ5 g5))
        refine ret_blk2 rfl w.heap.size _ _ _ (by rfl) hZ5 Try.underlying23 rfl (by rw [bv_size, HKK.out]; exact Try.sizeHash) rfl ?_
        rw [HLK.out, HTK.out, ← HD.out]
        have hrow5 := hrow9.grown g5 (by simp; omega)
        have hsd5 : SeedsAt w5 (.slice aovq36 Nvq36 ccvq36) (l.take i ++ R ++ D) := by
          refine hsd9.grown g5 (fun q hq9 e => ?_)
          simp at e
          rcases hqq40 q hq9 with h4 | h4
          · omega
          · have h5 : w4.heap.size ≤ q := h4
            have := hb5.size
            have := hK4.lt
            omega
        rw [HLF.out]
        exact ⟨rfl, ⟨_, hrow5, hsd5⟩, take_done HROW0.out HBK4.out b49 HIN.out.1 HAG0.out g9 g5 hrow5 hsd5 (fun q hq9 => hqq40 q hq9)⟩
      · obtain ⟨AD, hADe⟩ : ∃ A : Addr, A = ⟨g0, I1 * 34, none⟩ := ⟨_, rfl⟩
        obtain ⟨CC, hCC⟩ : ∃ C, C = c - I1 := ⟨_, rfl⟩
        have HAD : Hid (∀ W, SeedsAt W (.slice (some ⟨g0, 0, none⟩) l.length c) l → ∀ j u, (D.flatMap Sd.cells)[j]? = some u → W.cell? (AD.add j) = some u) := by
          intro W hW j u hj
          rw [hADe, Addr.add_lit, HI1.out]
          rw [HD.out] at hj
          exact seeds_drop_cell hW (i + 1) (by omega) j u hj
        have HDL := Lib.hid hDl
        have HADE := Lib.hid hADe
        have HCC := Lib.hid hCC
        clear hDl hADe hCC
        refine wp_region_held_drew (S := fun x => Blk x (w3.heap.size) (kk.map bv).toArray 23 ∧ Blk x (w.heap.size) Z32 23 ∧ Below 0 w x) (by kernel_rfl) ⟨hK4.drew, hZ4.drew, below_drewN hb00 1⟩ (fun hSq43 => ?_)
        refine wpAnyH_take (i := 0) (v := .pointer (some ⟨r, 0, none⟩)) rfl (by kernel_rfl) (by kernel_rfl) (by kernel_rfl) (fun _ _ _ h => h) (Or.inl ⟨by rfl, fun x hx => by go_simp⟩) hSq43 ?_
        simp only [Act.put, List.getElem_toArray, List.getElem_cons_zero, List.getElem_cons_succ, List.setIfInBounds_toArray, List.set_cons_zero, List.set_cons_succ]
        refine wpAnyH_take (i := 1) (v := .pointer (some ⟨r, 0, none⟩)) rfl (by kernel_rfl) (by kernel_rfl) (by kernel_rfl) (fun _ _ _ h => h) (Or.inl ⟨by rfl, fun x hx => by go_simp⟩) hSq43 ?_
        simp only [Act.put, List.getElem_toArray, List.getElem_cons_zero, List.getElem_cons_succ, List.setIfInBounds_toArray, List.set_cons_zero, List.set_cons_succ]
        refine wpAnyH_take (i := 2) (v := .pointer (some ⟨r, 0, none⟩)) rfl (by kernel_rfl) (by kernel_rfl) (by kernel_rfl) (fun _ _ _ h => h) (Or.inl ⟨by rfl, fun x hx => by go_simp⟩) hSq43 ?_
        simp only [Act.put, List.getElem_toArray, List.getElem_cons_zero, List.getElem_cons_succ, List.setIfInBounds_toArray, List.set_cons_zero, List.set_cons_succ]
        refine wpAnyH_take (i := 3) (v := .pointer (some ⟨r, 1, none⟩)) rfl (by kernel_rfl) (by kernel_rfl) (by kernel_rfl) (fun _ _ _ h => h) (Or.inl ⟨by rfl, fun x hx => by go_simp⟩) hSq43 ?_
        simp only [Act.put, List.getElem_toArray, List.getElem_cons_zero, List.getElem_cons_succ, List.setIfInBounds_toArray, List.set_cons_zero, List.set_cons_succ]
        refine wpAnyH_take (i := 5) (v := .int .i64 i) rfl (by kernel_rfl) (by kernel_rfl) (by kernel_rfl) (fun _ _ _ h => h) (Or.inl ⟨by rfl, fun x hx => by go_simp⟩) hSq43 ?_
        simp only [Act.put, List.getElem_toArray, List.getElem_cons_zero, List.getElem_cons_succ, List.setIfInBounds_toArray, List.set_cons_zero, List.set_cons_succ]
        refine wpAnyH_take (i := 6) (v := .int .i64 i) rfl (by kernel_rfl) (by kernel_rfl) (by kernel_rfl) (fun _ _ _ h => h) (Or.inl ⟨by rfl, fun x hx => by go_simp⟩) hSq43 ?_
        simp only [Act.put, List.getElem_toArray, List.getElem_cons_zero, List.getElem_cons_succ, List.setIfInBounds_toArray, List.set_cons_zero, List.set_cons_succ]
        refine wpAnyH_take (i := 8) (v := vb) rfl (by kernel_rfl) (by kernel_rfl) (by kernel_rfl) (fun _ _ _ h => h) (Or.inl ⟨by rfl, fun x hx => by go_simp⟩) hSq43 ?_
        simp only [Act.put, List.getElem_toArray, List.getElem_cons_zero, List.getElem_cons_succ, List.setIfInBounds_toArray, List.set_cons_zero, List.set_cons_succ]
        refine wpAnyH_take (i := 10) (v := .pointer (some ⟨r, 0, none⟩)) rfl (by kernel_rfl) (by kernel_rfl) (by kernel_rfl) (fun _ _ _ h => h) (Or.inl ⟨by rfl, fun x hx => by go_simp⟩) hSq43 ?_
        simp only [Act.put, List.getElem_toArray, List.getElem_cons_zero, List.getElem_cons_succ, List.setIfInBounds_toArray, List.set_cons_zero, List.set_cons_succ]
        refine wpAnyH_take (i := 11) (v := .pointer (some ⟨r, 0, none⟩)) rfl (by kernel_rfl) (by kernel_rfl) (by kernel_rfl) (fun _ _ _ h => h) (Or.inl ⟨by rfl, fun x hx => by go_simp⟩) hSq43 ?_
        simp only [Act.put, List.getElem_toArray, List.getElem_cons_zero, List.getElem_cons_succ, List.setIfInBounds_toArray, List.set_cons_zero, List.set_cons_succ]
        refine wpAnyH_take (i := 12) (v := .pointer (some ⟨r, 1, none⟩)) rfl (by kernel_rfl) (by kernel_rfl) (by kernel_rfl) (fun _ _ _ h => h) (Or.inl ⟨by rfl, fun x hx => by go_simp⟩) hSq43 ?_
        simp only [Act.put, List.getElem_toArray, List.getElem_cons_zero, List.getElem_cons_succ, List.setIfInBounds_toArray, List.set_cons_zero, List.set_cons_succ]
        refine wpAnyH_take (i := 14) (v := .int .i64 i) rfl (by kernel_rfl) (by kernel_rfl) (by kernel_rfl) (fun _ _ _ h => h) (Or.inl ⟨by rfl, fun x hx => by go_simp⟩) hSq43 ?_
        simp only [Act.put, List.getElem_toArray, List.getElem_cons_zero, List.getElem_cons_succ, List.setIfInBounds_toArray, List.set_cons_zero, List.set_cons_succ]
        refine wpAnyH_take (i := 15) (v := .int .i64 (I1 : Nat)) rfl (by kernel_rfl) (by kernel_rfl) (by kernel_rfl) (fun _ _ _ h => h) (Or.inl ⟨by rfl, fun x hx => by have e := HI1.out; go_simp; rw [wrapI _ (by omega) (by omega)]; try omega⟩) hSq43 ?_
        simp only [Act.put, List.getElem_toArray, List.getElem_cons_zero, List.getElem_cons_succ, List.setIfInBounds_toArray, List.set_cons_zero, List.set_cons_succ]
        refine wpAnyH_ready (rs := [4, 13]) (by kernel_rfl) (by simp) ?_
        refine AllReadyH.cons rfl (fun K hK => ?_) ?_
        · have hc := (hrow4.drew).cell 1 _ rfl
          go_simp
          refine hK.out _ _ hSq43 (fun hSq44 => ?_)
          clear hK K hc
          try simp only [Act.put, List.getElem_toArray, List.getElem_cons_zero, List.getElem_cons_succ, List.setIfInBounds_toArray, List.set_cons_zero, List.set_cons_succ]
          refine wpAnyH_take (i := 7) (v := .slice (some ⟨g0, 0, none⟩) i i) rfl (by kernel_rfl) (by kernel_rfl) (by kernel_rfl) (fun _ _ _ h => h) (Or.inl ⟨by rfl, fun x hx => by go_simp; try (intro h; exfalso; omega)⟩) hSq44 ?_
          simp only [Act.put, List.getElem_toArray, List.getElem_cons_zero, List.getElem_cons_succ, List.setIfInBounds_toArray, List.set_cons_zero, List.set_cons_succ]
          refine wpAnyH_ready (rs := [9, 13]) (by kernel_rfl) (by simp) ?_
          refine AllReadyH.cons rfl (fun K hK => ?_) ?_
          · rw [if_pos (by rfl)]
            refine wp_append_cut1 (.tmp 41) (.tmp 42) rfl g0 i (l.take i) R vb (by rfl) (by rfl) HX.out (fun s hs => hl32.out s (List.mem_of_mem_take hs)) (seeds_take_cell (HSD.out.below (below_drewN (Below.refl _ _) 1)) i) (HVB4.out.below (below_drewN (Below.refl _ _) 1)) (by omega) ?_
            intro vq45 yq46 bq47 csq48
            refine hK.out _ _ ⟨hSq44.1.below bq47 hSq44.1.lt, hSq44.2.1.below bq47 hSq44.2.1.lt, hSq44.2.2.trans (bq47.mono (Nat.zero_le _))⟩ (fun hSq49 => ?_)
            clear hK K
            try simp only [Act.put, List.getElem_toArray, List.getElem_cons_zero, List.getElem_cons_succ, List.setIfInBounds_toArray, List.set_cons_zero, List.set_cons_succ]
            refine wpAnyH_ready (rs := [13]) (by kernel_rfl) (by simp) ?_
            refine AllReadyH.cons rfl (fun K hK => ?_) AllReadyH.nil
            have hc := (hrow4.drew.below bq47 hrow4.lt).cell 1 _ rfl
            go_simp
            refine hK.out _ _ hSq49 (fun hSq50 => ?_)
            clear hK K hc
            try simp only [Act.put, List.getElem_toArray, List.getElem_cons_zero, List.getElem_cons_succ, List.setIfInBounds_toArray, List.set_cons_zero, List.set_cons_succ]
            refine wpAnyH_take (i := 16) (v := .slice (some AD) D.length CC) rfl (by kernel_rfl) (by kernel_rfl) (by kernel_rfl) (fun _ _ _ h => h) (Or.inl ⟨by rfl, fun x hx => by have e := HDL.out; have e3 := HADE.out; have e4 := HCC.out; go_simp; first | (intro h; exfalso; have h2 := h (by omega); omega) | (rw [if_pos (by omega), if_neg (by omega)])⟩) hSq50 ?_
            simp only [Act.put, List.getElem_toArray, List.getElem_cons_zero, List.getElem_cons_succ, List.setIfInBounds_toArray, List.set_cons_zero, List.set_cons_succ]
            refine wpAnyH_ready (rs := [17]) (by kernel_rfl) (by simp) ?_
            refine AllReadyH.cons rfl (fun K hK => ?_) AllReadyH.nil
            rw [if_pos (by rfl)]
            refine wp_append_cut2 (w0 := World.drew w4) (.tmp 43) (.tmp 50) rfl g0 i (l.take i) (l.take i ++ R) D _ AD CC (by rfl) (by rfl) HX.out (fun s hs => hl32.out s (List.mem_of_mem_take hs)) (seeds_take_cell (HSD.out.below ((below_drewN (Below.refl _ _) 1).trans bq47)) i) (Nat.lt_of_lt_of_le hg0 bq47.size) csq48 (fun s hs => by rcases List.mem_append.1 hs with h4 | h4; exact hl32.out s (List.mem_of_mem_take h4); exact hR32.out s h4) (fun s hs => hl32.out s (by rw [HD.out] at hs; exact List.mem_of_mem_drop hs)) (HAD.out _ (HSD.out.below ((below_drewN (Below.refl _ _) 1).trans bq47))) (by omega) (by rw [List.length_append, HX.out]; omega) bq47 ?_
            intro vq51 yq52 bq53 sdq54 hqq55
            obtain ⟨aovq51, ccvq51, hvvq51, _⟩ := sdq54.slice
            generalize hNvq51 : (l.take i ++ R ++ D).length = Nvq51 at hvvq51
            subst hvvq51
            refine hK.out _ _ ⟨hK4.drew.below bq53 hK4.lt, hZ4.drew.below bq53 hZ4.lt, hb00.trans ((below_drewN (Below.refl _ _) 1).trans (bq53.mono (Nat.zero_le _)))⟩ (fun hSq56 => ?_)
            clear hK K
            try simp only [Act.put, List.getElem_toArray, List.getElem_cons_zero, List.getElem_cons_succ, List.setIfInBounds_toArray, List.set_cons_zero, List.set_cons_succ]
            refine wpAnyH_take (i := 18) (v := .pointer (some ⟨r, 0, none⟩)) rfl (by kernel_rfl) (by kernel_rfl) (by kernel_rfl) (fun _ _ _ h => h) (Or.inl ⟨by rfl, fun x hx => by go_simp⟩) hSq56 ?_
            simp only [Act.put, List.getElem_toArray, List.getElem_cons_zero, List.getElem_cons_succ, List.setIfInBounds_toArray, List.set_cons_zero, List.set_cons_succ]
            refine wpAnyH_take (i := 19) (v := .pointer (some ⟨r, 1, none⟩)) rfl (by kernel_rfl) (by kernel_rfl) (by kernel_rfl) (fun _ _ _ h => h) (Or.inl ⟨by rfl, fun x hx => by go_simp⟩) hSq56 ?_
            simp only [Act.put, List.getElem_toArray, List.getElem_cons_zero, List.getElem_cons_succ, List.setIfInBounds_toArray, List.set_cons_zero, List.set_cons_succ]
            refine wpAnyH_ready (rs := [20]) (by kernel_rfl) (by simp) ?_
            refine AllReadyH.cons rfl (fun K hK => ?_) AllReadyH.nil
            have hrw7 := hrow4.drew.below bq53 hrow4.lt
            have hc := hrw7.cell 1 _ rfl
            have hf := hrw7.free 1
            go_simp
            refine hK.out _ _ ⟨hSq56.1.setOther ⟨r, 1, none⟩ _ (by show w3.heap.size ≠ r; omega), hSq56.2.1.setOther ⟨r, 1, none⟩ _ (by show w.heap.size ≠ r; omega), hSq56.2.2.setCell (p := ⟨r, 1, none⟩) (Nat.zero_le _) _⟩ (fun hSq57 => ?_)
            clear hK K hc hf
            refine wpAnyH_done (by kernel_rfl) ?_ _
            have hK9 := hSq57.1
            have hZ9 := hSq57.2.1
            have hrow9 := hrw7.set 1 (.slice aovq51 Nvq51 ccvq51)
            have hsd9 : SeedsAt (yq52.setCell ⟨r, 1, none⟩ (.slice aovq51 Nvq51 ccvq51)) (.slice aovq51 Nvq51 ccvq51) (l.take i ++ R ++ D) := sdq54.grown (grown_set (World.grownBy.refl _ _) 1 _) (fun q hq9 e => by have := hqq55 q hq9; simp at e; subst e; rcases this with h4 | h4; exact hg0r h4.symm; (have : w4.heap.size ≤ q := h4; have := hb5.size; omega))
            have g9 : World.grownBy yq52 (yq52.setCell ⟨r, 1, none⟩ (.slice aovq51 Nvq51 ccvq51)) (some r) := grown_set (World.grownBy.refl _ _) 1 _
            have b49 : Below w4.heap.size w4 yq52 := (below_drewN (Below.refl _ _) 1).trans bq53
            clear hSq57 hrw7
            generalize yq52.setCell ⟨r, 1, none⟩ (.slice aovq51 Nvq51 ccvq51) = W9 at hK9 hZ9 hrow9 hsd9 g9 ⊢
            go_wp2_with (first | ((with_reducible show wpList _ _ _ (⟨some 54, _, _, _, _, _⟩ :: _) _ _); refine wpList_loadBlk rfl 23 (.tmp 10) rfl w3.heap.size (by rfl) _ _ _ hK9 Try.underlying23 rfl (by rw [bv_size, HKK.out]; exact Try.sizeHash) ?_) | ((with_reducible show wpList _ _ _ (⟨none, Op.store _ (.tmp 6) _, _, _, _, _⟩ :: _) _ _); refine wpList_storeBlk rfl 23 (.tmp 6) (.tmp 54) rfl w.heap.size (kk.map bv).toArray (by rfl) (by rfl) _ _ hZ9 (by rw [bv_size, HKK.out]; exact Try.sizeHash) (by rw [bv_size, HKK.out, Z32_size]) (bv_all _) ?_; intro w5 hZ5 g5))
            refine ret_blk2 rfl w.heap.size _ _ _ (by rfl) hZ5 Try.underlying23 rfl (by rw [bv_size, HKK.out]; exact Try.sizeHash) rfl ?_
            rw [HLK.out, HTK.out, ← HD.out]
            have hrow5 := hrow9.grown g5 (by simp; omega)
            have hsd5 : SeedsAt w5 (.slice aovq51 Nvq51 ccvq51) (l.take i ++ R ++ D) := by
              refine hsd9.grown g5 (fun q hq9 e => ?_)
              simp at e
              rcases hqq55 q hq9 with h4 | h4
              · omega
              · have h5 : w4.heap.size ≤ q := h4
                have := hb5.size
                have := hK4.lt
                omega
            rw [HLF.out]
            exact ⟨rfl, ⟨_, hrow5, hsd5⟩, take_done HROW0.out HBK4.out b49 HIN.out.1 HAG0.out g9 g5 hrow5 hsd5 (fun q hq9 => hqq55 q hq9)⟩
          refine AllReadyH.cons rfl (fun K hK => ?_) AllReadyH.nil
          have hc := (hrow4.drew).cell 1 _ rfl
          go_simp
          refine hK.out _ _ hSq44 (fun hSq58 => ?_)
          clear hK K hc
          try simp only [Act.put, List.getElem_toArray, List.getElem_cons_zero, List.getElem_cons_succ, List.setIfInBounds_toArray, List.set_cons_zero, List.set_cons_succ]
          refine wpAnyH_take (i := 16) (v := .slice (some AD) D.length CC) rfl (by kernel_rfl) (by kernel_rfl) (by kernel_rfl) (fun _ _ _ h => h) (Or.inl ⟨by rfl, fun x hx => by have e := HDL.out; have e3 := HADE.out; have e4 := HCC.out; go_simp; first | (intro h; exfalso; have h2 := h (by omega); omega) | (rw [if_pos (by omega), if_neg (by omega)])⟩) hSq58 ?_
          simp only [Act.put, List.getElem_toArray, List.getElem_cons_zero, List.getElem_cons_succ, List.setIfInBounds_toArray, List.set_cons_zero, List.set_cons_succ]
          refine wpAnyH_ready (rs := [9]) (by kernel_rfl) (by simp) ?_
          refine AllReadyH.cons rfl (fun K hK => ?_) AllReadyH.nil
          rw [if_pos (by rfl)]
          refine wp_append_cut1 (.tmp 41) (.tmp 42) rfl g0 i (l.take i) R vb (by rfl) (by rfl) HX.out (fun s hs => hl32.out s (List.mem_of_mem_take hs)) (seeds_take_cell (HSD.out.below (below_drewN (Below.refl _ _) 1)) i) (HVB4.out.below (below_drewN (Below.refl _ _) 1)) (by omega) ?_
          intro vq59 yq60 bq61 csq62
          refine hK.out _ _ ⟨hSq58.1.below bq61 hSq58.1.lt, hSq58.2.1.below bq61 hSq58.2.1.lt, hSq58.2.2.trans (bq61.mono (Nat.zero_le _))⟩ (fun hSq63 => ?_)
          clear hK K
          try simp only [Act.put, List.getElem_toArray, List.getElem_cons_zero, List.getElem_cons_succ, List.setIfInBounds_toArray, List.set_cons_zero, List.set_cons_succ]
          refine wpAnyH_ready (rs := [17]) (by kernel_rfl) (by simp) ?_
          refine AllReadyH.cons rfl (fun K hK => ?_) AllReadyH.nil
          rw [if_pos (by rfl)]
          refine wp_append_cut2 (w0 := World.drew w4) (.tmp 43) (.tmp 50) rfl g0 i (l.take i) (l.take i ++ R) D _ AD CC (by rfl) (by rfl) HX.out (fun s hs => hl32.out s (List.mem_of_mem_take hs)) (seeds_take_cell (HSD.out.below ((below_drewN (Below.refl _ _) 1).trans bq61)) i) (Nat.lt_of_lt_of_le hg0 bq61.size) csq62 (fun s hs => by rcases List.mem_append.1 hs with h4 | h4; exact hl32.out s (List.mem_of_mem_take h4); exact hR32.out s h4) (fun s hs => hl32.out s (by rw [HD.out] at hs; exact List.mem_of_mem_drop hs)) (HAD.out _ (HSD.out.below ((below_drewN (Below.refl _ _) 1).trans bq61))) (by omega) (by rw [List.length_append, HX.out]; omega) bq61 ?_
          intro vq64 yq65 bq66 sdq67 hqq68
          obtain ⟨aovq64, ccvq64, hvvq64, _⟩ := sdq67.slice
          generalize hNvq64 : (l.take i ++ R ++ D).length = Nvq64 at hvvq64
          subst hvvq64
          refine hK.out _ _ ⟨hK4.drew.below bq66 hK4.lt, hZ4.drew.below bq66 hZ4.lt, hb00.trans ((below_drewN (Below.refl _ _) 1).trans (bq66.mono (Nat.zero_le _)))⟩ (fun hSq69 => ?_)
          clear hK K
          try simp only [Act.put, List.getElem_toArray, List.getElem_cons_zero, List.getElem_cons_succ, List.setIfInBounds_toArray, List.set_cons_zero, List.set_cons_succ]
          refine wpAnyH_take (i := 18) (v := .pointer (some ⟨r, 0, none⟩)) rfl (by kernel_rfl) (by kernel_rfl) (by kernel_rfl) (fun _ _ _ h => h) (Or.inl ⟨by rfl, fun x hx => by go_simp⟩) hSq69 ?_
          simp only [Act.put, List.getElem_toArray, List.getElem_cons_zero, List.getElem_cons_succ, List.setIfInBounds_toArray, List.set_cons_zero, List.set_cons_succ]
          refine wpAnyH_take (i := 19) (v := .pointer (some ⟨r, 1, none⟩)) rfl (by kernel_rfl) (by kernel_rfl) (by kernel_rfl) (fun _ _ _ h => h) (Or.inl ⟨by rfl, fun x hx => by go_simp⟩) hSq69 ?_
          simp only [Act.put, List.getElem_toArray, List.getElem_cons_zero, List.getElem_cons_succ, List.setIfInBounds_toArray, List.set_cons_zero, List.set_cons_succ]
          refine wpAnyH_ready (rs := [20]) (by kernel_rfl) (by simp) ?_
          refine AllReadyH.cons rfl (fun K hK => ?_) AllReadyH.nil
          have hrw7 := hrow4.drew.below bq66 hrow4.lt
          have hc := hrw7.cell 1 _ rfl
          have hf := hrw7.free 1
          go_simp
          refine hK.out _ _ ⟨hSq69.1.setOther ⟨r, 1, none⟩ _ (by show w3.heap.size ≠ r; omega), hSq69.2.1.setOther ⟨r, 1, none⟩ _ (by show w.heap.size ≠ r; omega), hSq69.2.2.setCell (p := ⟨r, 1, none⟩) (Nat.zero_le _) _⟩ (fun hSq70 => ?_)
          clear hK K hc hf
          refine wpAnyH_done (by kernel_rfl) ?_ _
          have hK9 := hSq70.1
          have hZ9 := hSq70.2.1
          have hrow9 := hrw7.set 1 (.slice aovq64 Nvq64 ccvq64)
          have hsd9 : SeedsAt (yq65.setCell ⟨r, 1, none⟩ (.slice aovq64 Nvq64 ccvq64)) (.slice aovq64 Nvq64 ccvq64) (l.take i ++ R ++ D) := sdq67.grown (grown_set (World.grownBy.refl _ _) 1 _) (fun q hq9 e => by have := hqq68 q hq9; simp at e; subst e; rcases this with h4 | h4; exact hg0r h4.symm; (have : w4.heap.size ≤ q := h4; have := hb5.size; omega))
          have g9 : World.grownBy yq65 (yq65.setCell ⟨r, 1, none⟩ (.slice aovq64 Nvq64 ccvq64)) (some r) := grown_set (World.grownBy.refl _ _) 1 _
          have b49 : Below w4.heap.size w4 yq65 := (below_drewN (Below.refl _ _) 1).trans bq66
          clear hSq70 hrw7
          generalize yq65.setCell ⟨r, 1, none⟩ (.slice aovq64 Nvq64 ccvq64) = W9 at hK9 hZ9 hrow9 hsd9 g9 ⊢
          go_wp2_with (first | ((with_reducible show wpList _ _ _ (⟨some 54, _, _, _, _, _⟩ :: _) _ _); refine wpList_loadBlk rfl 23 (.tmp 10) rfl w3.heap.size (by rfl) _ _ _ hK9 Try.underlying23 rfl (by rw [bv_size, HKK.out]; exact Try.sizeHash) ?_) | ((with_reducible show wpList _ _ _ (⟨none, Op.store _ (.tmp 6) _, _, _, _, _⟩ :: _) _ _); refine wpList_storeBlk rfl 23 (.tmp 6) (.tmp 54) rfl w.heap.size (kk.map bv).toArray (by rfl) (by rfl) _ _ hZ9 (by rw [bv_size, HKK.out]; exact Try.sizeHash) (by rw [bv_size, HKK.out, Z32_size]) (bv_all _) ?_; intro w5 hZ5 g5))
          refine ret_blk2 rfl w.heap.size _ _ _ (by rfl) hZ5 Try.underlying23 rfl (by rw [bv_size, HKK.out]; exact Try.sizeHash) rfl ?_
          rw [HLK.out, HTK.out, ← HD.out]
          have hrow5 := hrow9.grown g5 (by simp; omega)
          have hsd5 : SeedsAt w5 (.slice aovq64 Nvq64 ccvq64) (l.take i ++ R ++ D) := by
            refine hsd9.grown g5 (fun q hq9 e => ?_)
            simp at e
            rcases hqq68 q hq9 with h4 | h4
            · omega
            · have h5 : w4.heap.size ≤ q := h4
              have := hb5.size
              have := hK4.lt
              omega
          rw [HLF.out]
          exact ⟨rfl, ⟨_, hrow5, hsd5⟩, take_done HROW0.out HBK4.out b49 HIN.out.1 HAG0.out g9 g5 hrow5 hsd5 (fun q hq9 => hqq68 q hq9)⟩
        refine AllReadyH.cons rfl (fun K hK => ?_) AllReadyH.nil
        have hc := (hrow4.drew).cell 1 _ rfl
        go_simp
        refine hK.out _ _ hSq43 (fun hSq71 => ?_)
        clear hK K hc
        try simp only [Act.put, List.getElem_toArray, List.getElem_cons_zero, List.getElem_cons_succ, List.setIfInBounds_toArray, List.set_cons_zero, List.set_cons_succ]
        refine wpAnyH_take (i := 16) (v := .slice (some AD) D.length CC) rfl (by kernel_rfl) (by kernel_rfl) (by kernel_rfl) (fun _ _ _ h => h) (Or.inl ⟨by rfl, fun x hx => by have e := HDL.out; have e3 := HADE.out; have e4 := HCC.out; go_simp; first | (intro h; exfalso; have h2 := h (by omega); omega) | (rw [if_pos (by omega), if_neg (by omega)])⟩) hSq71 ?_
        simp only [Act.put, List.getElem_toArray, List.getElem_cons_zero, List.getElem_cons_succ, List.setIfInBounds_toArray, List.set_cons_zero, List.set_cons_succ]
        refine wpAnyH_ready (rs := [4]) (by kernel_rfl) (by simp) ?_
        refine AllReadyH.cons rfl (fun K hK => ?_) AllReadyH.nil
        have hc := (hrow4.drew).cell 1 _ rfl
        go_simp
        refine hK.out _ _ hSq71 (fun hSq72 => ?_)
        clear hK K hc
        try simp only [Act.put, List.getElem_toArray, List.getElem_cons_zero, List.getElem_cons_succ, List.setIfInBounds_toArray, List.set_cons_zero, List.set_cons_succ]
        refine wpAnyH_take (i := 7) (v := .slice (some ⟨g0, 0, none⟩) i i) rfl (by kernel_rfl) (by kernel_rfl) (by kernel_rfl) (fun _ _ _ h => h) (Or.inl ⟨by rfl, fun x hx => by go_simp; try (intro h; exfalso; omega)⟩) hSq72 ?_
        simp only [Act.put, List.getElem_toArray, List.getElem_cons_zero, List.getElem_cons_succ, List.setIfInBounds_toArray, List.set_cons_zero, List.set_cons_succ]
        refine wpAnyH_ready (rs := [9]) (by kernel_rfl) (by simp) ?_
        refine AllReadyH.cons rfl (fun K hK => ?_) AllReadyH.nil
        rw [if_pos (by rfl)]
        refine wp_append_cut1 (.tmp 41) (.tmp 42) rfl g0 i (l.take i) R vb (by rfl) (by rfl) HX.out (fun s hs => hl32.out s (List.mem_of_mem_take hs)) (seeds_take_cell (HSD.out.below (below_drewN (Below.refl _ _) 1)) i) (HVB4.out.below (below_drewN (Below.refl _ _) 1)) (by omega) ?_
        intro vq73 yq74 bq75 csq76
        refine hK.out _ _ ⟨hSq72.1.below bq75 hSq72.1.lt, hSq72.2.1.below bq75 hSq72.2.1.lt, hSq72.2.2.trans (bq75.mono (Nat.zero_le _))⟩ (fun hSq77 => ?_)
        clear hK K
        try simp only [Act.put, List.getElem_toArray, List.getElem_cons_zero, List.getElem_cons_succ, List.setIfInBounds_toArray, List.set_cons_zero, List.set_cons_succ]
        refine wpAnyH_ready (rs := [17]) (by kernel_rfl) (by simp) ?_
        refine AllReadyH.cons rfl (fun K hK => ?_) AllReadyH.nil
        rw [if_pos (by rfl)]
        refine wp_append_cut2 (w0 := World.drew w4) (.tmp 43) (.tmp 50) rfl g0 i (l.take i) (l.take i ++ R) D _ AD CC (by rfl) (by rfl) HX.out (fun s hs => hl32.out s (List.mem_of_mem_take hs)) (seeds_take_cell (HSD.out.below ((below_drewN (Below.refl _ _) 1).trans bq75)) i) (Nat.lt_of_lt_of_le hg0 bq75.size) csq76 (fun s hs => by rcases List.mem_append.1 hs with h4 | h4; exact hl32.out s (List.mem_of_mem_take h4); exact hR32.out s h4) (fun s hs => hl32.out s (by rw [HD.out] at hs; exact List.mem_of_mem_drop hs)) (HAD.out _ (HSD.out.below ((below_drewN (Below.refl _ _) 1).trans bq75))) (by omega) (by rw [List.length_append, HX.out]; omega) bq75 ?_
        intro vq78 yq79 bq80 sdq81 hqq82
        obtain ⟨aovq78, ccvq78, hvvq78, _⟩ := sdq81.slice
        generalize hNvq78 : (l.take i ++ R ++ D).length = Nvq78 at hvvq78
        subst hvvq78
        refine hK.out _ _ ⟨hK4.drew.below bq80 hK4.lt, hZ4.drew.below bq80 hZ4.lt, hb00.trans ((below_drewN (Below.refl _ _) 1).trans (bq80.mono (Nat.zero_le _)))⟩ (fun hSq83 => ?_)
        clear hK K
        try simp only [Act.put, List.getElem_toArray, List.getElem_cons_zero, List.getElem_cons_succ, List.setIfInBounds_toArray, List.set_cons_zero, List.set_cons_succ]
        refine wpAnyH_take (i := 18) (v := .pointer (some ⟨r, 0, none⟩)) rfl (by kernel_rfl) (by kernel_rfl) (by kernel_rfl) (fun _ _ _ h => h) (Or.inl ⟨by rfl, fun x hx => by go_simp⟩) hSq83 ?_
        simp only [Act.put, List.getElem_toArray, List.getElem_cons_zero, List.getElem_cons_succ, List.setIfInBounds_toArray, List.set_cons_zero, List.set_cons_succ]
        refine wpAnyH_take (i := 19) (v := .pointer (some ⟨r, 1, none⟩)) rfl (by kernel_rfl) (by kernel_rfl) (by kernel_rfl) (fun _ _ _ h => h) (Or.inl ⟨by rfl, fun x hx => by go_simp⟩) hSq83 ?_
        simp only [Act.put, List.getElem_toArray, List.getElem_cons_zero, List.getElem_cons_succ, List.setIfInBounds_toArray, List.set_cons_zero, List.set_cons_succ]
        refine wpAnyH_ready (rs := [20]) (by kernel_rfl) (by simp) ?_
        refine AllReadyH.cons rfl (fun K hK => ?_) AllReadyH.nil
        have hrw7 := hrow4.drew.below bq80 hrow4.lt
        have hc := hrw7.cell 1 _ rfl
        have hf := hrw7.free 1
        go_simp
        refine hK.out _ _ ⟨hSq83.1.setOther ⟨r, 1, none⟩ _ (by show w3.heap.size ≠ r; omega), hSq83.2.1.setOther ⟨r, 1, none⟩ _ (by show w.heap.size ≠ r; omega), hSq83.2.2.setCell (p := ⟨r, 1, none⟩) (Nat.zero_le _) _⟩ (fun hSq84 => ?_)
        clear hK K hc hf
        refine wpAnyH_done (by kernel_rfl) ?_ _
        have hK9 := hSq84.1
        have hZ9 := hSq84.2.1
        have hrow9 := hrw7.set 1 (.slice aovq78 Nvq78 ccvq78)
        have hsd9 : SeedsAt (yq79.setCell ⟨r, 1, none⟩ (.slice aovq78 Nvq78 ccvq78)) (.slice aovq78 Nvq78 ccvq78) (l.take i ++ R ++ D) := sdq81.grown (grown_set (World.grownBy.refl _ _) 1 _) (fun q hq9 e => by have := hqq82 q hq9; simp at e; subst e; rcases this with h4 | h4; exact hg0r h4.symm; (have : w4.heap.size ≤ q := h4; have := hb5.size; omega))
        have g9 : World.grownBy yq79 (yq79.setCell ⟨r, 1, none⟩ (.slice aovq78 Nvq78 ccvq78)) (some r) := grown_set (World.grownBy.refl _ _) 1 _
        have b49 : Below w4.heap.size w4 yq79 := (below_drewN (Below.refl _ _) 1).trans bq80
        clear hSq84 hrw7
        generalize yq79.setCell ⟨r, 1, none⟩ (.slice aovq78 Nvq78 ccvq78) = W9 at hK9 hZ9 hrow9 hsd9 g9 ⊢
        go_wp2_with (first | ((with_reducible show wpList _ _ _ (⟨some 54, _, _, _, _, _⟩ :: _) _ _); refine wpList_loadBlk rfl 23 (.tmp 10) rfl w3.heap.size (by rfl) _ _ _ hK9 Try.underlying23 rfl (by rw [bv_size, HKK.out]; exact Try.sizeHash) ?_) | ((with_reducible show wpList _ _ _ (⟨none, Op.store _ (.tmp 6) _, _, _, _, _⟩ :: _) _ _); refine wpList_storeBlk rfl 23 (.tmp 6) (.tmp 54) rfl w.heap.size (kk.map bv).toArray (by rfl) (by rfl) _ _ hZ9 (by rw [bv_size, HKK.out]; exact Try.sizeHash) (by rw [bv_size, HKK.out, Z32_size]) (bv_all _) ?_; intro w5 hZ5 g5))
        refine ret_blk2 rfl w.heap.size _ _ _ (by rfl) hZ5 Try.underlying23 rfl (by rw [bv_size, HKK.out]; exact Try.sizeHash) rfl ?_
        rw [HLK.out, HTK.out, ← HD.out]
        have hrow5 := hrow9.grown g5 (by simp; omega)
        have hsd5 : SeedsAt w5 (.slice aovq78 Nvq78 ccvq78) (l.take i ++ R ++ D) := by
          refine hsd9.grown g5 (fun q hq9 e => ?_)
          simp at e
          rcases hqq82 q hq9 with h4 | h4
          · omega
          · have h5 : w4.heap.size ≤ q := h4
            have := hb5.size
            have := hK4.lt
            omega
        rw [HLF.out]
        exact ⟨rfl, ⟨_, hrow5, hsd5⟩, take_done HROW0.out HBK4.out b49 HIN.out.1 HAG0.out g9 g5 hrow5 hsd5 (fun q hq9 => hqq82 q hq9)⟩
  · have hw2 : withinT B p = false := by simpa using hw
    have hlk : lookT B p l = (zh32, 1) := by rw [lookT, if_neg hw]
    have HLK := Lib.hid hlk
    have HTK : Hid (takeT B p l = l) := by show _ = _; rw [takeT, if_neg hw]
    have HLF : Hid (lookF B p l = []) := by show _ = _; rw [lookF, if_neg hw]
    clear hlk hw
    go_enter Try.func19, Try.ntmps19
    go_wp2_with fail
    generalize w.alloc (.cells Z32 23) = W0 at hZ0 hb0 HR ⊢
    refine (within_calls r B l _ _ HR.out hB hp1 hp2).mono ?_
    rintro e w1 ⟨rfl, b1⟩
    rw [hw2]
    have hZ1 := hZ0.below b1 hZ0.lt
    have hb1 := hb0.below b1
    clear b1 hZ0 hb0 HR
    go_wp2_with (first | ((with_reducible show wpList _ _ _ (⟨some 16, _, _, _, _, _⟩ :: _) _ _); refine wpList_buildCells rfl 23 #[] rfl Z32 (by kernel_rfl) ?_) | ((with_reducible show wpList _ _ _ (⟨some 25, _, _, _, _, _⟩ :: _) _ _); refine wpList_buildCells rfl 23 #[] rfl Z32 (by kernel_rfl) ?_) | ((with_reducible show wpList _ _ _ (⟨none, Op.store _ (.tmp 6) _, _, _, _, _⟩ :: _) _ _); refine wpList_storeBlk rfl 23 (.tmp 6) _ rfl w.heap.size Z32 (by rfl) (by rfl) _ _ hZ1 Try.sizeHash rfl Z32_all ?_; intro wz hZz gz))
    refine ret_blk2 rfl w.heap.size _ _ _ (by rfl) hZz Try.underlying23 rfl Try.sizeHash rfl ?_
    rw [HLK.out]
    have hfin := hb1.store gz (Nat.le_refl _) (by omega)
    rw [HTK.out, HLF.out]
    exact ⟨rfl, take_same hfin HW.out HIN.out⟩
end Go.Proofs.Ytlomofcnknpciaa
