/-
  BookFollows: the walk.
-/
import Derived.Test.YtjjmcogdohnhjaaBookNoted
import Derived.WalkLawsBesides
import Derived.Outline
import Derived.Handy
set_option linter.unusedSimpArgs false
set_option linter.unusedVariables false
namespace Go.Proofs.Ytjjmcogdohnhjaa
open Go.RowKit


theorem FactsAt.ok {w : World} {v : Value} {fs : List FactT} (h : FactsAt w v fs) : ∀ f ∈ fs, (∀ x ∈ f.ins, x.length = 32) ∧ ∀ x ∈ f.outs, x.length = 32 := fun f hf => by
  obtain ⟨i, hi⟩ := List.getElem?_of_mem hf
  obtain ⟨ao, c, rfl, -⟩ := h.slice
  obtain ⟨g, o, a, b, -, -, -, -, -, h1, h2⟩ := h.fact i f hi
  exact ⟨h1.1, h2.1⟩
theorem Fews.of {w : World} {v : Value} {fs : List FactT} (h : FactsAt w v fs) (hb : fewB fs = true) : Fews fs := by
  obtain ⟨h1, h2⟩ := fewB_elim hb
  exact ⟨fun f hf => ⟨(h.ok f hf).1, (h.ok f hf).2, by have := (h2 f hf).1; omega, by have := (h2 f hf).2; omega⟩, h1, fun f hf => (h2 f hf).1, fun f hf => (h2 f hf).2⟩
theorem HashesAt.sliceM {w : World} {v : Value} {l : List HsT} (h : HashesAt w v l) : ∃ ao n c, v = .slice ao n c ∧ n = l.length := by
  obtain ⟨ao, c, e, -⟩ := h.slice
  exact ⟨_, _, _, e, rfl⟩
/-- (*Book).Follows of a book that was noted. -/
theorem Follows_noted (v : Value) (a : List HsT) (B b sm nm dm : Nat) (fs : List FactT) (names : List UInt8 → Option Value) (w : World) (hA : HashesAt w v a) (hB : BookIs w B b sm nm dm (bookT fs) names) (hf : Fews fs) (ha : a.length ≤ 100000) :
    Calls Try.prog 13 #[.pointer (some ⟨b, 0, none⟩), v] w fun e w' => ∃ v' R, e = .returned v' ∧ HashesAt w' v' R ∧ Rises R ∧ (∀ h, h ∈ R ↔ Fol fs a h) ∧ R.length ≤ 500000 ∧ Below w.heap.size w w' :=
  (Follows_gen _ v a (bookT fs) w (known_post v a b (bookT fs) w hA hB.rd (Nat.le_trans (hf.book.univ ha) (by omega)) (Nat.le_trans hf.book.len (by omega)) (Nat.le_trans hf.book.sum (by omega)))).mono
    fun e w' ⟨v', R, h1, h2, h3, h4, h5⟩ => ⟨v', R, h1, h2, h3, fun h => (h4 h).trans bookT_fol, h5⟩
theorem RefFollows_noted (v1 v2 : Value) (a : List HsT) (fs : List FactT) (base : Nat) (w : World) (hM : RFactsOwn w base v1 (bookT fs)) (hA : HashesAt w v2 a) (hf : Fews fs) (ha : a.length ≤ 100000) :
    Calls Try.prog 14 #[v1, v2] w fun e w' => ∃ v' R, e = .returned v' ∧ HashOwn w' w.heap.size 38 v' R ∧ Rises R ∧ (∀ h, h ∈ R ↔ Fol fs a h) ∧ Below w.heap.size w w' :=
  (RefFollows_calls v1 v2 (bookT fs) a w hM.at hA hf.book.ok (Nat.le_trans (hf.book.univ ha) (by omega)) (Nat.le_trans hf.book.len (by omega))).mono
    fun e w' ⟨v', R, h1, h2, h3, h4, h5⟩ => ⟨v', R, h1, h2, h3, fun h => (h4 h).trans bookT_fol, h5⟩
theorem fol_len {fs : List FactT} {a R : List HsT} (hr : Rises R) (hm : ∀ h, h ∈ R ↔ Fol fs a h) (hf : Fews fs) (ha : a.length ≤ 100000) : R.length ≤ 103600 :=
  Nat.le_trans (nodup_len hr.nodup fun x hx => ((hm x).1 hx).univ) (hf.univ ha)
theorem fol_same {fs : List FactT} {a R R' : List HsT} (h1 : Rises R) (h2 : Rises R') (h3 : ∀ x ∈ R, x.length = 32) (h4 : ∀ x ∈ R', x.length = 32) (h5 : ∀ h, h ∈ R ↔ Fol fs a h) (h6 : ∀ h, h ∈ R' ↔ Fol fs a h) : R = R' :=
  rises_ext h1 h2 h3 h4 fun x => (h5 x).trans (h6 x).symm
set_option maxHeartbeats 32000000 in
set_option maxRecDepth 100000 in
theorem walkBookFollows {w0 : World} (v : Value) (fs : List FactT) (hF : FactsAt w0 v fs) (hn : fs.length ≤ maxLen) (hb : ∀ f ∈ fs, FBound f) (v1 : Value) (a : List HsT) (hA : HashesAt w0 v1 a) (ha : a.length ≤ maxLen) (w : World) (hw : w0 = w := by rfl) :
    Calls Try.prog 3 #[v, v1] w fun e w' => e = .returned (.bool true) ∧ Below w.heap.size w w' := by
  subst hw
  obtain ⟨w, rfl⟩ : ∃ w : World, w = w0 := ⟨_, rfl⟩
  obtain ⟨base, hbase⟩ : ∃ base, base = w.heap.size := ⟨_, rfl⟩
  have HBS : Hid (base = w.heap.size) := hbase
  obtain ⟨ao, m, c, rfl, hm⟩ := hA.sliceM
  unfold maxLen at ha
  rw [← hm] at ha
  have HM := Lib.hid hm
  have HF := Lib.hid hF
  have HA := Lib.hid hA
  have HFB : Hid (fs.length ≤ maxLen ∧ ∀ f ∈ fs, FBound f) := ⟨hn, hb⟩
  clear hF hn hb hA hm
  rw [← hbase]
  have hB0 := Below.refl base w
  by_cases hf : fewB fs = true
  · have HFEW := Lib.hid hf
    have HWS : Hid (Fews fs) := Fews.of HF.out hf
    clear hf
    by_cases hl : m ≤ 60
    · have hlb : decide ((m : Int) > 60) = false := by rw [decide_eq_false_iff_not]; omega
      have HAL : Hid (a.length ≤ 100000) := by show _ ≤ _; rw [← HM.out]; omega
      go_enter Try.func3, Try.ntmps3
      go_wp2_with fail
      refine (awake_calls _).mono ?_
      rintro e wq21 ⟨rfl, bq22⟩
      have hCq23 := Lib.hid (HF.out.below bq22)
      have hCq24 := Lib.hid (HA.out.below bq22)
      have hBq25 := hB0.trans (bq22.mono (Nat.le_trans (Nat.le_of_eq HBS.out) hB0.size))
      clear HF HA hB0
      clear bq22
      go_wp2_with fail
      refine (few_calls _ fs _ hCq23.out HFB.out).mono ?_
      rintro e ww ⟨rfl, hww⟩
      subst hww
      rw [HFEW.out]
      go_wp2_with fail
      refine (noted_calls _ fs _ hCq23.out HWS.out).mono ?_
      rintro e wq26 ⟨b, sm, nm, dm, B, mv, rfl, hbi, hrf, hbB, hBw, bq27⟩
      have hCq28 := Lib.hid (hCq23.out.below bq27)
      have hCq29 := Lib.hid (hCq24.out.below bq27)
      have hBq30 := hBq25.trans (bq27.mono (Nat.le_trans (Nat.le_of_eq HBS.out) hBq25.size))
      clear hCq23 hCq24 hBq25
      clear bq27
      have hHq31 := Lib.hid hbi
      clear hbi
      have hHq32 := Lib.hid hrf
      clear hrf
      clear hbB hBw
      go_wp2_with fail
      refine (Follows_noted _ a B b sm nm dm fs _ _ hCq29.out hHq31.out HWS.out HAL.out).mono ?_
      rintro e wq33 ⟨v5, R, rfl, hR, hRi, hRm, hRl, bq34⟩
      have hCq35 := Lib.hid (hCq28.out.below bq34)
      have hCq36 := Lib.hid (hCq29.out.below bq34)
      have hCq37 := Lib.hid (hHq31.out.below bq34)
      have hCq38 := Lib.hid (hHq32.out.below bq34)
      have hBq39 := hBq30.trans (bq34.mono (Nat.le_trans (Nat.le_of_eq HBS.out) hBq30.size))
      clear hCq28 hCq29 hHq31 hHq32 hBq30
      clear bq34
      have hHq40 := Lib.hid hR
      clear hR
      have HRI := Lib.hid hRi
      have HRM := Lib.hid hRm
      have HRL := Lib.hid hRl
      clear hRi hRm hRl
      go_wp2_with fail
      refine (plain4_calls _ R _ hHq40.out (Nat.le_trans HRL.out (by omega))).mono ?_
      rintro e wq41 ⟨v6, rfl, hP, bq42⟩
      have hCq43 := Lib.hid (hCq35.out.below bq42)
      have hCq44 := Lib.hid (hCq36.out.below bq42)
      have hCq45 := Lib.hid (hCq37.out.below bq42)
      have hCq46 := Lib.hid (hCq38.out.below bq42)
      have hCq47 := Lib.hid (hHq40.out.below bq42)
      have hBq48 := hBq39.trans (bq42.mono (Nat.le_trans (Nat.le_of_eq HBS.out) hBq39.size))
      clear hCq35 hCq36 hCq37 hCq38 hHq40 hBq39
      clear bq42
      have hHq49 := Lib.hid hP
      clear hP
      go_wp2_with fail
      refine (plain4_calls _ a _ hCq44.out (Nat.le_trans HAL.out (by omega))).mono ?_
      rintro e wq50 ⟨v7, rfl, hQ, bq51⟩
      have hCq52 := Lib.hid (hCq43.out.below bq51)
      have hCq53 := Lib.hid (hCq44.out.below bq51)
      have hCq54 := Lib.hid (hCq45.out.below bq51)
      have hCq55 := Lib.hid (hCq46.out.below bq51)
      have hCq56 := Lib.hid (hCq47.out.below bq51)
      have hCq57 := Lib.hid (hHq49.out.below bq51)
      have hBq58 := hBq48.trans (bq51.mono (Nat.le_trans (Nat.le_of_eq HBS.out) hBq48.size))
      clear hCq43 hCq44 hCq45 hCq46 hCq47 hHq49 hBq48
      clear bq51
      have hHq59 := Lib.hid hQ
      clear hQ
      go_wp2_with fail
      refine (RefFollows_noted _ _ a fs _ _ hCq55.out hHq59.out.at HWS.out HAL.out).mono ?_
      rintro e wq60 ⟨v8, R2, rfl, hR2, hR2i, hR2m, bq61⟩
      have hCq62 := Lib.hid (hCq52.out.below bq61)
      have hCq63 := Lib.hid (hCq53.out.below bq61)
      have hCq64 := Lib.hid (hCq54.out.below bq61)
      have hCq65 := Lib.hid (hCq55.out.below bq61)
      have hCq66 := Lib.hid (hCq56.out.below bq61)
      have hCq67 := Lib.hid (hCq57.out.below bq61)
      have hCq68 := Lib.hid (hHq59.out.below bq61)
      have hBq69 := hBq58.trans (bq61.mono (Nat.le_trans (Nat.le_of_eq HBS.out) hBq58.size))
      clear hCq52 hCq53 hCq54 hCq55 hCq56 hCq57 hHq59 hBq58
      clear bq61
      have hHq70 := Lib.hid hR2
      clear hR2
      have HR2I := Lib.hid hR2i
      have HR2M := Lib.hid hR2m
      clear hR2i hR2m
      have HSAME : Hid (decide (R = R2) = true) := decide_eq_true (fol_same HRI.out HR2I.out hCq67.out.1 hHq70.out.1 HRM.out HR2M.out)
      have HR2L : Hid (R2.length ≤ 103600) := fol_len HR2I.out HR2M.out HWS.out HAL.out
      go_wp2_with fail
      refine (Alike_calls _ _ R R2 _ hCq67.out.at hHq70.out.at (Nat.le_trans HRL.out (by omega)) (Nat.le_trans HR2L.out (by omega))).mono ?_
      rintro e wq71 ⟨rfl, bq72⟩
      have hCq73 := Lib.hid (hCq62.out.below bq72)
      have hCq74 := Lib.hid (hCq63.out.below bq72)
      have hCq75 := Lib.hid (hCq64.out.below bq72)
      have hCq76 := Lib.hid (hCq65.out.below bq72)
      have hCq77 := Lib.hid (hCq66.out.below bq72)
      have hCq78 := Lib.hid (hCq67.out.below bq72)
      have hCq79 := Lib.hid (hCq68.out.below bq72)
      have hCq80 := Lib.hid (hHq70.out.below bq72)
      have hBq81 := hBq69.trans (bq72.mono (Nat.le_trans (Nat.le_of_eq HBS.out) hBq69.size))
      clear hCq62 hCq63 hCq64 hCq65 hCq66 hCq67 hCq68 hHq70 hBq69
      clear bq72
      rw [HSAME.out]
      go_wp2_with fail
      go_returns
      exact ⟨rfl, hBq81⟩
    · have hlb : decide ((m : Int) > 60) = true := by rw [decide_eq_true_eq]; omega
      go_enter Try.func3, Try.ntmps3
      go_wp2_with fail
      refine (awake_calls _).mono ?_
      rintro e wq1 ⟨rfl, bq2⟩
      have hCq3 := Lib.hid (HF.out.below bq2)
      have hCq4 := Lib.hid (HA.out.below bq2)
      have hBq5 := hB0.trans (bq2.mono (Nat.le_trans (Nat.le_of_eq HBS.out) hB0.size))
      clear HF HA hB0
      clear bq2
      go_wp2_with fail
      refine (few_calls _ fs _ hCq3.out HFB.out).mono ?_
      rintro e ww ⟨rfl, hww⟩
      subst hww
      rw [HFEW.out]
      go_wp2_with fail
      refine (awake_calls _).mono ?_
      rintro e wq6 ⟨rfl, bq7⟩
      have hCq8 := Lib.hid (hCq3.out.below bq7)
      have hCq9 := Lib.hid (hCq4.out.below bq7)
      have hBq10 := hBq5.trans (bq7.mono (Nat.le_trans (Nat.le_of_eq HBS.out) hBq5.size))
      clear hCq3 hCq4 hBq5
      clear bq7
      go_wp2_with fail
      go_returns
      exact ⟨rfl, hBq10⟩
  · have HFEW : Hid (fewB fs = false) := by show _ = _; simpa using hf
    clear hf
    go_enter Try.func3, Try.ntmps3
    go_wp2_with fail
    refine (awake_calls _).mono ?_
    rintro e wq11 ⟨rfl, bq12⟩
    have hCq13 := Lib.hid (HF.out.below bq12)
    have hCq14 := Lib.hid (HA.out.below bq12)
    have hBq15 := hB0.trans (bq12.mono (Nat.le_trans (Nat.le_of_eq HBS.out) hB0.size))
    clear HF HA hB0
    clear bq12
    go_wp2_with fail
    refine (few_calls _ fs _ hCq13.out HFB.out).mono ?_
    rintro e ww ⟨rfl, hww⟩
    subst hww
    rw [HFEW.out]
    go_wp2_with fail
    refine (awake_calls _).mono ?_
    rintro e wq16 ⟨rfl, bq17⟩
    have hCq18 := Lib.hid (hCq13.out.below bq17)
    have hCq19 := Lib.hid (hCq14.out.below bq17)
    have hBq20 := hBq15.trans (bq17.mono (Nat.le_trans (Nat.le_of_eq HBS.out) hBq15.size))
    clear hCq13 hCq14 hBq15
    clear bq17
    go_wp2_with fail
    go_returns
    exact ⟨rfl, hBq20⟩
end Go.Proofs.Ytjjmcogdohnhjaa
