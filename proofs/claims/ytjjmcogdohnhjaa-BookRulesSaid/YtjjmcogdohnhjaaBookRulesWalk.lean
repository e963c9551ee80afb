/-
  BookRules: the walk.
-/
import Derived.Test.YtjjmcogdohnhjaaBookFollowsWalk
import Derived.WalkLawsBesides
import Derived.Outline
import Derived.Handy
set_option linter.unusedSimpArgs false
set_option linter.unusedVariables false
namespace Go.Proofs.Ytjjmcogdohnhjaa
open Go.RowKit

/-- (*Book).Knows of a book that was noted. -/
theorem Knows_noted (v : Value) (a : List HsT) (B b sm nm dm : Nat) (fs : List FactT) (names : List UInt8 → Option Value) (w : World) (h : HsT) (hh : h.length = 32) (hA : HashesAt w v a) (hB : BookIs w B b sm nm dm (bookT fs) names) (hf : Fews fs) (ha : a.length ≤ 100000) (D : Bool) (hD : D = true ↔ Fol (bookT fs) a h) :
    Calls Try.prog 15 #[.pointer (some ⟨b, 0, none⟩), .agg (h.map bv).toArray, v] w fun e w' => e = .returned (.bool D) ∧ Below w.heap.size w w' :=
  Knows_calls _ v h a (bookT fs) w hh (fun w' bl => known_post v a b (bookT fs) w' (hA.below bl) (hB.below bl).rd (Nat.le_trans (hf.book.univ ha) (by omega)) (Nat.le_trans hf.book.len (by omega)) (Nat.le_trans hf.book.sum (by omega))) D hD
def saidT (R a : List HsT) (h : HsT) (l : List FactT) : Bool := decide (h ∈ a) || l.any fun f => allIn R f.ins && decide (h ∈ f.outs)
theorem saidT_snoc (R a : List HsT) (h : HsT) (l : List FactT) (f : FactT) : saidT R a h (l ++ [f]) = (saidT R a h l || (allIn R f.ins && decide (h ∈ f.outs))) := by
  unfold saidT
  rw [List.any_append, List.any_cons, List.any_nil, Bool.or_false, Bool.or_assoc]
theorem saidT_fol {fs : List FactT} {R a : List HsT} {h : HsT} (hm : ∀ x, x ∈ R ↔ Fol fs a x) (hs : saidT R a h fs = false) : ¬ Fol fs a h := fun hf => by
  unfold saidT at hs
  rw [Bool.or_eq_false_iff, decide_eq_false_iff_not] at hs
  cases hf with
  | base h0 => exact hs.1 h0
  | @step f _ hf hi ho =>
    have h1 := hs.2
    rw [List.any_eq_false] at h1
    have h2 := h1 f hf
    apply h2
    rw [Bool.and_eq_true]
    exact ⟨decide_eq_true fun x hx => (hm x).2 (hi x hx), decide_eq_true ho⟩
set_option maxHeartbeats 32000000 in
set_option maxRecDepth 100000 in
theorem walkBookRules {w0 : World} (v : Value) (fs : List FactT) (hF : FactsAt w0 v fs) (hn : fs.length ≤ maxLen) (hb : ∀ f ∈ fs, FBound f) (v1 : Value) (a : List HsT) (hA : HashesAt w0 v1 a) (ha : a.length ≤ maxLen) (h : HsT) (hh : h.length = 32) (w : World) (hw : w0 = w := by rfl) :
    Calls Try.prog 5 #[v, v1, .agg (h.map bv).toArray] w fun e w' => e = .returned (.bool true) ∧ Below w.heap.size w w' := by
  subst hw
  obtain ⟨w, rfl⟩ : ∃ w : World, w = w0 := ⟨_, rfl⟩
  obtain ⟨base, hbase⟩ : ∃ base, base = w.heap.size := ⟨_, rfl⟩
  have HBS : Hid (base = w.heap.size) := hbase
  obtain ⟨ao, m, c, rfl, hm⟩ := hA.sliceM
  obtain ⟨vao, vc, rfl, hvc⟩ := hF.slice
  obtain ⟨n, hnn⟩ : ∃ n, n = fs.length := ⟨_, rfl⟩
  rw [← hnn] at hF hvc hn ⊢
  unfold maxLen at ha hn
  rw [← hm] at ha
  have HM := Lib.hid hm
  have HN := Lib.hid hnn
  have HF := Lib.hid hF
  have HA := Lib.hid hA
  have HH := Lib.hid hh
  have HFB : Hid (fs.length ≤ maxLen ∧ ∀ f ∈ fs, FBound f) := ⟨by unfold maxLen; rw [← hnn]; exact hn, hb⟩
  have HA32 := Lib.hid hA.1
  have HAA : Hid (∀ w', Below base w w' → HashesAt w' (.slice ao m c) a) := fun w' b => by rw [hbase] at b; exact hA.below b
  have HFA : Hid (∀ (i : Nat) (f : FactT), fs[i]? = some f → ∃ g o x y, vao = some ⟨g, o, none⟩ ∧ ∀ w', Below base w w' → w'.cell? ⟨g, o + i * 2, none⟩ = some x ∧ w'.cell? ⟨g, o + i * 2 + 1, none⟩ = some y ∧ HashesAt w' x f.ins ∧ HashesAt w' y f.outs) := fun i f hi => by
    obtain ⟨g, o, x, y, h1, h2, -, h3, h4, h5, h6⟩ := hF.fact i f hi
    refine ⟨g, o, x, y, h1, fun w' b => ?_⟩
    rw [hbase] at b
    exact ⟨(b.cell (p := ⟨g, _, none⟩) h2).trans h3, (b.cell (p := ⟨g, _, none⟩) h2).trans h4, h5.below b, h6.below b⟩
  clear hF hb hA hm hh hnn
  rw [← hbase]
  have hB0 := Below.refl base w
  by_cases hf : fewB fs = true
  · have HFEW := Lib.hid hf
    have HWS : Hid (Fews fs) := Fews.of HF.out hf
    clear hf
    by_cases hl : m ≤ 60
    · have hlb : decide ((m : Int) > 60) = false := by rw [decide_eq_false_iff_not]; omega
      have HAL : Hid (a.length ≤ 100000) := by show _ ≤ _; rw [← HM.out]; omega
      go_enter Try.func5, Try.ntmps5
      go_wp2_with ((with_reducible show wpList _ _ _ (⟨some 5, _, _, _, _, _⟩ :: _) _ _); refine wpList_boxA rfl 39 (.tmp 2) rfl (h.map bv).toArray (by rfl) ?_; intro wq405 bq406 nq407; have hCq408 := Lib.hid (HF.out.below bq406); have hCq409 := Lib.hid (HA.out.below bq406); have hBq410 := hB0.trans (bq406.mono (Nat.le_trans (Nat.le_of_eq HBS.out) hB0.size)); clear HF HA hB0; clear bq406)
      have ltq413 : w.heap.size < wq405.heap.size := nq407.lt
      refine (awake_calls _).mono ?_
      rintro e wq411 ⟨rfl, bq412⟩
      have hCq414 := Lib.hid (hCq408.out.below bq412)
      have hCq415 := Lib.hid (hCq409.out.below bq412)
      have hCq416 := nq407.below bq412 nq407.lt
      have hBq417 := hBq410.trans (bq412.mono (Nat.le_trans (Nat.le_of_eq HBS.out) hBq410.size))
      clear hCq408 hCq409 nq407 hBq410
      clear bq412
      go_wp2_with fail
      refine (few_calls _ fs _ hCq414.out HFB.out).mono ?_
      rintro e ww ⟨rfl, hww⟩
      subst hww
      rw [HFEW.out]
      go_wp2_with fail
      have ltq420 : w.heap.size < wq411.heap.size := hCq416.lt
      refine (noted_calls _ fs _ hCq414.out HWS.out).mono ?_
      rintro e wq418 ⟨b, sm, nm, dm, B, mv, rfl, hbi, hrf, hbB, hBw, bq419⟩
      have hCq421 := Lib.hid (hCq414.out.below bq419)
      have hCq422 := Lib.hid (hCq415.out.below bq419)
      have hCq423 := hCq416.below bq419 hCq416.lt
      have hBq424 := hBq417.trans (bq419.mono (Nat.le_trans (Nat.le_of_eq HBS.out) hBq417.size))
      clear hCq414 hCq415 hCq416 hBq417
      clear bq419
      have hHq425 := Lib.hid hbi
      clear hbi
      clear hbB hBw hrf
      go_wp2_with fail
      have ltq428 : w.heap.size < wq418.heap.size := hCq423.lt
      refine (Follows_noted _ a B b sm nm dm fs _ _ hCq422.out hHq425.out HWS.out HAL.out).mono ?_
      rintro e wq426 ⟨v5, R, rfl, hR, hRi, hRm, hRl, bq427⟩
      have hCq429 := Lib.hid (hCq421.out.below bq427)
      have hCq430 := Lib.hid (hCq422.out.below bq427)
      have hCq431 := hCq423.below bq427 hCq423.lt
      have hCq432 := Lib.hid (hHq425.out.below bq427)
      have hBq433 := hBq424.trans (bq427.mono (Nat.le_trans (Nat.le_of_eq HBS.out) hBq424.size))
      clear hCq421 hCq422 hCq423 hHq425 hBq424
      clear bq427
      have hHq434 := Lib.hid hR
      clear hR
      have HRM := Lib.hid hRm
      have HRL := Lib.hid hRl
      clear hRi hRm hRl
      go_wp2_with fail
      have ltq437 : w.heap.size < wq426.heap.size := hCq431.lt
      refine (plain4_calls _ R _ hHq434.out (Nat.le_trans HRL.out (by omega))).mono ?_
      rintro e wq435 ⟨v6, rfl, hP, bq436⟩
      have hCq438 := Lib.hid (hCq429.out.below bq436)
      have hCq439 := Lib.hid (hCq430.out.below bq436)
      have hCq440 := hCq431.below bq436 hCq431.lt
      have hCq441 := Lib.hid (hCq432.out.below bq436)
      have hCq442 := Lib.hid (hHq434.out.below bq436)
      have hBq443 := hBq433.trans (bq436.mono (Nat.le_trans (Nat.le_of_eq HBS.out) hBq433.size))
      clear hCq429 hCq430 hCq431 hCq432 hHq434 hBq433
      clear bq436
      have hHq444 := Lib.hid hP
      clear hP
      go_wp2_with fail
      obtain ⟨pao, pn, pc, rfl, hpn⟩ := hHq444.out.at.sliceM
      clear hpn
      have HW1 : Hid (base ≤ wq435.heap.size) := Nat.le_trans (Nat.le_of_eq HBS.out) hBq443.size
      have HB1 := Lib.hid hBq443
      obtain ⟨hb, hhb⟩ : ∃ x, x = w.heap.size := ⟨_, rfl⟩
      have HHB1 : Hid (Blk wq435 hb (h.map bv).toArray 39) := by show Blk _ _ _ _; rw [hhb]; exact hCq440
      rw [← hhb]
      have HPP : Hid (∀ x, Below wq435.heap.size wq435 x → HashesAt x (.slice pao pn pc) R) := fun x bx => hHq444.out.at.below bx
      have HBK : Hid (∀ x, Below wq435.heap.size wq435 x → BookIs x B b sm nm dm (bookT fs) (fun _ => none)) := fun x bx => hCq441.out.below bx
      have HHB : Hid (∀ x, Below wq435.heap.size wq435 x → Blk x hb (h.map bv).toArray 39) := fun x bx => HHB1.out.below bx HHB1.out.lt
      obtain ⟨W1, hW1⟩ : ∃ x, x = wq435 := ⟨_, rfl⟩
      obtain ⟨B1, hB1⟩ : ∃ x, x = wq435.heap.size := ⟨_, rfl⟩
      rw [← hB1, ← hW1] at HPP HBK HHB
      rw [← hW1] at HW1 HB1
      rw [← hW1]
      have HB1S : Hid (B1 = W1.heap.size) := by show _ = _; rw [hB1, hW1]
      have HBW : Hid (∀ x, Below B1 W1 x → Below base w x) := fun x bx => HB1.out.trans (bx.mono (by rw [HB1S.out]; exact HW1.out))
      have HGO : Hid (∀ x y, Below B1 W1 x → Below x.heap.size x y → Below B1 W1 y) := fun x y b1 b2 => b1.trans (b2.mono (by rw [HB1S.out]; exact HB1S.out ▸ b1.size))
      have HP32 := Lib.hid hHq444.out.1
      clear hhb hB1 hW1 HB1 HHB1 hBq443 hCq440 hHq444 hCq441 hCq442 hCq438 hCq439
      go_loopw [11] (fun i wr => ∃ (k : Nat), k ≤ m ∧ i = .int .i64 (k : Nat) ∧ Hid (Below B1 W1 wr)) (fun i _ => m - (intOf i).toNat)
      case atStart => exact ⟨0, by omega, rfl, Lib.hid (Below.refl _ _)⟩
      case round =>
        obtain ⟨k, hk, rfl, HB⟩ := hrel
        by_cases hlt : k < m
        · obtain ⟨s, hs⟩ : ∃ s, a[k]? = some s := ⟨a[k]'(by rw [← HM.out]; omega), List.getElem?_eq_getElem _⟩
          have HS : Hid (s.length = 32) := HA32.out s (List.mem_of_getElem? hs)
          have HD : Hid (decide (s ∈ R) = true) := decide_eq_true ((HRM.out s).2 (.base (List.mem_of_getElem? hs)))
          obtain ⟨g, o, rfl, hr⟩ := (HAA.out _ (HBW.out _ HB.out)).range k s hs
          have HR := Lib.hid hr
          clear hs hr
          go_wp2_with ((with_reducible show wpList _ _ _ (⟨some 50, _, _, _, _, _⟩ :: _) _ _); refine wpList_load_mid rfl 39 (.tmp 49) rfl g (o + k * 32) (by rfl) (s.map bv) _ HR.out Try.underlying39 rfl (by rw [List.length_map, HS.out]; exact Try.sizeHash) ?_)
          refine (Has_calls _ R s HS.out wr (HPP.out _ HB.out) (Nat.le_trans HRL.out (by omega))).mono ?_
          rintro e w2 ⟨rfl, b2⟩
          rw [HD.out]
          have HB2 := Lib.hid (HGO.out _ _ HB.out b2)
          clear b2
          go_wp2_with fail
          go_roundw
          case rel => exact ⟨k + 1, by omega, by go_num, HB2⟩
          case measure => simp [intOf]; omega
        · obtain rfl : m = k := by omega
          go_wp2_with fail
          have hB := HB.out
          refine wp_region_held_drew (S := fun x => Below B1 W1 x) (by kernel_rfl) (below_drewN hB 1) (fun hSq445 => ?_)
          refine wpAnyH_take (i := 0) (v := Value.slice ao m c) rfl (by kernel_rfl) (by kernel_rfl) (by kernel_rfl) (fun _ _ _ h => h) (Or.inl ⟨by rfl, fun x hx => by go_simp⟩) hSq445 ?_
          simp only [Act.put, List.getElem_toArray, List.getElem_cons_zero, List.getElem_cons_succ, List.setIfInBounds_toArray, List.set_cons_zero, List.set_cons_succ]
          refine wpAnyH_take (i := 2) rfl (by kernel_rfl) (by kernel_rfl) (by kernel_rfl) (fun _ _ _ h => h) (yieldsIf_load_mid (by rfl) 39 (.tmp 5) rfl (hb) (0) (by rfl) (h.map bv) _ (fun x hx => blk_rangeP (HHB.out _ hx)) Try.underlying39 rfl (by rw [List.length_map, HH.out]; exact Try.sizeHash)) hSq445 ?_
          simp only [Act.put, List.getElem_toArray, List.getElem_cons_zero, List.getElem_cons_succ, List.setIfInBounds_toArray, List.set_cons_zero, List.set_cons_succ]
          refine wpAnyH_ready (rs := [1]) (by kernel_rfl) (by simp) ?_
          refine AllReadyH.cons rfl (fun K hK => ?_) AllReadyH.nil
          go_simp
          go_wp2_with (go_at_call 12; refine (plain4_calls _ a _ (HAA.out _ (HBW.out _ hSq445)) (Nat.le_trans HAL.out (by omega))).mono ?_; rintro e yq446 ⟨v7, rfl, hQ, bq447⟩; have HQ := Lib.hid hQ; clear hQ)
          refine hK.out _ _ (HGO.out _ _ hSq445 bq447) (fun hSq448 => ?_)
          clear hK K hSq445 bq447
          refine wpAnyH_ready (rs := [3]) (by kernel_rfl) (by simp) ?_
          refine AllReadyH.cons rfl (fun K hK => ?_) AllReadyH.nil
          go_simp
          go_wp2_with (go_at_call 17; refine (Has_calls _ a h HH.out _ HQ.out.at (Nat.le_trans HAL.out (by omega))).mono ?_; rintro e yq449 ⟨rfl, bq450⟩)
          have hHq451 := Lib.hid (HQ.out.below bq450)
          refine hK.out _ _ (HGO.out _ _ hSq448 bq450) (fun hSq452 => ?_)
          clear hK K hSq448 bq450
          refine wpAnyH_ready (rs := [4]) (by kernel_rfl) (by simp) ?_
          refine AllReadyH.cons rfl (fun K hK => ?_) AllReadyH.nil
          go_simp
          refine hK.out _ _ hSq452 (fun hSq453 => ?_)
          clear hK K hSq452
          refine wpAnyH_done (by kernel_rfl) ?_ _
          have HB3 := Lib.hid hSq453
          clear hSq453
          obtain ⟨S0, hS0⟩ : ∃ S, S = decide (h ∈ a) := ⟨_, rfl⟩
          rw [← hS0]
          have HS0 : Hid (S0 = saidT R a h (fs.take 0)) := by show _ = _; rw [hS0]; simp [saidT]
          clear hS0
          go_wp2_with fail
          go_loopw [12, 13] (fun sd i wr => ∃ (i' : Nat) (S : Bool), i' ≤ n ∧ i = .int .i64 (i' : Nat) ∧ sd = .bool S ∧ Hid (S = saidT R a h (fs.take i')) ∧ Hid (Below B1 W1 wr)) (fun _ i _ => n - (intOf i).toNat)
          case atStart => exact ⟨0, S0, by omega, rfl, rfl, HS0, HB3⟩
          case round =>
            clear HS0 HB3 HB hB
            obtain ⟨i, S, hi, rfl, rfl, HSD, HB⟩ := hrel
            by_cases hlt : i < n
            · obtain ⟨f, hf⟩ : ∃ f, fs[i]? = some f := ⟨fs[i]'(by rw [← HN.out]; omega), List.getElem?_eq_getElem _⟩
              have HFK := Lib.hid hf
              have HFM := Lib.hid (List.mem_of_getElem? hf)
              have HFO := Lib.hid (HWS.out.ok f (List.mem_of_getElem? hf))
              obtain ⟨g, o, x, y, rfl, hc⟩ := HFA.out i f hf
              obtain ⟨-, -, hx, hy⟩ := hc _ (HBW.out _ HB.out)
              obtain ⟨xao, xc, rfl, hxc⟩ := hx.slice
              obtain ⟨yao, yc, rfl, hyc⟩ := hy.slice
              obtain ⟨p, hp⟩ : ∃ p, p = f.ins.length := ⟨_, rfl⟩
              obtain ⟨q, hq⟩ : ∃ q, q = f.outs.length := ⟨_, rfl⟩
              have hpl := HFO.out.li
              have hql := HFO.out.lo
              rw [← hp] at hx hxc hpl hc
              rw [← hq] at hy hyc hql hc
              have HC : Hid (∀ x, Below B1 W1 x → x.cell? ⟨g, o + i * 2, none⟩ = some (.slice xao p xc) ∧ x.cell? ⟨g, o + i * 2 + 1, none⟩ = some (.slice yao q yc) ∧ HashesAt x (.slice xao p xc) f.ins ∧ HashesAt x (.slice yao q yc) f.outs) := fun x bx => hc x (HBW.out x bx)
              have HPL := Lib.hid hp
              have HQL := Lib.hid hq
              clear hf hc hx hy hp hq
              go_wp2_with fail
              obtain ⟨wo, rfl⟩ : ∃ wo : World, wo = wr := ⟨_, rfl⟩
              go_loopw [14, 15] (fun al k wx => ∃ (k' : Nat) (A : Bool), k' ≤ p ∧ k = .int .i64 (k' : Nat) ∧ al = .bool A ∧ Hid (A = allIn R (f.ins.take k')) ∧ Hid (Below B1 W1 wx)) (fun _ k _ => p - (intOf k).toNat)
              case atStart => exact ⟨0, true, by omega, rfl, rfl, Lib.hid (allIn_nil R).symm, HB⟩
              case round =>
                obtain ⟨k, A, hk, rfl, rfl, HAL1, HBX⟩ := hrel
                obtain ⟨hca, hcb, hX, hY⟩ := HC.out wr HBX.out
                by_cases hlt2 : k < p
                · obtain ⟨s, hs⟩ : ∃ s, f.ins[k]? = some s := ⟨f.ins[k]'(by rw [← HPL.out]; omega), List.getElem?_eq_getElem _⟩
                  have HS : Hid (s.length = 32) := HFO.out.ins s (List.mem_of_getElem? hs)
                  have HSN : Hid (allIn R (f.ins.take (k + 1)) = (A && decide (s ∈ R))) := by
                    show _ = _
                    obtain ⟨h3, h4⟩ := List.getElem?_eq_some_iff.1 hs
                    rw [List.take_succ_eq_append_getElem h3, h4, allIn_snoc, HAL1.out]
                  obtain ⟨g2, o2, rfl, hr⟩ := hX.range k s hs
                  have HR := Lib.hid hr
                  clear hs hr hX hY
                  cases A with
                  | true =>
                    obtain ⟨D, hD⟩ : ∃ D, D = decide (s ∈ R) := ⟨_, rfl⟩
                    have HD : Hid (decide (s ∈ R) = D) := hD.symm
                    have HSM : Hid (D = allIn R (f.ins.take (k + 1))) := by show _ = _; rw [HSN.out, hD]; rfl
                    clear hD
                    go_wp2_with ((with_reducible show wpList _ _ _ (⟨some 83, _, _, _, _, _⟩ :: _) _ _); refine wpList_if (by rfl) (wp_load_mid 39 (.tmp 82) rfl g2 (o2 + k * 32) (by rfl) (s.map bv) _ HR.out Try.underlying39 rfl (by rw [List.length_map, HS.out]; exact Try.sizeHash) ?_))
                    refine (Has_calls _ R s HS.out wr (HPP.out _ HBX.out) (Nat.le_trans HRL.out (by omega))).mono ?_
                    rintro e w2 ⟨rfl, b2⟩
                    rw [HD.out]
                    have HB2 := Lib.hid (HGO.out _ _ HBX.out b2)
                    clear b2
                    go_wp2_with fail
                    go_roundw
                    case rel => exact ⟨k + 1, D, by omega, by go_num, rfl, HSM, HB2⟩
                    case measure => simp [intOf]; omega
                  | false =>
                    go_wp2_with fail
                    go_roundw
                    case rel => exact ⟨k + 1, false, by omega, by go_num, rfl, HSN.out.symm, HBX⟩
                    case measure => simp [intOf]; omega
                · obtain rfl : p = k := by omega
                  have HAL2 : Hid (A = allIn R f.ins) := by show _ = _; rw [HAL1.out, HPL.out, List.take_length]
                  clear HAL1 hX hY HB
                  obtain ⟨S1, hS1⟩ : ∃ S1, S1 = S := ⟨_, rfl⟩
                  have HS1 : Hid (S1 = saidT R a h (fs.take i)) := by show _ = _; rw [hS1]; exact HSD.out
                  have HSS : Hid (S = (S1 || (A && decide (h ∈ f.outs.take 0)))) := by show _ = _; rw [hS1]; cases S <;> simp
                  have HNXT : Hid (saidT R a h (fs.take (i + 1)) = (S1 || (A && decide (h ∈ f.outs)))) := by
                    show _ = _
                    obtain ⟨h3, h4⟩ := List.getElem?_eq_some_iff.1 HFK.out
                    rw [List.take_succ_eq_append_getElem h3, h4, saidT_snoc, HAL2.out, HS1.out]
                  clear hS1 HSD
                  go_wp2_with fail
                  obtain ⟨wq, rfl⟩ : ∃ wq : World, wq = wr := ⟨_, rfl⟩
                  go_loopw [12, 16] (fun sd k wx => ∃ (k' : Nat) (S : Bool), k' ≤ q ∧ k = .int .i64 (k' : Nat) ∧ sd = .bool S ∧ Hid (S = (S1 || (A && decide (h ∈ f.outs.take k')))) ∧ Hid (Below B1 W1 wx)) (fun _ k _ => q - (intOf k).toNat)
                  case atStart => exact ⟨0, S, by omega, rfl, rfl, HSS, HBX⟩
                  case round =>
                    clear HSS HBX
                    obtain ⟨k, S, hk, rfl, rfl, HSS, HB⟩ := hrel
                    obtain ⟨hca, hcb, hX, hY⟩ := HC.out wr HB.out
                    by_cases hlt3 : k < q
                    · obtain ⟨s, hs⟩ : ∃ s, f.outs[k]? = some s := ⟨f.outs[k]'(by rw [← HQL.out]; omega), List.getElem?_eq_getElem _⟩
                      have HS : Hid (s.length = 32) := HFO.out.outs s (List.mem_of_getElem? hs)
                      have HSN : Hid ((S1 || (A && decide (h ∈ f.outs.take (k + 1)))) = (S || (A && decide (h = s)))) := by
                        show _ = _
                        obtain ⟨h3, h4⟩ := List.getElem?_eq_some_iff.1 hs
                        rw [List.take_succ_eq_append_getElem h3, h4, HSS.out]
                        have e : decide (h ∈ f.outs.take k ++ [s]) = (decide (h ∈ f.outs.take k) || decide (h = s)) := by rw [Bool.eq_iff_iff]; simp
                        rw [e]
                        cases S1 <;> cases A <;> simp
                      have HD : Hid (A = true → decide (s ∈ R) = true) := fun e => by
                        have e1 := HAL2.out
                        rw [e] at e1
                        have e2 : ∀ x ∈ f.ins, x ∈ R := of_decide_eq_true e1.symm
                        exact decide_eq_true ((HRM.out s).2 (.step HFM.out (fun x hx => (HRM.out x).1 (e2 x hx)) (List.mem_of_getElem? hs)))
                      obtain ⟨g2, o2, rfl, hr⟩ := hY.range k s hs
                      have HR := Lib.hid hr
                      have HRK : Hid (∀ x, Below B1 W1 x → x.rangeAt g2 (o2 + k * 32) (s.map bv)) := fun x bx => (HC.out x bx).2.2.2.range' k s hs
                      clear hs hr hX hY
                      cases A with
                      | true =>
                        have HD2 : Hid (decide (s ∈ R) = true) := HD.out rfl
                        clear HD
                        go_wp2_with ((with_reducible show wpList _ _ _ (⟨some 106, _, _, _, _, _⟩ :: _) _ _); refine wpList_if (by rfl) (wp_load_mid 39 (.tmp 105) rfl g2 (o2 + k * 32) (by rfl) (s.map bv) _ HR.out Try.underlying39 rfl (by rw [List.length_map, HS.out]; exact Try.sizeHash) ?_))
                        refine (Has_calls _ R s HS.out wr (HPP.out _ HB.out) (Nat.le_trans HRL.out (by omega))).mono ?_
                        rintro e w2 ⟨rfl, b2⟩
                        rw [HD2.out]
                        have HB2 := Lib.hid (HGO.out _ _ HB.out b2)
                        obtain ⟨hca, hcb, -, -⟩ := HC.out w2 HB2.out
                        clear b2
                        go_wp2_with fail
                        cases S with
                        | true =>
                          refine wp_region_quiet_lit (by kernel_rfl) (by kernel_rfl) ?_
                          repeat (first | go_big_quiet_step (fail))
                          refine wpQuiet_nil ?_
                          intro _ hw'
                          obtain ⟨nq, hw''⟩ := hw'
                          subst hw''
                          go_wp2_with fail
                          go_roundw
                          case rel => exact ⟨k + 1, true, by omega, by go_num, rfl, Lib.hid (by rw [HSN.out]; rfl), Lib.hid (below_drewN HB2.out _)⟩
                          case measure => simp [intOf]; omega
                        | false =>
                          by_cases he : s = h
                          · subst he
                            have heq : ∀ x, (Op.equalIn 10000 39 (.agg (s.map bv).toArray) (.agg (s.map bv).toArray)).run Try.prog x = .ok true x := fun x => by rw [run_eq_hash x s s HS.out HS.out]; simp
                            refine wp_region_quiet_lit (by kernel_rfl) (by kernel_rfl) ?_
                            repeat (first | ((with_reducible show wpQuiet _ _ _ _ (⟨some 121, _, _, _, _, _⟩ :: _) _); refine wpQuiet_loadMid (by rfl) 39 (.tmp 120) rfl g2 (o2 + k * 32) (by rfl) (s.map bv) _ (fun w' hw' => by obtain ⟨nq, rfl⟩ := hw'; exact HRK.out _ (below_drewN HB2.out _)) Try.underlying39 rfl (by rw [List.length_map, HS.out]; exact Try.sizeHash) ?_; simp only [Act.put, List.setIfInBounds_toArray, List.set_cons_succ, List.set_cons_zero]) | ((with_reducible show wpQuiet _ _ _ _ (⟨some 122, _, _, _, _, _⟩ :: _) _); refine wpQuiet_loadMid (by rfl) 39 (.tmp 5) rfl hb 0 (by rfl) (s.map bv) _ (fun w' hw' => by obtain ⟨nq, rfl⟩ := hw'; exact blk_rangeP ((HHB.out _ HB2.out).drewN _)) Try.underlying39 rfl (by rw [List.length_map, HH.out]; exact Try.sizeHash) ?_; simp only [Act.put, List.setIfInBounds_toArray, List.set_cons_succ, List.set_cons_zero]) | go_big_quiet_step (fail))
                            refine wpQuiet_nil ?_
                            intro _ hw'
                            obtain ⟨nq, hw''⟩ := hw'
                            subst hw''
                            clear heq
                            go_wp2_with fail
                            go_roundw
                            case rel => exact ⟨k + 1, true, by omega, by go_num, rfl, Lib.hid (by rw [HSN.out]; simp), Lib.hid (below_drewN HB2.out _)⟩
                            case measure => simp [intOf]; omega
                          · have heq : ∀ x, (Op.equalIn 10000 39 (.agg (s.map bv).toArray) (.agg (h.map bv).toArray)).run Try.prog x = .ok false x := fun x => by
                              rw [run_eq_hash x s h HS.out HH.out, show (s == h) = false by rw [beq_eq_false_iff_ne]; exact he]
                            have he2 := Lib.hid he
                            clear he
                            refine wp_region_quiet_lit (by kernel_rfl) (by kernel_rfl) ?_
                            repeat (first | ((with_reducible show wpQuiet _ _ _ _ (⟨some 121, _, _, _, _, _⟩ :: _) _); refine wpQuiet_loadMid (by rfl) 39 (.tmp 120) rfl g2 (o2 + k * 32) (by rfl) (s.map bv) _ (fun w' hw' => by obtain ⟨nq, rfl⟩ := hw'; exact HRK.out _ (below_drewN HB2.out _)) Try.underlying39 rfl (by rw [List.length_map, HS.out]; exact Try.sizeHash) ?_; simp only [Act.put, List.setIfInBounds_toArray, List.set_cons_succ, List.set_cons_zero]) | ((with_reducible show wpQuiet _ _ _ _ (⟨some 122, _, _, _, _, _⟩ :: _) _); refine wpQuiet_loadMid (by rfl) 39 (.tmp 5) rfl hb 0 (by rfl) (h.map bv) _ (fun w' hw' => by obtain ⟨nq, rfl⟩ := hw'; exact blk_rangeP ((HHB.out _ HB2.out).drewN _)) Try.underlying39 rfl (by rw [List.length_map, HH.out]; exact Try.sizeHash) ?_; simp only [Act.put, List.setIfInBounds_toArray, List.set_cons_succ, List.set_cons_zero]) | go_big_quiet_step (fail))
                            refine wpQuiet_nil ?_
                            intro _ hw'
                            obtain ⟨nq, hw''⟩ := hw'
                            subst hw''
                            clear heq
                            go_wp2_with fail
                            go_roundw
                            case rel => exact ⟨k + 1, false, by omega, by go_num, rfl, Lib.hid (by rw [HSN.out]; simp [Ne.symm he2.out]), Lib.hid (below_drewN HB2.out _)⟩
                            case measure => simp [intOf]; omega
                      | false =>
                        have HB2 := HB
                        go_wp2_with fail
                        cases S with
                        | true =>
                          refine wp_region_quiet_lit (by kernel_rfl) (by kernel_rfl) ?_
                          repeat (first | go_big_quiet_step (fail))
                          refine wpQuiet_nil ?_
                          intro _ hw'
                          obtain ⟨nq, hw''⟩ := hw'
                          subst hw''
                          go_wp2_with fail
                          go_roundw
                          case rel => exact ⟨k + 1, true, by omega, by go_num, rfl, Lib.hid (by rw [HSN.out]; rfl), Lib.hid (below_drewN HB2.out _)⟩
                          case measure => simp [intOf]; omega
                        | false =>
                          refine wp_region_quiet_lit (by kernel_rfl) (by kernel_rfl) ?_
                          repeat (first | go_big_quiet_step (fail))
                          refine wpQuiet_nil ?_
                          intro _ hw'
                          obtain ⟨nq, hw''⟩ := hw'
                          subst hw''
                          go_wp2_with fail
                          go_roundw
                          case rel => exact ⟨k + 1, false, by omega, by go_num, rfl, Lib.hid (by rw [HSN.out]; rfl), Lib.hid (below_drewN HB2.out _)⟩
                          case measure => simp [intOf]; omega
                    · obtain rfl : q = k := by omega
                      have HSF : Hid (S = saidT R a h (fs.take (i + 1))) := by show _ = _; rw [HNXT.out, HSS.out, HQL.out, List.take_length]
                      go_wp2_with fail
                      go_roundw
                      case rel => exact ⟨i + 1, S, by omega, by go_num, rfl, HSF, HB⟩
                      case measure => simp [intOf]; omega
            · obtain rfl : n = i := by omega
              have HSD2 : Hid (S = saidT R a h fs) := by show _ = _; rw [HSD.out, HN.out, List.take_length]
              cases S with
              | true =>
                go_wp2_with fail
                go_returns
                exact ⟨rfl, HBW.out _ HB.out⟩
              | false =>
                have HNF : Hid (false = true ↔ Fol (bookT fs) a h) := ⟨fun e => absurd e (by simp), fun e => absurd (bookT_fol.1 e) (saidT_fol HRM.out HSD2.out.symm)⟩
                go_wp2_with ((with_reducible show wpList _ _ _ (⟨some 129, _, _, _, _, _⟩ :: _) _ _); refine wpList_if (by rfl) (wp_load_mid 39 (.tmp 5) rfl hb 0 (by rfl) (h.map bv) _ (blk_rangeP (HHB.out _ HB.out)) Try.underlying39 rfl (by rw [List.length_map, HH.out]; exact Try.sizeHash) ?_))
                refine (Knows_noted _ a B b sm nm dm fs _ wr h HH.out (HAA.out _ (HBW.out _ HB.out)) (HBK.out _ HB.out) HWS.out HAL.out false HNF.out).mono ?_
                rintro e w2 ⟨rfl, b2⟩
                have HB2 := Lib.hid (HGO.out _ _ HB.out b2)
                clear b2
                go_wp2_with fail
                go_returns
                exact ⟨rfl, HBW.out _ HB2.out⟩
    · have hlb : decide ((m : Int) > 60) = true := by rw [decide_eq_true_eq]; omega
      go_enter Try.func5, Try.ntmps5
      go_wp2_with ((with_reducible show wpList _ _ _ (⟨some 5, _, _, _, _, _⟩ :: _) _ _); refine wpList_boxA rfl 39 (.tmp 2) rfl (h.map bv).toArray (by rfl) ?_; intro wq365 bq366 nq367; have hCq368 := Lib.hid (HF.out.below bq366); have hCq369 := Lib.hid (HA.out.below bq366); have hBq370 := hB0.trans (bq366.mono (Nat.le_trans (Nat.le_of_eq HBS.out) hB0.size)); clear HF HA hB0; clear bq366)
      have ltq373 : w.heap.size < wq365.heap.size := nq367.lt
      refine (awake_calls _).mono ?_
      rintro e wq371 ⟨rfl, bq372⟩
      have hCq374 := Lib.hid (hCq368.out.below bq372)
      have hCq375 := Lib.hid (hCq369.out.below bq372)
      have hCq376 := nq367.below bq372 nq367.lt
      have hBq377 := hBq370.trans (bq372.mono (Nat.le_trans (Nat.le_of_eq HBS.out) hBq370.size))
      clear hCq368 hCq369 nq367 hBq370
      clear bq372
      go_wp2_with fail
      refine (few_calls _ fs _ hCq374.out HFB.out).mono ?_
      rintro e ww ⟨rfl, hww⟩
      subst hww
      rw [HFEW.out]
      go_wp2_with fail
      have ltq380 : w.heap.size < wq371.heap.size := hCq376.lt
      refine (awake_calls _).mono ?_
      rintro e wq378 ⟨rfl, bq379⟩
      have hCq381 := Lib.hid (hCq374.out.below bq379)
      have hCq382 := Lib.hid (hCq375.out.below bq379)
      have hCq383 := hCq376.below bq379 hCq376.lt
      have hBq384 := hBq377.trans (bq379.mono (Nat.le_trans (Nat.le_of_eq HBS.out) hBq377.size))
      clear hCq374 hCq375 hCq376 hBq377
      clear bq379
      go_wp2_with fail
      go_returns
      exact ⟨rfl, hBq384⟩
  · have HFEW : Hid (fewB fs = false) := by show _ = _; simpa using hf
    clear hf
    go_enter Try.func5, Try.ntmps5
    go_wp2_with ((with_reducible show wpList _ _ _ (⟨some 5, _, _, _, _, _⟩ :: _) _ _); refine wpList_boxA rfl 39 (.tmp 2) rfl (h.map bv).toArray (by rfl) ?_; intro wq385 bq386 nq387; have hCq388 := Lib.hid (HF.out.below bq386); have hCq389 := Lib.hid (HA.out.below bq386); have hBq390 := hB0.trans (bq386.mono (Nat.le_trans (Nat.le_of_eq HBS.out) hB0.size)); clear HF HA hB0; clear bq386)
    have ltq393 : w.heap.size < wq385.heap.size := nq387.lt
    refine (awake_calls _).mono ?_
    rintro e wq391 ⟨rfl, bq392⟩
    have hCq394 := Lib.hid (hCq388.out.below bq392)
    have hCq395 := Lib.hid (hCq389.out.below bq392)
    have hCq396 := nq387.below bq392 nq387.lt
    have hBq397 := hBq390.trans (bq392.mono (Nat.le_trans (Nat.le_of_eq HBS.out) hBq390.size))
    clear hCq388 hCq389 nq387 hBq390
    clear bq392
    go_wp2_with fail
    refine (few_calls _ fs _ hCq394.out HFB.out).mono ?_
    rintro e ww ⟨rfl, hww⟩
    subst hww
    rw [HFEW.out]
    go_wp2_with fail
    have ltq400 : w.heap.size < wq391.heap.size := hCq396.lt
    refine (awake_calls _).mono ?_
    rintro e wq398 ⟨rfl, bq399⟩
    have hCq401 := Lib.hid (hCq394.out.below bq399)
    have hCq402 := Lib.hid (hCq395.out.below bq399)
    have hCq403 := hCq396.below bq399 hCq396.lt
    have hBq404 := hBq397.trans (bq399.mono (Nat.le_trans (Nat.le_of_eq HBS.out) hBq397.size))
    clear hCq394 hCq395 hCq396 hBq397
    clear bq399
    go_wp2_with fail
    go_returns
    exact ⟨rfl, hBq404⟩
end Go.Proofs.Ytjjmcogdohnhjaa
