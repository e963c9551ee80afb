/-
  PrimKeys: public keys, marks, check keys, signatures, and keys of keys are the document's: for every three digests and every two texts.
-/
import Derived.Test.YtnfegmcdljejnaaAwakePrim
set_option linter.unusedSimpArgs false
set_option linter.unusedVariables false
namespace Go.Proofs.Ytnfegmcdljejnaa
open Go.RowKit

set_option maxHeartbeats 40000000 in
set_option maxRecDepth 100000 in
theorem walkPrimKeys (a : List UInt8) (ha : a.length = 32) (b : List UInt8) (hb : b.length = 32) (c : List UInt8) (hc : c.length = 32) (l : List UInt8) (hm1 : l.length ≤ maxLen) (s : List UInt8) (hm2 : s.length ≤ maxLen) (w : World) :
    Calls Try.prog 15 #[.agg (a.map bv).toArray, .agg (b.map bv).toArray, .agg (c.map bv).toArray, .string (str l), .string (str s)] w fun e w' => e = .returned (.bool true) ∧ Below w.heap.size w w' := by
  have HA := Lib.hid ha
  have HB := Lib.hid hb
  have HC := Lib.hid hc
  clear ha hb hc
  unfold maxLen at hm1 hm2
  have hA0 : Blk (((w.alloc (.cells (a.map bv).toArray 23)).alloc (.cells (b.map bv).toArray 23)).alloc (.cells (c.map bv).toArray 23)) w.heap.size (a.map bv).toArray 23 := ((Blk.new _ _ _).alloc _).alloc _
  have hB0 : Blk (((w.alloc (.cells (a.map bv).toArray 23)).alloc (.cells (b.map bv).toArray 23)).alloc (.cells (c.map bv).toArray 23)) (w.heap.size + 1) (b.map bv).toArray 23 := (blk_new1 _ _ _ _).alloc _
  have hC0 : Blk (((w.alloc (.cells (a.map bv).toArray 23)).alloc (.cells (b.map bv).toArray 23)).alloc (.cells (c.map bv).toArray 23)) (w.heap.size + 1 + 1) (c.map bv).toArray 23 := blk_new2p _ _ _ _ _
  have hb0 : Below w.heap.size w (((w.alloc (.cells (a.map bv).toArray 23)).alloc (.cells (b.map bv).toArray 23)).alloc (.cells (c.map bv).toArray 23)) := (((Below.refl _ _).alloc (Nat.le_refl _) _).alloc (by simp) _).alloc (by simp; omega) _
  by_cases hl : 3000 < l.length
  · skip
    go_enter Try.func15, Try.ntmps15
    go_wp2_with fail
    generalize ((w.alloc (.cells (a.map bv).toArray 23)).alloc (.cells (b.map bv).toArray 23)).alloc (.cells (c.map bv).toArray 23) = W0 at hA0 hB0 hC0 hb0 ⊢
    refine (awake5_calls _).mono ?_
    rintro e w1 ⟨rfl, b1⟩
    have hA01 := hA0.below b1 hA0.lt
    have hB01 := hB0.below b1 hB0.lt
    have hC01 := hC0.below b1 hC0.lt
    have hb01 := hb0.trans (b1.mono hb0.size)
    clear b1 hA0 hB0 hC0 hb0
    go_wp2_with fail
    refine (awake5_calls _).mono ?_
    rintro e w2 ⟨rfl, b2⟩
    have hb2 := hb01.trans (b2.mono hb01.size)
    go_wp2_with fail
    go_returns
    exact ⟨rfl, hb2⟩
  by_cases hs : 3000 < s.length
  · skip
    go_enter Try.func15, Try.ntmps15
    go_wp2_with fail
    generalize ((w.alloc (.cells (a.map bv).toArray 23)).alloc (.cells (b.map bv).toArray 23)).alloc (.cells (c.map bv).toArray 23) = W0 at hA0 hB0 hC0 hb0 ⊢
    refine (awake5_calls _).mono ?_
    rintro e w1 ⟨rfl, b1⟩
    have hA01 := hA0.below b1 hA0.lt
    have hB01 := hB0.below b1 hB0.lt
    have hC01 := hC0.below b1 hC0.lt
    have hb01 := hb0.trans (b1.mono hb0.size)
    clear b1 hA0 hB0 hC0 hb0
    go_wp2_with fail
    refine (awake5_calls _).mono ?_
    rintro e w2 ⟨rfl, b2⟩
    have hb2 := hb01.trans (b2.mono hb01.size)
    go_wp2_with fail
    go_returns
    exact ⟨rfl, hb2⟩
  have hl2 : l.length ≤ 3000 := by omega
  have hs2 : s.length ≤ 3000 := by omega
  clear hl hs
  obtain ⟨p, hp⟩ : ∃ p, p = pubT a := ⟨_, rfl⟩
  have HP : Hid (p.length = 32) := by show _ = _; rw [hp]; exact pubT_len _
  obtain ⟨m, hm⟩ : ∃ m, m = markT a := ⟨_, rfl⟩
  have HM : Hid (m.length = 32) := by show _ = _; rw [hm]; exact markT_len _
  obtain ⟨v, hv⟩ : ∃ v, v = verT a := ⟨_, rfl⟩
  have HV : Hid (v.length = 32) := by show _ = _; rw [hv]; exact verT_len _
  obtain ⟨g, hg⟩ : ∃ g, g = signT v s := ⟨_, rfl⟩
  have HG : Hid (g.length = 32) := by show _ = _; rw [hg]; exact signT_len _ _
  obtain ⟨h, hh⟩ : ∃ h, h = signT b s := ⟨_, rfl⟩
  have HH : Hid (h.length = 32) := by show _ = _; rw [hh]; exact signT_len _ _
  obtain ⟨d, hd⟩ : ∃ d, d = derive a l s := ⟨_, rfl⟩
  have HD : Hid (d.length = 32) := by show _ = _; rw [hd]; exact hmac_len _ _
  obtain ⟨x, hx⟩ : ∃ x, x = mixT a b := ⟨_, rfl⟩
  have HX : Hid (x.length = 32) := by show _ = _; rw [hx]; exact mixT_len _ _
  obtain ⟨bb, hbb⟩ : ∃ y, y = (h == c) := ⟨_, rfl⟩
  have c1 : ∀ y, Calls Try.prog 55 #[.pointer none, .agg (a.map bv).toArray] y fun e w' => e = .returned (.agg (p.map bv).toArray) ∧ Below y.heap.size y w' := by rw [hp]; exact fun y => Pub_calls a y HA.out
  have c2 : ∀ y, Calls Try.prog 58 #[.agg (a.map bv).toArray] y fun e w' => e = .returned (.agg (p.map bv).toArray) ∧ Below y.heap.size y w' := by rw [hp]; exact fun y => RefPub_calls a y HA.out
  have c3 : ∀ y, Calls Try.prog 59 #[.agg (a.map bv).toArray] y fun e w' => e = .returned (.agg (m.map bv).toArray) ∧ Below y.heap.size y w' := by rw [hm]; exact fun y => Mark_calls a y HA.out
  have c4 : ∀ y, Calls Try.prog 60 #[.agg (a.map bv).toArray] y fun e w' => e = .returned (.agg (m.map bv).toArray) ∧ Below y.heap.size y w' := by rw [hm]; exact fun y => RefMark_calls a y HA.out
  have c5 : ∀ y, Calls Try.prog 61 #[.agg (a.map bv).toArray] y fun e w' => e = .returned (.agg (v.map bv).toArray) ∧ Below y.heap.size y w' := by rw [hv]; exact fun y => Verify_calls a y HA.out
  have c6 : ∀ y, Calls Try.prog 62 #[.agg (a.map bv).toArray] y fun e w' => e = .returned (.agg (v.map bv).toArray) ∧ Below y.heap.size y w' := by rw [hv]; exact fun y => RefVerify_calls a y HA.out
  have c7 : ∀ y, Calls Try.prog 65 #[.agg (a.map bv).toArray, .string (str s)] y fun e w' => e = .returned (.agg (g.map bv).toArray) ∧ Below y.heap.size y w' := by rw [hg, hv]; exact fun y => Sign_calls a s y HA.out (by omega)
  have c8 : ∀ y, Calls Try.prog 63 #[.agg (v.map bv).toArray, .string (str s)] y fun e w' => e = .returned (.agg (g.map bv).toArray) ∧ Below y.heap.size y w' := by rw [hg]; exact fun y => RefSign_calls v s y HV.out (by omega)
  have c9 : ∀ y, Calls Try.prog 64 #[.agg (v.map bv).toArray, .string (str s), .agg (g.map bv).toArray] y fun e w' => e = .returned (.bool true) ∧ Below y.heap.size y w' := fun y => by
    have h := Check_calls v s g y HV.out (by omega) HG.out
    rw [← hg, beq_self_eq_true] at h
    exact h
  have c10 : ∀ y, Calls Try.prog 64 #[.agg (b.map bv).toArray, .string (str s), .agg (c.map bv).toArray] y fun e w' => e = .returned (.bool bb) ∧ Below y.heap.size y w' := by rw [hbb, hh]; exact fun y => Check_calls b s c y HB.out (by omega) HC.out
  have c11 : ∀ y, Calls Try.prog 63 #[.agg (b.map bv).toArray, .string (str s)] y fun e w' => e = .returned (.agg (h.map bv).toArray) ∧ Below y.heap.size y w' := by rw [hh]; exact fun y => RefSign_calls b s y HB.out (by omega)
  have c12 : ∀ y, Calls Try.prog 66 #[.pointer none, .agg (a.map bv).toArray, .string (str l), .string (str s)] y fun e w' => e = .returned (.agg (d.map bv).toArray) ∧ Below y.heap.size y w' := by rw [hd]; exact fun y => PDerive_calls a l s y HA.out (by omega) (by omega)
  have c13 : ∀ y, Calls Try.prog 67 #[.agg (a.map bv).toArray, .string (str l), .string (str s)] y fun e w' => e = .returned (.agg (d.map bv).toArray) ∧ Below y.heap.size y w' := by rw [hd]; exact fun y => Derive_calls a l s y HA.out (by omega) (by omega)
  have c14 : ∀ y, Calls Try.prog 68 #[.pointer none, .agg (a.map bv).toArray, .agg (b.map bv).toArray] y fun e w' => e = .returned (.agg (x.map bv).toArray) ∧ Below y.heap.size y w' := by rw [hx]; exact fun y => PMix_calls a b y HA.out HB.out
  have c15 : ∀ y, Calls Try.prog 69 #[.agg (a.map bv).toArray, .agg (b.map bv).toArray] y fun e w' => e = .returned (.agg (x.map bv).toArray) ∧ Below y.heap.size y w' := by rw [hx]; exact fun y => Mix_calls a b y HA.out HB.out
  have hqp : ∀ q0, (Op.equalIn 10000 23 (.agg (p.map bv).toArray) (.agg (p.map bv).toArray)).run Try.prog q0 = .ok true q0 := fun q0 => by rw [run_eq_hash q0 _ _ HP.out HP.out, beq_self_eq_true]
  have hqm : ∀ q0, (Op.equalIn 10000 23 (.agg (m.map bv).toArray) (.agg (m.map bv).toArray)).run Try.prog q0 = .ok true q0 := fun q0 => by rw [run_eq_hash q0 _ _ HM.out HM.out, beq_self_eq_true]
  have hqv : ∀ q0, (Op.equalIn 10000 23 (.agg (v.map bv).toArray) (.agg (v.map bv).toArray)).run Try.prog q0 = .ok true q0 := fun q0 => by rw [run_eq_hash q0 _ _ HV.out HV.out, beq_self_eq_true]
  have hqg : ∀ q0, (Op.equalIn 10000 23 (.agg (g.map bv).toArray) (.agg (g.map bv).toArray)).run Try.prog q0 = .ok true q0 := fun q0 => by rw [run_eq_hash q0 _ _ HG.out HG.out, beq_self_eq_true]
  have hqd : ∀ q0, (Op.equalIn 10000 23 (.agg (d.map bv).toArray) (.agg (d.map bv).toArray)).run Try.prog q0 = .ok true q0 := fun q0 => by rw [run_eq_hash q0 _ _ HD.out HD.out, beq_self_eq_true]
  have hqx : ∀ q0, (Op.equalIn 10000 23 (.agg (x.map bv).toArray) (.agg (x.map bv).toArray)).run Try.prog q0 = .ok true q0 := fun q0 => by rw [run_eq_hash q0 _ _ HX.out HX.out, beq_self_eq_true]
  have hqc : ∀ y, (Op.equalIn 10000 23 (.agg (c.map bv).toArray) (.agg (h.map bv).toArray)).run Try.prog y = .ok bb y := fun y => by rw [run_eq_hash y _ _ HC.out HH.out, hbb]; rw [BEq.comm (a := c)]
  clear hp hm hv hg hh hd hx hbb
  go_enter Try.func15, Try.ntmps15
  go_wp2_with fail
  generalize ((w.alloc (.cells (a.map bv).toArray 23)).alloc (.cells (b.map bv).toArray 23)).alloc (.cells (c.map bv).toArray 23) = W0 at hA0 hB0 hC0 hb0 ⊢
  refine (awake5_calls _).mono ?_
  rintro e w1 ⟨rfl, b1⟩
  have hA01 := hA0.below b1 hA0.lt
  have hB01 := hB0.below b1 hB0.lt
  have hC01 := hC0.below b1 hC0.lt
  have hb01 := hb0.trans (b1.mono hb0.size)
  clear b1 hA0 hB0 hC0 hb0
  go_wp2_with ((with_reducible show wpList _ _ _ (⟨some 25, _, _, _, _, _⟩ :: _) _ _); refine wpList_load_mid rfl 23 (.tmp 5) rfl (w.heap.size) 0 (by rfl) (a.map bv) _ (blk_range hA01) Try.underlying23 rfl (by rw [List.length_map, HA.out]; exact Try.sizeHash) ?_)
  refine (c6 _).mono ?_
  rintro e w2 ⟨rfl, b2⟩
  have hA2 := (hA01.below b2 hA01.lt).alloc (.cells Z32 22)
  have hB2 := (hB01.below b2 hB01.lt).alloc (.cells Z32 22)
  have hC2 := (hC01.below b2 hC01.lt).alloc (.cells Z32 22)
  have hs1 : w.heap.size + 1 + 1 < w2.heap.size := (hC01.below b2 hC01.lt).lt
  have hb1 : Below w.heap.size w w2 := hb01.trans (b2.mono hb01.size)
  have hN := Blk.new w2 Z32 22
  have hb2 : Below w.heap.size w (w2.alloc (.cells Z32 22)) := hb1.alloc hb1.size _
  clear b2 hA01 hB01 hC01 hb01 hb1 c6
  go_wp2_with ((with_reducible show wpList _ _ _ (⟨none, Op.store _ (.tmp 11) _, _, _, _, _⟩ :: _) _ _); refine wpList_storeBlk rfl 22 (.tmp 11) (.tmp 26) rfl w2.heap.size (v.map bv).toArray (by rfl) (by rfl) _ _ hN (by rw [bv_size, HV.out]; exact Try.sizeA32) (by rw [bv_size, HV.out, Z32_size]) (bv_all _) ?_; intro w3 hV3 g3; have hA3 := Blk.grown hA2 g3 (by simp; omega); have hB3 := Blk.grown hB2 g3 (by simp; omega); have hC3 := Blk.grown hC2 g3 (by simp; omega); have hb3 : Below w.heap.size w w3 := below_new hb2 g3 (by omega) (by simp; omega); clear hN hA2 hB2 hC2 hb2 g3)
  generalize w2.heap.size = G at hV3 hs1 ⊢
  refine wp_region_held_drew (S := fun x => Blk x (w.heap.size) (a.map bv).toArray 23 ∧ Blk x (w.heap.size + 1) (b.map bv).toArray 23 ∧ Blk x (w.heap.size + 1 + 1) (c.map bv).toArray 23 ∧ Blk x (G) (v.map bv).toArray 22 ∧ Below w.heap.size w x) (by kernel_rfl) ⟨hA3.drew, hB3.drew, hC3.drew, hV3.drew, below_drewN hb3 1⟩ (fun hSq1 => ?_)
  refine wpAnyH_take (i := 0) rfl (by kernel_rfl) (by kernel_rfl) (by kernel_rfl) (fun _ _ _ h => h) (yieldsIf_load_mid (by kernel_rfl) 23 (.tmp 5) rfl (w.heap.size) 0 (by rfl) (a.map bv) _ (fun x hx => blk_range hx.1) Try.underlying23 rfl (by rw [List.length_map, HA.out]; exact Try.sizeHash)) hSq1 ?_
  simp only [Act.put, List.getElem_toArray, List.getElem_cons_zero, List.getElem_cons_succ, List.setIfInBounds_toArray, List.set_cons_zero, List.set_cons_succ]
  refine wpAnyH_take (i := 2) rfl (by kernel_rfl) (by kernel_rfl) (by kernel_rfl) (fun _ _ _ h => h) (yieldsIf_load_mid (by kernel_rfl) 23 (.tmp 5) rfl (w.heap.size) 0 (by rfl) (a.map bv) _ (fun x hx => blk_range hx.1) Try.underlying23 rfl (by rw [List.length_map, HA.out]; exact Try.sizeHash)) hSq1 ?_
  simp only [Act.put, List.getElem_toArray, List.getElem_cons_zero, List.getElem_cons_succ, List.setIfInBounds_toArray, List.set_cons_zero, List.set_cons_succ]
  refine wpAnyH_ready (rs := [1]) (by kernel_rfl) (by simp) ?_
  refine AllReadyH.cons rfl (fun K hK => ?_) AllReadyH.nil
  go_simp
  go_wp2_with (go_at_call 55; refine (c1 _).mono ?_; rintro e yq2 ⟨rfl, bq3⟩)
  refine hK.out _ _ ⟨hSq1.1.below bq3 hSq1.1.lt, hSq1.2.1.below bq3 hSq1.2.1.lt, hSq1.2.2.1.below bq3 hSq1.2.2.1.lt, hSq1.2.2.2.1.below bq3 hSq1.2.2.2.1.lt, hSq1.2.2.2.2.trans (bq3.mono hSq1.2.2.2.2.size)⟩ (fun hSq4 => ?_)
  clear hK K hSq1 bq3
  refine wpAnyH_ready (rs := [3]) (by kernel_rfl) (by simp) ?_
  refine AllReadyH.cons rfl (fun K hK => ?_) AllReadyH.nil
  go_simp
  go_wp2_with (go_at_call 58; refine (c2 _).mono ?_; rintro e yq5 ⟨rfl, bq6⟩)
  refine hK.out _ _ ⟨hSq4.1.below bq6 hSq4.1.lt, hSq4.2.1.below bq6 hSq4.2.1.lt, hSq4.2.2.1.below bq6 hSq4.2.2.1.lt, hSq4.2.2.2.1.below bq6 hSq4.2.2.2.1.lt, hSq4.2.2.2.2.trans (bq6.mono hSq4.2.2.2.2.size)⟩ (fun hSq7 => ?_)
  clear hK K hSq4 bq6
  refine wpAnyH_take (i := 4) (v := .bool true) rfl (by kernel_rfl) (by kernel_rfl) (by kernel_rfl) (fun _ _ _ h => h) (Or.inl ⟨by kernel_rfl, fun x hx => by go_simp⟩) hSq7 ?_
  simp only [Act.put, List.getElem_toArray, List.getElem_cons_zero, List.getElem_cons_succ, List.setIfInBounds_toArray, List.set_cons_zero, List.set_cons_succ]
  refine wpAnyH_take (i := 5) (v := .bool true) rfl (by kernel_rfl) (by kernel_rfl) (by kernel_rfl) (fun _ _ _ h => h) (Or.inl ⟨by kernel_rfl, fun x hx => by go_simp⟩) hSq7 ?_
  simp only [Act.put, List.getElem_toArray, List.getElem_cons_zero, List.getElem_cons_succ, List.setIfInBounds_toArray, List.set_cons_zero, List.set_cons_succ]
  refine wpAnyH_take (i := 6) rfl (by kernel_rfl) (by kernel_rfl) (by kernel_rfl) (fun _ _ _ h => h) (yieldsIf_load_mid (by kernel_rfl) 23 (.tmp 5) rfl (w.heap.size) 0 (by rfl) (a.map bv) _ (fun x hx => blk_range hx.1) Try.underlying23 rfl (by rw [List.length_map, HA.out]; exact Try.sizeHash)) hSq7 ?_
  simp only [Act.put, List.getElem_toArray, List.getElem_cons_zero, List.getElem_cons_succ, List.setIfInBounds_toArray, List.set_cons_zero, List.set_cons_succ]
  refine wpAnyH_take (i := 8) rfl (by kernel_rfl) (by kernel_rfl) (by kernel_rfl) (fun _ _ _ h => h) (yieldsIf_load_mid (by kernel_rfl) 23 (.tmp 5) rfl (w.heap.size) 0 (by rfl) (a.map bv) _ (fun x hx => blk_range hx.1) Try.underlying23 rfl (by rw [List.length_map, HA.out]; exact Try.sizeHash)) hSq7 ?_
  simp only [Act.put, List.getElem_toArray, List.getElem_cons_zero, List.getElem_cons_succ, List.setIfInBounds_toArray, List.set_cons_zero, List.set_cons_succ]
  refine wpAnyH_ready (rs := [7]) (by kernel_rfl) (by simp) ?_
  refine AllReadyH.cons rfl (fun K hK => ?_) AllReadyH.nil
  go_simp
  go_wp2_with (go_at_call 59; refine (c3 _).mono ?_; rintro e yq8 ⟨rfl, bq9⟩)
  refine hK.out _ _ ⟨hSq7.1.below bq9 hSq7.1.lt, hSq7.2.1.below bq9 hSq7.2.1.lt, hSq7.2.2.1.below bq9 hSq7.2.2.1.lt, hSq7.2.2.2.1.below bq9 hSq7.2.2.2.1.lt, hSq7.2.2.2.2.trans (bq9.mono hSq7.2.2.2.2.size)⟩ (fun hSq10 => ?_)
  clear hK K hSq7 bq9
  refine wpAnyH_ready (rs := [9]) (by kernel_rfl) (by simp) ?_
  refine AllReadyH.cons rfl (fun K hK => ?_) AllReadyH.nil
  go_simp
  go_wp2_with (go_at_call 60; refine (c4 _).mono ?_; rintro e yq11 ⟨rfl, bq12⟩)
  refine hK.out _ _ ⟨hSq10.1.below bq12 hSq10.1.lt, hSq10.2.1.below bq12 hSq10.2.1.lt, hSq10.2.2.1.below bq12 hSq10.2.2.1.lt, hSq10.2.2.2.1.below bq12 hSq10.2.2.2.1.lt, hSq10.2.2.2.2.trans (bq12.mono hSq10.2.2.2.2.size)⟩ (fun hSq13 => ?_)
  clear hK K hSq10 bq12
  refine wpAnyH_take (i := 10) (v := .bool true) rfl (by kernel_rfl) (by kernel_rfl) (by kernel_rfl) (fun _ _ _ h => h) (Or.inl ⟨by kernel_rfl, fun x hx => by go_simp⟩) hSq13 ?_
  simp only [Act.put, List.getElem_toArray, List.getElem_cons_zero, List.getElem_cons_succ, List.setIfInBounds_toArray, List.set_cons_zero, List.set_cons_succ]
  refine wpAnyH_take (i := 11) (v := .bool true) rfl (by kernel_rfl) (by kernel_rfl) (by kernel_rfl) (fun _ _ _ h => h) (Or.inl ⟨by kernel_rfl, fun x hx => by go_simp⟩) hSq13 ?_
  simp only [Act.put, List.getElem_toArray, List.getElem_cons_zero, List.getElem_cons_succ, List.setIfInBounds_toArray, List.set_cons_zero, List.set_cons_succ]
  refine wpAnyH_take (i := 12) (v := .bool true) rfl (by kernel_rfl) (by kernel_rfl) (by kernel_rfl) (fun _ _ _ h => h) (Or.inl ⟨by kernel_rfl, fun x hx => by go_simp⟩) hSq13 ?_
  simp only [Act.put, List.getElem_toArray, List.getElem_cons_zero, List.getElem_cons_succ, List.setIfInBounds_toArray, List.set_cons_zero, List.set_cons_succ]
  refine wpAnyH_take (i := 13) rfl (by kernel_rfl) (by kernel_rfl) (by kernel_rfl) (fun _ _ _ h => h) (yieldsIf_load_mid (by kernel_rfl) 23 (.tmp 5) rfl (w.heap.size) 0 (by rfl) (a.map bv) _ (fun x hx => blk_range hx.1) Try.underlying23 rfl (by rw [List.length_map, HA.out]; exact Try.sizeHash)) hSq13 ?_
  simp only [Act.put, List.getElem_toArray, List.getElem_cons_zero, List.getElem_cons_succ, List.setIfInBounds_toArray, List.set_cons_zero, List.set_cons_succ]
  refine wpAnyH_take (i := 15) rfl (by kernel_rfl) (by kernel_rfl) (by kernel_rfl) (fun _ _ _ h => h) (yieldsIf_load_mid (by kernel_rfl) 22 (.tmp 11) rfl (G) 0 (by rfl) (v.map bv) _ (fun x hx => blk_range hx.2.2.2.1) Try.underlying22 rfl (by rw [List.length_map, HV.out]; exact Try.sizeA32)) hSq13 ?_
  simp only [Act.put, List.getElem_toArray, List.getElem_cons_zero, List.getElem_cons_succ, List.setIfInBounds_toArray, List.set_cons_zero, List.set_cons_succ]
  refine wpAnyH_ready (rs := [14]) (by kernel_rfl) (by simp) ?_
  refine AllReadyH.cons rfl (fun K hK => ?_) AllReadyH.nil
  go_simp
  go_wp2_with (go_at_call 61; refine (c5 _).mono ?_; rintro e yq14 ⟨rfl, bq15⟩)
  refine hK.out _ _ ⟨hSq13.1.below bq15 hSq13.1.lt, hSq13.2.1.below bq15 hSq13.2.1.lt, hSq13.2.2.1.below bq15 hSq13.2.2.1.lt, hSq13.2.2.2.1.below bq15 hSq13.2.2.2.1.lt, hSq13.2.2.2.2.trans (bq15.mono hSq13.2.2.2.2.size)⟩ (fun hSq16 => ?_)
  clear hK K hSq13 bq15
  refine wpAnyH_take (i := 16) (v := .bool true) rfl (by kernel_rfl) (by kernel_rfl) (by kernel_rfl) (fun _ _ _ h => h) (Or.inl ⟨by kernel_rfl, fun x hx => by go_simp⟩) hSq16 ?_
  simp only [Act.put, List.getElem_toArray, List.getElem_cons_zero, List.getElem_cons_succ, List.setIfInBounds_toArray, List.set_cons_zero, List.set_cons_succ]
  refine wpAnyH_take (i := 17) (v := .bool true) rfl (by kernel_rfl) (by kernel_rfl) (by kernel_rfl) (fun _ _ _ h => h) (Or.inl ⟨by kernel_rfl, fun x hx => by go_simp⟩) hSq16 ?_
  simp only [Act.put, List.getElem_toArray, List.getElem_cons_zero, List.getElem_cons_succ, List.setIfInBounds_toArray, List.set_cons_zero, List.set_cons_succ]
  refine wpAnyH_take (i := 18) (v := .bool true) rfl (by kernel_rfl) (by kernel_rfl) (by kernel_rfl) (fun _ _ _ h => h) (Or.inl ⟨by kernel_rfl, fun x hx => by go_simp⟩) hSq16 ?_
  simp only [Act.put, List.getElem_toArray, List.getElem_cons_zero, List.getElem_cons_succ, List.setIfInBounds_toArray, List.set_cons_zero, List.set_cons_succ]
  refine wpAnyH_take (i := 19) rfl (by kernel_rfl) (by kernel_rfl) (by kernel_rfl) (fun _ _ _ h => h) (yieldsIf_load_mid (by kernel_rfl) 23 (.tmp 5) rfl (w.heap.size) 0 (by rfl) (a.map bv) _ (fun x hx => blk_range hx.1) Try.underlying23 rfl (by rw [List.length_map, HA.out]; exact Try.sizeHash)) hSq16 ?_
  simp only [Act.put, List.getElem_toArray, List.getElem_cons_zero, List.getElem_cons_succ, List.setIfInBounds_toArray, List.set_cons_zero, List.set_cons_succ]
  refine wpAnyH_take (i := 20) (v := .string (str s)) rfl (by kernel_rfl) (by kernel_rfl) (by kernel_rfl) (fun _ _ _ h => h) (Or.inl ⟨by kernel_rfl, fun x hx => by go_simp⟩) hSq16 ?_
  simp only [Act.put, List.getElem_toArray, List.getElem_cons_zero, List.getElem_cons_succ, List.setIfInBounds_toArray, List.set_cons_zero, List.set_cons_succ]
  refine wpAnyH_take (i := 22) rfl (by kernel_rfl) (by kernel_rfl) (by kernel_rfl) (fun _ _ _ h => h) (yieldsIf_load_mid (by kernel_rfl) 22 (.tmp 11) rfl (G) 0 (by rfl) (v.map bv) _ (fun x hx => blk_range hx.2.2.2.1) Try.underlying22 rfl (by rw [List.length_map, HV.out]; exact Try.sizeA32)) hSq16 ?_
  simp only [Act.put, List.getElem_toArray, List.getElem_cons_zero, List.getElem_cons_succ, List.setIfInBounds_toArray, List.set_cons_zero, List.set_cons_succ]
  refine wpAnyH_take (i := 23) (v := .string (str s)) rfl (by kernel_rfl) (by kernel_rfl) (by kernel_rfl) (fun _ _ _ h => h) (Or.inl ⟨by kernel_rfl, fun x hx => by go_simp⟩) hSq16 ?_
  simp only [Act.put, List.getElem_toArray, List.getElem_cons_zero, List.getElem_cons_succ, List.setIfInBounds_toArray, List.set_cons_zero, List.set_cons_succ]
  refine wpAnyH_ready (rs := [21]) (by kernel_rfl) (by simp) ?_
  refine AllReadyH.cons rfl (fun K hK => ?_) AllReadyH.nil
  go_simp
  go_wp2_with (go_at_call 65; refine (c7 _).mono ?_; rintro e yq17 ⟨rfl, bq18⟩)
  refine hK.out _ _ ⟨hSq16.1.below bq18 hSq16.1.lt, hSq16.2.1.below bq18 hSq16.2.1.lt, hSq16.2.2.1.below bq18 hSq16.2.2.1.lt, hSq16.2.2.2.1.below bq18 hSq16.2.2.2.1.lt, hSq16.2.2.2.2.trans (bq18.mono hSq16.2.2.2.2.size)⟩ (fun hSq19 => ?_)
  clear hK K hSq16 bq18
  refine wpAnyH_ready (rs := [24]) (by kernel_rfl) (by simp) ?_
  refine AllReadyH.cons rfl (fun K hK => ?_) AllReadyH.nil
  go_simp
  go_wp2_with (go_at_call 63; refine (c8 _).mono ?_; rintro e yq20 ⟨rfl, bq21⟩)
  refine hK.out _ _ ⟨hSq19.1.below bq21 hSq19.1.lt, hSq19.2.1.below bq21 hSq19.2.1.lt, hSq19.2.2.1.below bq21 hSq19.2.2.1.lt, hSq19.2.2.2.1.below bq21 hSq19.2.2.2.1.lt, hSq19.2.2.2.2.trans (bq21.mono hSq19.2.2.2.2.size)⟩ (fun hSq22 => ?_)
  clear hK K hSq19 bq21
  refine wpAnyH_take (i := 25) (v := .bool true) rfl (by kernel_rfl) (by kernel_rfl) (by kernel_rfl) (fun _ _ _ h => h) (Or.inl ⟨by kernel_rfl, fun x hx => by go_simp⟩) hSq22 ?_
  simp only [Act.put, List.getElem_toArray, List.getElem_cons_zero, List.getElem_cons_succ, List.setIfInBounds_toArray, List.set_cons_zero, List.set_cons_succ]
  refine wpAnyH_take (i := 26) (v := .bool true) rfl (by kernel_rfl) (by kernel_rfl) (by kernel_rfl) (fun _ _ _ h => h) (Or.inl ⟨by kernel_rfl, fun x hx => by go_simp⟩) hSq22 ?_
  simp only [Act.put, List.getElem_toArray, List.getElem_cons_zero, List.getElem_cons_succ, List.setIfInBounds_toArray, List.set_cons_zero, List.set_cons_succ]
  refine wpAnyH_take (i := 27) (v := .bool true) rfl (by kernel_rfl) (by kernel_rfl) (by kernel_rfl) (fun _ _ _ h => h) (Or.inl ⟨by kernel_rfl, fun x hx => by go_simp⟩) hSq22 ?_
  simp only [Act.put, List.getElem_toArray, List.getElem_cons_zero, List.getElem_cons_succ, List.setIfInBounds_toArray, List.set_cons_zero, List.set_cons_succ]
  refine wpAnyH_take (i := 28) rfl (by kernel_rfl) (by kernel_rfl) (by kernel_rfl) (fun _ _ _ h => h) (yieldsIf_load_mid (by kernel_rfl) 22 (.tmp 11) rfl (G) 0 (by rfl) (v.map bv) _ (fun x hx => blk_range hx.2.2.2.1) Try.underlying22 rfl (by rw [List.length_map, HV.out]; exact Try.sizeA32)) hSq22 ?_
  simp only [Act.put, List.getElem_toArray, List.getElem_cons_zero, List.getElem_cons_succ, List.setIfInBounds_toArray, List.set_cons_zero, List.set_cons_succ]
  refine wpAnyH_take (i := 29) (v := .string (str s)) rfl (by kernel_rfl) (by kernel_rfl) (by kernel_rfl) (fun _ _ _ h => h) (Or.inl ⟨by kernel_rfl, fun x hx => by go_simp⟩) hSq22 ?_
  simp only [Act.put, List.getElem_toArray, List.getElem_cons_zero, List.getElem_cons_succ, List.setIfInBounds_toArray, List.set_cons_zero, List.set_cons_succ]
  refine wpAnyH_take (i := 30) rfl (by kernel_rfl) (by kernel_rfl) (by kernel_rfl) (fun _ _ _ h => h) (yieldsIf_load_mid (by kernel_rfl) 22 (.tmp 11) rfl (G) 0 (by rfl) (v.map bv) _ (fun x hx => blk_range hx.2.2.2.1) Try.underlying22 rfl (by rw [List.length_map, HV.out]; exact Try.sizeA32)) hSq22 ?_
  simp only [Act.put, List.getElem_toArray, List.getElem_cons_zero, List.getElem_cons_succ, List.setIfInBounds_toArray, List.set_cons_zero, List.set_cons_succ]
  refine wpAnyH_take (i := 31) (v := .string (str s)) rfl (by kernel_rfl) (by kernel_rfl) (by kernel_rfl) (fun _ _ _ h => h) (Or.inl ⟨by kernel_rfl, fun x hx => by go_simp⟩) hSq22 ?_
  simp only [Act.put, List.getElem_toArray, List.getElem_cons_zero, List.getElem_cons_succ, List.setIfInBounds_toArray, List.set_cons_zero, List.set_cons_succ]
  refine wpAnyH_ready (rs := [32]) (by kernel_rfl) (by simp) ?_
  refine AllReadyH.cons rfl (fun K hK => ?_) AllReadyH.nil
  go_simp
  go_wp2_with (go_at_call 63; refine (c8 _).mono ?_; rintro e yq23 ⟨rfl, bq24⟩)
  refine hK.out _ _ ⟨hSq22.1.below bq24 hSq22.1.lt, hSq22.2.1.below bq24 hSq22.2.1.lt, hSq22.2.2.1.below bq24 hSq22.2.2.1.lt, hSq22.2.2.2.1.below bq24 hSq22.2.2.2.1.lt, hSq22.2.2.2.2.trans (bq24.mono hSq22.2.2.2.2.size)⟩ (fun hSq25 => ?_)
  clear hK K hSq22 bq24
  refine wpAnyH_ready (rs := [33]) (by kernel_rfl) (by simp) ?_
  refine AllReadyH.cons rfl (fun K hK => ?_) AllReadyH.nil
  go_simp
  go_wp2_with (go_at_call 64; refine (c9 _).mono ?_; rintro e yq26 ⟨rfl, bq27⟩)
  refine hK.out _ _ ⟨hSq25.1.below bq27 hSq25.1.lt, hSq25.2.1.below bq27 hSq25.2.1.lt, hSq25.2.2.1.below bq27 hSq25.2.2.1.lt, hSq25.2.2.2.1.below bq27 hSq25.2.2.2.1.lt, hSq25.2.2.2.2.trans (bq27.mono hSq25.2.2.2.2.size)⟩ (fun hSq28 => ?_)
  clear hK K hSq25 bq27
  refine wpAnyH_take (i := 34) (v := .bool true) rfl (by kernel_rfl) (by kernel_rfl) (by kernel_rfl) (fun _ _ _ h => h) (Or.inl ⟨by kernel_rfl, fun x hx => by go_simp⟩) hSq28 ?_
  simp only [Act.put, List.getElem_toArray, List.getElem_cons_zero, List.getElem_cons_succ, List.setIfInBounds_toArray, List.set_cons_zero, List.set_cons_succ]
  refine wpAnyH_take (i := 35) (v := .bool true) rfl (by kernel_rfl) (by kernel_rfl) (by kernel_rfl) (fun _ _ _ h => h) (Or.inl ⟨by kernel_rfl, fun x hx => by go_simp⟩) hSq28 ?_
  simp only [Act.put, List.getElem_toArray, List.getElem_cons_zero, List.getElem_cons_succ, List.setIfInBounds_toArray, List.set_cons_zero, List.set_cons_succ]
  refine wpAnyH_take (i := 36) rfl (by kernel_rfl) (by kernel_rfl) (by kernel_rfl) (fun _ _ _ h => h) (yieldsIf_load_mid (by kernel_rfl) 23 (.tmp 6) rfl (w.heap.size + 1) 0 (by rfl) (b.map bv) _ (fun x hx => blk_range hx.2.1) Try.underlying23 rfl (by rw [List.length_map, HB.out]; exact Try.sizeHash)) hSq28 ?_
  simp only [Act.put, List.getElem_toArray, List.getElem_cons_zero, List.getElem_cons_succ, List.setIfInBounds_toArray, List.set_cons_zero, List.set_cons_succ]
  refine wpAnyH_take (i := 37) (v := .string (str s)) rfl (by kernel_rfl) (by kernel_rfl) (by kernel_rfl) (fun _ _ _ h => h) (Or.inl ⟨by kernel_rfl, fun x hx => by go_simp⟩) hSq28 ?_
  simp only [Act.put, List.getElem_toArray, List.getElem_cons_zero, List.getElem_cons_succ, List.setIfInBounds_toArray, List.set_cons_zero, List.set_cons_succ]
  refine wpAnyH_take (i := 38) rfl (by kernel_rfl) (by kernel_rfl) (by kernel_rfl) (fun _ _ _ h => h) (yieldsIf_load_mid (by kernel_rfl) 23 (.tmp 7) rfl (w.heap.size + 1 + 1) 0 (by rfl) (c.map bv) _ (fun x hx => blk_range hx.2.2.1) Try.underlying23 rfl (by rw [List.length_map, HC.out]; exact Try.sizeHash)) hSq28 ?_
  simp only [Act.put, List.getElem_toArray, List.getElem_cons_zero, List.getElem_cons_succ, List.setIfInBounds_toArray, List.set_cons_zero, List.set_cons_succ]
  refine wpAnyH_take (i := 40) rfl (by kernel_rfl) (by kernel_rfl) (by kernel_rfl) (fun _ _ _ h => h) (yieldsIf_load_mid (by kernel_rfl) 23 (.tmp 7) rfl (w.heap.size + 1 + 1) 0 (by rfl) (c.map bv) _ (fun x hx => blk_range hx.2.2.1) Try.underlying23 rfl (by rw [List.length_map, HC.out]; exact Try.sizeHash)) hSq28 ?_
  simp only [Act.put, List.getElem_toArray, List.getElem_cons_zero, List.getElem_cons_succ, List.setIfInBounds_toArray, List.set_cons_zero, List.set_cons_succ]
  refine wpAnyH_take (i := 41) rfl (by kernel_rfl) (by kernel_rfl) (by kernel_rfl) (fun _ _ _ h => h) (yieldsIf_load_mid (by kernel_rfl) 23 (.tmp 6) rfl (w.heap.size + 1) 0 (by rfl) (b.map bv) _ (fun x hx => blk_range hx.2.1) Try.underlying23 rfl (by rw [List.length_map, HB.out]; exact Try.sizeHash)) hSq28 ?_
  simp only [Act.put, List.getElem_toArray, List.getElem_cons_zero, List.getElem_cons_succ, List.setIfInBounds_toArray, List.set_cons_zero, List.set_cons_succ]
  refine wpAnyH_take (i := 42) (v := .string (str s)) rfl (by kernel_rfl) (by kernel_rfl) (by kernel_rfl) (fun _ _ _ h => h) (Or.inl ⟨by kernel_rfl, fun x hx => by go_simp⟩) hSq28 ?_
  simp only [Act.put, List.getElem_toArray, List.getElem_cons_zero, List.getElem_cons_succ, List.setIfInBounds_toArray, List.set_cons_zero, List.set_cons_succ]
  refine wpAnyH_ready (rs := [39]) (by kernel_rfl) (by simp) ?_
  refine AllReadyH.cons rfl (fun K hK => ?_) AllReadyH.nil
  go_simp
  go_wp2_with (go_at_call 64; refine (c10 _).mono ?_; rintro e yq29 ⟨rfl, bq30⟩)
  refine hK.out _ _ ⟨hSq28.1.below bq30 hSq28.1.lt, hSq28.2.1.below bq30 hSq28.2.1.lt, hSq28.2.2.1.below bq30 hSq28.2.2.1.lt, hSq28.2.2.2.1.below bq30 hSq28.2.2.2.1.lt, hSq28.2.2.2.2.trans (bq30.mono hSq28.2.2.2.2.size)⟩ (fun hSq31 => ?_)
  clear hK K hSq28 bq30
  refine wpAnyH_ready (rs := [43]) (by kernel_rfl) (by simp) ?_
  refine AllReadyH.cons rfl (fun K hK => ?_) AllReadyH.nil
  go_simp
  go_wp2_with (go_at_call 63; refine (c11 _).mono ?_; rintro e yq32 ⟨rfl, bq33⟩)
  refine hK.out _ _ ⟨hSq31.1.below bq33 hSq31.1.lt, hSq31.2.1.below bq33 hSq31.2.1.lt, hSq31.2.2.1.below bq33 hSq31.2.2.1.lt, hSq31.2.2.2.1.below bq33 hSq31.2.2.2.1.lt, hSq31.2.2.2.2.trans (bq33.mono hSq31.2.2.2.2.size)⟩ (fun hSq34 => ?_)
  clear hK K hSq31 bq33
  refine wpAnyH_take (i := 44) (v := .bool bb) rfl (by kernel_rfl) (by kernel_rfl) (by kernel_rfl) (fun _ _ _ h => h) (Or.inl ⟨by kernel_rfl, fun x hx => by go_simp⟩) hSq34 ?_
  simp only [Act.put, List.getElem_toArray, List.getElem_cons_zero, List.getElem_cons_succ, List.setIfInBounds_toArray, List.set_cons_zero, List.set_cons_succ]
  refine wpAnyH_take (i := 45) (v := .bool true) rfl (by kernel_rfl) (by kernel_rfl) (by kernel_rfl) (fun _ _ _ h => h) (Or.inl ⟨by kernel_rfl, fun x hx => by go_simp⟩) hSq34 ?_
  simp only [Act.put, List.getElem_toArray, List.getElem_cons_zero, List.getElem_cons_succ, List.setIfInBounds_toArray, List.set_cons_zero, List.set_cons_succ]
  refine wpAnyH_take (i := 46) (v := .bool true) rfl (by kernel_rfl) (by kernel_rfl) (by kernel_rfl) (fun _ _ _ h => h) (Or.inl ⟨by kernel_rfl, fun x hx => by go_simp⟩) hSq34 ?_
  simp only [Act.put, List.getElem_toArray, List.getElem_cons_zero, List.getElem_cons_succ, List.setIfInBounds_toArray, List.set_cons_zero, List.set_cons_succ]
  refine wpAnyH_take (i := 47) (v := .bool true) rfl (by kernel_rfl) (by kernel_rfl) (by kernel_rfl) (fun _ _ _ h => h) (Or.inl ⟨by kernel_rfl, fun x hx => by go_simp⟩) hSq34 ?_
  simp only [Act.put, List.getElem_toArray, List.getElem_cons_zero, List.getElem_cons_succ, List.setIfInBounds_toArray, List.set_cons_zero, List.set_cons_succ]
  refine wpAnyH_take (i := 48) rfl (by kernel_rfl) (by kernel_rfl) (by kernel_rfl) (fun _ _ _ h => h) (yieldsIf_load_mid (by kernel_rfl) 23 (.tmp 5) rfl (w.heap.size) 0 (by rfl) (a.map bv) _ (fun x hx => blk_range hx.1) Try.underlying23 rfl (by rw [List.length_map, HA.out]; exact Try.sizeHash)) hSq34 ?_
  simp only [Act.put, List.getElem_toArray, List.getElem_cons_zero, List.getElem_cons_succ, List.setIfInBounds_toArray, List.set_cons_zero, List.set_cons_succ]
  refine wpAnyH_take (i := 49) (v := .string (str l)) rfl (by kernel_rfl) (by kernel_rfl) (by kernel_rfl) (fun _ _ _ h => h) (Or.inl ⟨by kernel_rfl, fun x hx => by go_simp⟩) hSq34 ?_
  simp only [Act.put, List.getElem_toArray, List.getElem_cons_zero, List.getElem_cons_succ, List.setIfInBounds_toArray, List.set_cons_zero, List.set_cons_succ]
  refine wpAnyH_take (i := 50) (v := .string (str s)) rfl (by kernel_rfl) (by kernel_rfl) (by kernel_rfl) (fun _ _ _ h => h) (Or.inl ⟨by kernel_rfl, fun x hx => by go_simp⟩) hSq34 ?_
  simp only [Act.put, List.getElem_toArray, List.getElem_cons_zero, List.getElem_cons_succ, List.setIfInBounds_toArray, List.set_cons_zero, List.set_cons_succ]
  refine wpAnyH_take (i := 52) rfl (by kernel_rfl) (by kernel_rfl) (by kernel_rfl) (fun _ _ _ h => h) (yieldsIf_load_mid (by kernel_rfl) 23 (.tmp 5) rfl (w.heap.size) 0 (by rfl) (a.map bv) _ (fun x hx => blk_range hx.1) Try.underlying23 rfl (by rw [List.length_map, HA.out]; exact Try.sizeHash)) hSq34 ?_
  simp only [Act.put, List.getElem_toArray, List.getElem_cons_zero, List.getElem_cons_succ, List.setIfInBounds_toArray, List.set_cons_zero, List.set_cons_succ]
  refine wpAnyH_take (i := 53) (v := .string (str l)) rfl (by kernel_rfl) (by kernel_rfl) (by kernel_rfl) (fun _ _ _ h => h) (Or.inl ⟨by kernel_rfl, fun x hx => by go_simp⟩) hSq34 ?_
  simp only [Act.put, List.getElem_toArray, List.getElem_cons_zero, List.getElem_cons_succ, List.setIfInBounds_toArray, List.set_cons_zero, List.set_cons_succ]
  refine wpAnyH_take (i := 54) (v := .string (str s)) rfl (by kernel_rfl) (by kernel_rfl) (by kernel_rfl) (fun _ _ _ h => h) (Or.inl ⟨by kernel_rfl, fun x hx => by go_simp⟩) hSq34 ?_
  simp only [Act.put, List.getElem_toArray, List.getElem_cons_zero, List.getElem_cons_succ, List.setIfInBounds_toArray, List.set_cons_zero, List.set_cons_succ]
  refine wpAnyH_ready (rs := [51]) (by kernel_rfl) (by simp) ?_
  refine AllReadyH.cons rfl (fun K hK => ?_) AllReadyH.nil
  go_simp
  go_wp2_with (go_at_call 66; refine (c12 _).mono ?_; rintro e yq35 ⟨rfl, bq36⟩)
  refine hK.out _ _ ⟨hSq34.1.below bq36 hSq34.1.lt, hSq34.2.1.below bq36 hSq34.2.1.lt, hSq34.2.2.1.below bq36 hSq34.2.2.1.lt, hSq34.2.2.2.1.below bq36 hSq34.2.2.2.1.lt, hSq34.2.2.2.2.trans (bq36.mono hSq34.2.2.2.2.size)⟩ (fun hSq37 => ?_)
  clear hK K hSq34 bq36
  refine wpAnyH_ready (rs := [55]) (by kernel_rfl) (by simp) ?_
  refine AllReadyH.cons rfl (fun K hK => ?_) AllReadyH.nil
  go_simp
  go_wp2_with (go_at_call 67; refine (c13 _).mono ?_; rintro e yq38 ⟨rfl, bq39⟩)
  refine hK.out _ _ ⟨hSq37.1.below bq39 hSq37.1.lt, hSq37.2.1.below bq39 hSq37.2.1.lt, hSq37.2.2.1.below bq39 hSq37.2.2.1.lt, hSq37.2.2.2.1.below bq39 hSq37.2.2.2.1.lt, hSq37.2.2.2.2.trans (bq39.mono hSq37.2.2.2.2.size)⟩ (fun hSq40 => ?_)
  clear hK K hSq37 bq39
  refine wpAnyH_take (i := 56) (v := .bool true) rfl (by kernel_rfl) (by kernel_rfl) (by kernel_rfl) (fun _ _ _ h => h) (Or.inl ⟨by kernel_rfl, fun x hx => by go_simp⟩) hSq40 ?_
  simp only [Act.put, List.getElem_toArray, List.getElem_cons_zero, List.getElem_cons_succ, List.setIfInBounds_toArray, List.set_cons_zero, List.set_cons_succ]
  refine wpAnyH_take (i := 57) (v := .bool true) rfl (by kernel_rfl) (by kernel_rfl) (by kernel_rfl) (fun _ _ _ h => h) (Or.inl ⟨by kernel_rfl, fun x hx => by go_simp⟩) hSq40 ?_
  simp only [Act.put, List.getElem_toArray, List.getElem_cons_zero, List.getElem_cons_succ, List.setIfInBounds_toArray, List.set_cons_zero, List.set_cons_succ]
  refine wpAnyH_take (i := 58) (v := .bool true) rfl (by kernel_rfl) (by kernel_rfl) (by kernel_rfl) (fun _ _ _ h => h) (Or.inl ⟨by kernel_rfl, fun x hx => by go_simp⟩) hSq40 ?_
  simp only [Act.put, List.getElem_toArray, List.getElem_cons_zero, List.getElem_cons_succ, List.setIfInBounds_toArray, List.set_cons_zero, List.set_cons_succ]
  refine wpAnyH_take (i := 59) rfl (by kernel_rfl) (by kernel_rfl) (by kernel_rfl) (fun _ _ _ h => h) (yieldsIf_load_mid (by kernel_rfl) 23 (.tmp 5) rfl (w.heap.size) 0 (by rfl) (a.map bv) _ (fun x hx => blk_range hx.1) Try.underlying23 rfl (by rw [List.length_map, HA.out]; exact Try.sizeHash)) hSq40 ?_
  simp only [Act.put, List.getElem_toArray, List.getElem_cons_zero, List.getElem_cons_succ, List.setIfInBounds_toArray, List.set_cons_zero, List.set_cons_succ]
  refine wpAnyH_take (i := 60) rfl (by kernel_rfl) (by kernel_rfl) (by kernel_rfl) (fun _ _ _ h => h) (yieldsIf_load_mid (by kernel_rfl) 23 (.tmp 6) rfl (w.heap.size + 1) 0 (by rfl) (b.map bv) _ (fun x hx => blk_range hx.2.1) Try.underlying23 rfl (by rw [List.length_map, HB.out]; exact Try.sizeHash)) hSq40 ?_
  simp only [Act.put, List.getElem_toArray, List.getElem_cons_zero, List.getElem_cons_succ, List.setIfInBounds_toArray, List.set_cons_zero, List.set_cons_succ]
  refine wpAnyH_take (i := 62) rfl (by kernel_rfl) (by kernel_rfl) (by kernel_rfl) (fun _ _ _ h => h) (yieldsIf_load_mid (by kernel_rfl) 23 (.tmp 5) rfl (w.heap.size) 0 (by rfl) (a.map bv) _ (fun x hx => blk_range hx.1) Try.underlying23 rfl (by rw [List.length_map, HA.out]; exact Try.sizeHash)) hSq40 ?_
  simp only [Act.put, List.getElem_toArray, List.getElem_cons_zero, List.getElem_cons_succ, List.setIfInBounds_toArray, List.set_cons_zero, List.set_cons_succ]
  refine wpAnyH_take (i := 63) rfl (by kernel_rfl) (by kernel_rfl) (by kernel_rfl) (fun _ _ _ h => h) (yieldsIf_load_mid (by kernel_rfl) 23 (.tmp 6) rfl (w.heap.size + 1) 0 (by rfl) (b.map bv) _ (fun x hx => blk_range hx.2.1) Try.underlying23 rfl (by rw [List.length_map, HB.out]; exact Try.sizeHash)) hSq40 ?_
  simp only [Act.put, List.getElem_toArray, List.getElem_cons_zero, List.getElem_cons_succ, List.setIfInBounds_toArray, List.set_cons_zero, List.set_cons_succ]
  refine wpAnyH_ready (rs := [61]) (by kernel_rfl) (by simp) ?_
  refine AllReadyH.cons rfl (fun K hK => ?_) AllReadyH.nil
  go_simp
  go_wp2_with (go_at_call 68; refine (c14 _).mono ?_; rintro e yq41 ⟨rfl, bq42⟩)
  refine hK.out _ _ ⟨hSq40.1.below bq42 hSq40.1.lt, hSq40.2.1.below bq42 hSq40.2.1.lt, hSq40.2.2.1.below bq42 hSq40.2.2.1.lt, hSq40.2.2.2.1.below bq42 hSq40.2.2.2.1.lt, hSq40.2.2.2.2.trans (bq42.mono hSq40.2.2.2.2.size)⟩ (fun hSq43 => ?_)
  clear hK K hSq40 bq42
  refine wpAnyH_ready (rs := [64]) (by kernel_rfl) (by simp) ?_
  refine AllReadyH.cons rfl (fun K hK => ?_) AllReadyH.nil
  go_simp
  go_wp2_with (go_at_call 69; refine (c15 _).mono ?_; rintro e yq44 ⟨rfl, bq45⟩)
  refine hK.out _ _ ⟨hSq43.1.below bq45 hSq43.1.lt, hSq43.2.1.below bq45 hSq43.2.1.lt, hSq43.2.2.1.below bq45 hSq43.2.2.1.lt, hSq43.2.2.2.1.below bq45 hSq43.2.2.2.1.lt, hSq43.2.2.2.2.trans (bq45.mono hSq43.2.2.2.2.size)⟩ (fun hSq46 => ?_)
  clear hK K hSq43 bq45
  refine wpAnyH_take (i := 65) (v := .bool true) rfl (by kernel_rfl) (by kernel_rfl) (by kernel_rfl) (fun _ _ _ h => h) (Or.inl ⟨by kernel_rfl, fun x hx => by go_simp⟩) hSq46 ?_
  simp only [Act.put, List.getElem_toArray, List.getElem_cons_zero, List.getElem_cons_succ, List.setIfInBounds_toArray, List.set_cons_zero, List.set_cons_succ]
  refine wpAnyH_take (i := 66) (v := .bool true) rfl (by kernel_rfl) (by kernel_rfl) (by kernel_rfl) (fun _ _ _ h => h) (Or.inl ⟨by kernel_rfl, fun x hx => by go_simp⟩) hSq46 ?_
  simp only [Act.put, List.getElem_toArray, List.getElem_cons_zero, List.getElem_cons_succ, List.setIfInBounds_toArray, List.set_cons_zero, List.set_cons_succ]
  refine wpAnyH_ready (rs := [67]) (by kernel_rfl) (by simp) ?_
  refine AllReadyH.cons rfl (fun K hK => ?_) AllReadyH.nil
  go_simp
  refine hK.out _ _ hSq46 (fun hSq47 => ?_)
  clear hK K hSq46
  refine wpAnyH_done (by kernel_rfl) ?_ _
  go_wp2_with fail
  go_returns
  exact ⟨rfl, hSq47.2.2.2.2⟩
end Go.Proofs.Ytnfegmcdljejnaa
