/-
  GleanPackets: any packet's bytes are the document's, and are read back.
-/
import Derived.Test.YtlomofcnknpciaaGleanPkIn
import Derived.WalkLawsBesides
import Derived.Outline
import Derived.Handy
import Derived.Deep.RegionHeld
set_option linter.unusedSimpArgs false
set_option linter.unusedVariables false
namespace Go.Proofs.Ytlomofcnknpciaa
open Go.RowKit

theorem flatT_sum : ∀ (l : List (List UInt8)), (l.flatMap encT).length ≤ 8 * l.length + (l.map (·.length)).sum
  | [] => by simp
  | x :: l => by
    have h1 := flatT_sum l
    have h3 := numB_len x.length
    rw [List.flatMap_cons, List.length_append, List.length_cons, encT, List.length_append, List.map_cons, List.sum_cons]; omega
theorem packP_len {p : Pk} (h : RightP p) (h32 : ∀ x ∈ p.ids, x.length = 32) (hs : (p.ts.map (·.length)).sum ≤ 100000) : (packP p).length ≤ 1000000 := by
  obtain ⟨h1, h2, h3⟩ := right_small h
  have a := numB_len p.k.toNat
  have b := numB_len p.ids.length
  have c := numB_len p.ts.length
  have d := numB_len p.s.length
  have e := flat32 p.ids h32
  have f := flatT_sum p.ts
  unfold packP
  rw [List.length_append]
  split
  · rw [List.length_append, e]; omega
  · split
    · rw [List.length_append]; omega
    · rw [encT, List.length_append]; omega
set_option maxHeartbeats 16000000 in
set_option maxRecDepth 100000 in
theorem walkGleanPackets {w0 : World} (p : Pk) (iv tv : Value) (hin : PkIn w0 p iv tv) (w : World) (hw : w0 = w := by rfl) : Calls Try.prog 13 #[.agg #[.int .i64 p.k, .string (str p.s), iv, tv]] w fun e w' => e = .returned (.bool true) ∧ Below w.heap.size w w' := by
  subst hw
  obtain ⟨w, rfl⟩ : ∃ w : World, w = w0 := ⟨_, rfl⟩
  obtain ⟨h1, h2, m1, m2, ms, mt⟩ := hin
  obtain ⟨a1, c1, rfl, _⟩ := h1.slice
  obtain ⟨a2, c2, rfl⟩ := h2.slice
  obtain ⟨n1, hn1⟩ : ∃ n, n = p.ids.length := ⟨_, rfl⟩
  obtain ⟨n2, hn2⟩ : ∃ n, n = p.ts.length := ⟨_, rfl⟩
  have HN1 := Lib.hid hn1
  have HN2 := Lib.hid hn2
  have cF : ∀ y, Below w.heap.size w y → Calls Try.prog 56 #[.agg #[.int .i64 p.k, .string (str p.s), .slice a1 n1 c1, .slice a2 n2 c2]] y (FewRes p y) := fun y hy => by
    rw [hn1, hn2]; exact few_calls p _ _ y (h1.below hy) (h2.below hy) m1 m2 ms mt
  rw [← hn1] at h1 ⊢
  rw [← hn2] at h2 ⊢
  have H1 := Lib.hid h1
  have H2 := Lib.hid h2
  have MS := Lib.hid ms
  have MT := Lib.hid mt
  clear h1 h2 hn1 hn2 m1 m2 ms mt
  obtain ⟨W, hW⟩ : ∃ W, W = w.alloc (.cells #[.int .i64 p.k, .string (str p.s), .slice a1 n1 c1, .slice a2 n2 c2] 107) := ⟨_, rfl⟩
  have hP0 : Blk W w.heap.size #[.int .i64 p.k, .string (str p.s), .slice a1 n1 c1, .slice a2 n2 c2] 107 := by rw [hW]; exact Blk.new _ _ _
  have hb0 : Below w.heap.size w W := by rw [hW]; exact below_alloc1 _ _
  have HW := Lib.hid hW
  clear hW
  go_enter Try.func13, Try.ntmps13
  go_wp2_with fail
  rw [← HW.out]
  clear HW
  refine (awake19_calls _).mono ?_
  rintro e w1 ⟨rfl, b1⟩
  have hP1 := hP0.below b1 hP0.lt
  have hB1 := hb0.trans (b1.mono hb0.size)
  have p0 := hP1.cell 0 _ rfl
  have p1 := hP1.cell 1 _ rfl
  have p2 := hP1.cell 2 _ rfl
  have p3 := hP1.cell 3 _ rfl
  clear b1 hb0 hP0
  go_wp2_with fail
  refine (cF _ hB1).mono ?_
  rintro e w2 ⟨b2, ⟨rfl, f1, f2, f3, f4⟩ | rfl⟩
  case inr =>
    have hB2 := hB1.trans (b2.mono hB1.size)
    clear b2 hB1 p0 p1 p2 p3 hP1 cF
    go_wp2_with fail
    refine (awake19_calls _).mono ?_
    rintro e w3 ⟨rfl, b3⟩
    have hB3 := hB2.trans (b3.mono hB2.size)
    clear b3 hB2
    go_wp2_with fail
    go_returns
    exact ⟨rfl, hB3⟩
  have hP2 := hP1.below b2 hP1.lt
  have hB2 := hB1.trans (b2.mono hB1.size)
  have F4 := Lib.hid f4
  have hn1x : p.ids.length ≤ 1000 := by omega
  have hn2x : p.ts.length ≤ 1000 := by omega
  clear b2 hB1 p0 p1 p2 p3 hP1 cF f4
  have p0 := hP2.cell 0 _ rfl
  have p1 := hP2.cell 1 _ rfl
  have p2 := hP2.cell 2 _ rfl
  have p3 := hP2.cell 3 _ rfl
  obtain ⟨A3, hA3⟩ : ∃ a, a = w2.heap.size := ⟨_, rfl⟩
  have HA3 := Lib.hid hA3
  have hwA : w.heap.size < A3 := by have := hP2.lt; omega
  clear hA3
  by_cases hr : RightP p
  case neg =>
    have HR := Lib.hid hr
    clear hr
    go_wp2_with (first | ((with_reducible show wpList _ _ _ (⟨some 22, _, _, _, _, _⟩ :: _) _ _); refine wpList_buildCells rfl 109 #[(0, .tmp 15), (1, .tmp 17), (2, .tmp 19), (3, .tmp 21)] rfl #[.int .i64 p.k, .string (str p.s), .slice a1 n1 c1, .slice a2 n2 c2] (Try.builtPk4 _ _ _ _ _ _ _ _) ?_) | ((with_reducible show wpList _ _ _ (⟨some 3, _, _, _, _, _⟩ :: _) _ _); refine wpList_allocZ rfl 109 rfl _ Try.zeroPk ?_; intro wa sa ba na; rw [← HA3.out] at ba na ⊢; have HSA := Lib.hid sa; clear sa) | ((with_reducible show wpList _ _ _ (⟨none, Op.store _ (.tmp 3) _, _, _, _, _⟩ :: _) _ _); refine wpList_storeBlk rfl 109 (.tmp 3) (.tmp 22) rfl A3 #[.int .i64 p.k, .string (str p.s), .slice a1 n1 c1, .slice a2 n2 c2] (by rfl) (by rfl) _ _ na (by exact Try.sizePk) (by rfl) (pk_all _ _ _ _ rfl rfl) ?_; intro w3 hX3 g3; have hb3 := below_new ba g3 (Nat.le_refl _) (by rw [HA3.out]; exact ba.size); have hP3 := hP2.below hb3 hwA; clear p0 p1 p2 p3 ba na g3; have p0 := hP3.cell 0 _ rfl; have p1 := hP3.cell 1 _ rfl; have p2 := hP3.cell 2 _ rfl; have p3 := hP3.cell 3 _ rfl))
    have hb3' : Below w2.heap.size w2 w3 := HA3.out ▸ hb3
    have hB3 := hB2.trans (hb3'.mono hB2.size)
    clear hb3 hb3' hB2 HSA HA3
    refine (RRight_calls p _ _ _ (H1.out.below hB3) (H2.out.below hB3) hn1x hn2x MS.out MT.out false (by simpa using HR.out)).mono ?_
    rintro e w4 ⟨rfl, b4⟩
    have hX4 := hX3.below b4 hX3.lt
    have hB4 := hB3.trans (b4.mono hB3.size)
    clear b4 hB3 hX3 hP3 p0 p1 p2 p3
    have x0 := hX4.cell 0 _ rfl
    have x1 := hX4.cell 1 _ rfl
    have x2 := hX4.cell 2 _ rfl
    have x3 := hX4.cell 3 _ rfl
    go_wp2_with fail
    refine (GRight_calls p _ _ _ (H1.out.below hB4) (H2.out.below hB4) hn1x hn2x MS.out MT.out false (by simpa using HR.out)).mono ?_
    rintro e w5 ⟨rfl, b5⟩
    have hX5 := hX4.below b5 hX4.lt
    have hB5 := hB4.trans (b5.mono hB4.size)
    clear b5 hB4 hX4 x0 x1 x2 x3
    have x0 := hX5.cell 0 _ rfl
    have x1 := hX5.cell 1 _ rfl
    have x2 := hX5.cell 2 _ rfl
    have x3 := hX5.cell 3 _ rfl
    go_wp2_with fail
    refine (GPack_no p _ _ _ (H1.out.below hB5) (H2.out.below hB5) hn1x hn2x MS.out MT.out HR.out).mono ?_
    rintro e w6 ⟨rfl, b6⟩
    have hB6 := hB5.trans (b6.mono hB5.size)
    clear b6 hB5 hX5 x0 x1 x2 x3
    go_wp2_with fail
    go_returns
    exact ⟨rfl, hB6⟩
  have HR := Lib.hid hr
  have hpl := packP_len hr H1.out.1 F4.out
  have hun := unT_pack hr H1.out.1
  have cG : ∀ y, HashesAt y (.slice a1 n1 c1) p.ids → TxAt y (.slice a2 n2 c2) p.ts → Calls Try.prog 58 #[.agg #[.int .i64 p.k, .string (str p.s), .slice a1 n1 c1, .slice a2 n2 c2]] y fun e w' => e = .returned (.bool true) ∧ Below y.heap.size y w' := fun y q1 q2 => GRight_calls p _ _ y q1 q2 hn1x hn2x MS.out MT.out true (by simpa using HR.out)
  have cRR : ∀ y, HashesAt y (.slice a1 n1 c1) p.ids → TxAt y (.slice a2 n2 c2) p.ts → Calls Try.prog 57 #[.agg #[.int .i64 p.k, .string (str p.s), .slice a1 n1 c1, .slice a2 n2 c2]] y fun e w' => e = .returned (.bool true) ∧ Below y.heap.size y w' := fun y q1 q2 => RRight_calls p _ _ y q1 q2 hn1x hn2x MS.out MT.out true (by simpa using HR.out)
  have cP : ∀ y, HashesAt y (.slice a1 n1 c1) p.ids → TxAt y (.slice a2 n2 c2) p.ts → Calls Try.prog 59 #[.agg #[.int .i64 p.k, .string (str p.s), .slice a1 n1 c1, .slice a2 n2 c2]] y fun e w' => e = .returned (.string (str (packP p))) ∧ Below y.heap.size y w' := fun y q1 q2 => GPack_calls p _ _ y q1 q2 hn1x hn2x MS.out MT.out HR.out
  have cRP : ∀ y, HashesAt y (.slice a1 n1 c1) p.ids → TxAt y (.slice a2 n2 c2) p.ts → Calls Try.prog 61 #[.agg #[.int .i64 p.k, .string (str p.s), .slice a1 n1 c1, .slice a2 n2 c2]] y fun e w' => e = .returned (.string (str (packP p))) ∧ Below y.heap.size y w' := fun y q1 q2 => RPack_calls p _ _ y q1 q2 hn1x hn2x MS.out MT.out HR.out
  have cU : ∀ y, Calls Try.prog 60 #[.string (str (packP p))] y fun e w' => ∃ i4 t4, e = .returned (.tuple #[.agg #[.int .i64 p.k, .string (str p.s), i4, t4], .int .i64 0]) ∧ HashesAt w' i4 p.ids ∧ TxAt w' t4 p.ts ∧ Below y.heap.size y w' := fun y => by
    have := GUnpack_calls (packP p) y hpl
    unfold UnRes at this
    rw [hun] at this
    exact this
  obtain ⟨PB, hPB⟩ : ∃ b, b = packP p := ⟨_, rfl⟩
  rw [← hPB] at cP cRP cU
  clear hr hpl hun hPB
  go_wp2_with (first | ((with_reducible show wpList _ _ _ (⟨some 22, _, _, _, _, _⟩ :: _) _ _); refine wpList_buildCells rfl 109 #[(0, .tmp 15), (1, .tmp 17), (2, .tmp 19), (3, .tmp 21)] rfl #[.int .i64 p.k, .string (str p.s), .slice a1 n1 c1, .slice a2 n2 c2] (Try.builtPk4 _ _ _ _ _ _ _ _) ?_) | ((with_reducible show wpList _ _ _ (⟨some 3, _, _, _, _, _⟩ :: _) _ _); refine wpList_allocZ rfl 109 rfl _ Try.zeroPk ?_; intro wa sa ba na; rw [← HA3.out] at ba na ⊢; have HSA := Lib.hid sa; clear sa) | ((with_reducible show wpList _ _ _ (⟨none, Op.store _ (.tmp 3) _, _, _, _, _⟩ :: _) _ _); refine wpList_storeBlk rfl 109 (.tmp 3) (.tmp 22) rfl A3 #[.int .i64 p.k, .string (str p.s), .slice a1 n1 c1, .slice a2 n2 c2] (by rfl) (by rfl) _ _ na (by exact Try.sizePk) (by rfl) (pk_all _ _ _ _ rfl rfl) ?_; intro w3 hX3 g3; have hb3 := below_new ba g3 (Nat.le_refl _) (by rw [HA3.out]; exact ba.size); have hP3 := hP2.below hb3 hwA; clear p0 p1 p2 p3 ba na g3; have p0 := hP3.cell 0 _ rfl; have p1 := hP3.cell 1 _ rfl; have p2 := hP3.cell 2 _ rfl; have p3 := hP3.cell 3 _ rfl))
  have hb3' : Below w2.heap.size w2 w3 := HA3.out ▸ hb3
  have hB3 := hB2.trans (hb3'.mono hB2.size)
  clear hb3 hb3' hB2 HSA HA3 hP2
  refine (cRR _ (H1.out.below hB3) (H2.out.below hB3)).mono ?_
  rintro e w4 ⟨rfl, b4⟩
  have hX4 := hX3.below b4 hX3.lt
  have hP4 := hP3.below b4 hP3.lt
  have hB4 := hB3.trans (b4.mono hB3.size)
  clear b4 hB3 hX3 hP3 p0 p1 p2 p3 cRR
  have x0 := hX4.cell 0 _ rfl
  have x1 := hX4.cell 1 _ rfl
  have x2 := hX4.cell 2 _ rfl
  have x3 := hX4.cell 3 _ rfl
  go_wp2_with fail
  refine (cP _ (H1.out.below hB4) (H2.out.below hB4)).mono ?_
  rintro e wb ⟨rfl, bb⟩
  have hXb := hX4.below bb hX4.lt
  have hPb := hP4.below bb hP4.lt
  have hBb := hB4.trans (bb.mono hB4.size)
  clear bb hB4 hX4 hP4 x0 x1 x2 x3
  go_wp2_with fail
  refine (cU _).mono ?_
  rintro e wc ⟨i4, t4, rfl, h3, h4, bc⟩
  obtain ⟨a3, c3, rfl, _⟩ := h3.slice
  obtain ⟨a4, c4, rfl⟩ := h4.slice
  rw [← HN1.out] at h3 ⊢
  rw [← HN2.out] at h4 ⊢
  have hXc := hXb.below bc hXb.lt
  have hPc := hPb.below bc hPb.lt
  have hBc := hBb.trans (bc.mono hBb.size)
  have H3 := Lib.hid h3
  have H4 := Lib.hid h4
  clear bc hBb hXb hPb cU h3 h4
  obtain ⟨A4, hA4⟩ : ∃ a, a = wc.heap.size := ⟨_, rfl⟩
  have HA4 := Lib.hid hA4
  have hA34 : A3 < A4 := by have := hXc.lt; omega
  have hwA4 : w.heap.size < A4 := by omega
  clear hA4
  have cS : ∀ y, HashesAt y (.slice a1 n1 c1) p.ids → TxAt y (.slice a2 n2 c2) p.ts → HashesAt y (.slice a3 n1 c3) p.ids → TxAt y (.slice a4 n2 c4) p.ts → Calls Try.prog 62 #[.agg #[.int .i64 p.k, .string (str p.s), .slice a1 n1 c1, .slice a2 n2 c2], .agg #[.int .i64 p.k, .string (str p.s), .slice a3 n1 c3, .slice a4 n2 c4]] y fun e w' => e = .returned (.bool true) ∧ Below y.heap.size y w' := fun y q1 q2 q3 q4 => Same_calls p _ _ _ _ y q1 q2 q3 q4 hn1x hn2x
  go_wp2_with (first | ((with_reducible show wpList _ _ _ (⟨some 4, _, _, _, _, _⟩ :: _) _ _); refine wpList_allocZ rfl 109 rfl _ Try.zeroPk ?_; intro wa sa ba na; rw [← HA4.out] at ba na ⊢; have HSA := Lib.hid sa; clear sa) | ((with_reducible show wpList _ _ _ (⟨none, Op.store _ (.tmp 4) _, _, _, _, _⟩ :: _) _ _); refine wpList_storeBlk rfl 109 (.tmp 4) (.tmp 38) rfl A4 #[.int .i64 p.k, .string (str p.s), .slice a3 n1 c3, .slice a4 n2 c4] (by rfl) (by rfl) _ _ na (by exact Try.sizePk) (by rfl) (pk_all _ _ _ _ rfl rfl) ?_; intro w5 hY5 g5; have hb5 := below_new ba g5 (Nat.le_refl _) (by rw [HA4.out]; exact ba.size); clear ba na g5))
  have hb5' : Below wc.heap.size wc w5 := HA4.out ▸ hb5
  have hB5 := hBc.trans (hb5'.mono hBc.size)
  have hX5 := hXc.below hb5 hA34
  have hP5 := hPc.below hb5 hwA4
  have h1z := H1.out.below hB5
  have h2z := H2.out.below hB5
  have h3z := H3.out.below hb5'
  have h4z := H4.out.below hb5'
  clear hb5 hb5' hBc HSA HA4 hXc hPc
  refine wp_region_held_drew (S := fun x => Blk x (A3) #[.int .i64 p.k, .string (str p.s), .slice a1 n1 c1, .slice a2 n2 c2] 109 ∧ Blk x (w.heap.size) #[.int .i64 p.k, .string (str p.s), .slice a1 n1 c1, .slice a2 n2 c2] 107 ∧ Blk x (A4) #[.int .i64 p.k, .string (str p.s), .slice a3 n1 c3, .slice a4 n2 c4] 109 ∧ HashesAt x (.slice a1 n1 c1) p.ids ∧ TxAt x (.slice a2 n2 c2) p.ts ∧ HashesAt x (.slice a3 n1 c3) p.ids ∧ TxAt x (.slice a4 n2 c4) p.ts ∧ Below w.heap.size w x) (by kernel_rfl) ⟨hX5.drew, hP5.drew, hY5.drew, h1z.below (below_drewN (Below.refl _ _) 1), h2z.below (below_drewN (Below.refl _ _) 1), h3z.below (below_drewN (Below.refl _ _) 1), h4z.below (below_drewN (Below.refl _ _) 1), below_drewN hB5 1⟩ (fun hSq17 => ?_)
  refine wpAnyH_take (i := 0) rfl (by kernel_rfl) (by kernel_rfl) (by kernel_rfl) (fun _ _ _ h => h) (yieldsIf_load_mid (by rfl) 109 (.tmp 3) rfl (A3) 0 (by rfl) ([.int .i64 p.k, .string (str p.s), .slice a1 n1 c1, .slice a2 n2 c2]) _ (fun x hx => blk_rangeP hx.1) Try.underlying109 rfl ((by exact Try.sizePk))) hSq17 ?_
  simp only [Act.put, List.getElem_toArray, List.getElem_cons_zero, List.getElem_cons_succ, List.setIfInBounds_toArray, List.set_cons_zero, List.set_cons_succ]
  refine wpAnyH_ready (rs := [1]) (by kernel_rfl) (by simp) ?_
  refine AllReadyH.cons rfl (fun K hK => ?_) AllReadyH.nil
  go_simp
  go_wp2_with (go_at_call 58; refine (cG _ hSq17.2.2.2.1 hSq17.2.2.2.2.1).mono ?_; rintro e yq18 ⟨rfl, bq19⟩)
  refine hK.out _ _ ⟨hSq17.1.below bq19 hSq17.1.lt, hSq17.2.1.below bq19 hSq17.2.1.lt, hSq17.2.2.1.below bq19 hSq17.2.2.1.lt, hSq17.2.2.2.1.below bq19, hSq17.2.2.2.2.1.below bq19, hSq17.2.2.2.2.2.1.below bq19, hSq17.2.2.2.2.2.2.1.below bq19, hSq17.2.2.2.2.2.2.2.trans (bq19.mono (hSq17.2.2.2.2.2.2.2.size))⟩ (fun hSq20 => ?_)
  clear hK K hSq17 bq19
  refine wpAnyH_take (i := 2) (v := .bool true) rfl (by kernel_rfl) (by kernel_rfl) (by kernel_rfl) (fun _ _ _ h => h) (Or.inl ⟨by rfl, fun x hx => by go_simp⟩) hSq20 ?_
  simp only [Act.put, List.getElem_toArray, List.getElem_cons_zero, List.getElem_cons_succ, List.setIfInBounds_toArray, List.set_cons_zero, List.set_cons_succ]
  refine wpAnyH_take (i := 3) rfl (by kernel_rfl) (by kernel_rfl) (by kernel_rfl) (fun _ _ _ h => h) (yieldsIf_load_mid (by rfl) 109 (.tmp 3) rfl (A3) 0 (by rfl) ([.int .i64 p.k, .string (str p.s), .slice a1 n1 c1, .slice a2 n2 c2]) _ (fun x hx => blk_rangeP hx.1) Try.underlying109 rfl ((by exact Try.sizePk))) hSq20 ?_
  simp only [Act.put, List.getElem_toArray, List.getElem_cons_zero, List.getElem_cons_succ, List.setIfInBounds_toArray, List.set_cons_zero, List.set_cons_succ]
  refine wpAnyH_take (i := 5) rfl (by kernel_rfl) (by kernel_rfl) (by kernel_rfl) (fun _ _ _ h => h) (yieldsIf_load_mid (by rfl) 107 (.tmp 1) rfl (w.heap.size) 0 (by rfl) ([.int .i64 p.k, .string (str p.s), .slice a1 n1 c1, .slice a2 n2 c2]) _ (fun x hx => blk_rangeP hx.2.1) Try.underlying107 rfl ((by exact Try.sizeRPk))) hSq20 ?_
  simp only [Act.put, List.getElem_toArray, List.getElem_cons_zero, List.getElem_cons_succ, List.setIfInBounds_toArray, List.set_cons_zero, List.set_cons_succ]
  refine wpAnyH_ready (rs := [4]) (by kernel_rfl) (by simp) ?_
  refine AllReadyH.cons rfl (fun K hK => ?_) AllReadyH.nil
  go_simp
  go_wp2_with (go_at_call 59; refine (cP _ hSq20.2.2.2.1 hSq20.2.2.2.2.1).mono ?_; rintro e yq21 ⟨rfl, bq22⟩)
  refine hK.out _ _ ⟨hSq20.1.below bq22 hSq20.1.lt, hSq20.2.1.below bq22 hSq20.2.1.lt, hSq20.2.2.1.below bq22 hSq20.2.2.1.lt, hSq20.2.2.2.1.below bq22, hSq20.2.2.2.2.1.below bq22, hSq20.2.2.2.2.2.1.below bq22, hSq20.2.2.2.2.2.2.1.below bq22, hSq20.2.2.2.2.2.2.2.trans (bq22.mono (hSq20.2.2.2.2.2.2.2.size))⟩ (fun hSq23 => ?_)
  clear hK K hSq20 bq22
  refine wpAnyH_ready (rs := [6]) (by kernel_rfl) (by simp) ?_
  refine AllReadyH.cons rfl (fun K hK => ?_) AllReadyH.nil
  go_simp
  go_wp2_with (go_at_call 61; refine (cRP _ hSq23.2.2.2.1 hSq23.2.2.2.2.1).mono ?_; rintro e yq24 ⟨rfl, bq25⟩)
  refine hK.out _ _ ⟨hSq23.1.below bq25 hSq23.1.lt, hSq23.2.1.below bq25 hSq23.2.1.lt, hSq23.2.2.1.below bq25 hSq23.2.2.1.lt, hSq23.2.2.2.1.below bq25, hSq23.2.2.2.2.1.below bq25, hSq23.2.2.2.2.2.1.below bq25, hSq23.2.2.2.2.2.2.1.below bq25, hSq23.2.2.2.2.2.2.2.trans (bq25.mono (hSq23.2.2.2.2.2.2.2.size))⟩ (fun hSq26 => ?_)
  clear hK K hSq23 bq25
  refine wpAnyH_take (i := 7) (v := .bool true) rfl (by kernel_rfl) (by kernel_rfl) (by kernel_rfl) (fun _ _ _ h => h) (Or.inl ⟨by rfl, fun x hx => by go_simp⟩) hSq26 ?_
  simp only [Act.put, List.getElem_toArray, List.getElem_cons_zero, List.getElem_cons_succ, List.setIfInBounds_toArray, List.set_cons_zero, List.set_cons_succ]
  refine wpAnyH_take (i := 8) (v := .bool true) rfl (by kernel_rfl) (by kernel_rfl) (by kernel_rfl) (fun _ _ _ h => h) (Or.inl ⟨by rfl, fun x hx => by go_simp⟩) hSq26 ?_
  simp only [Act.put, List.getElem_toArray, List.getElem_cons_zero, List.getElem_cons_succ, List.setIfInBounds_toArray, List.set_cons_zero, List.set_cons_succ]
  refine wpAnyH_take (i := 9) (v := .bool true) rfl (by kernel_rfl) (by kernel_rfl) (by kernel_rfl) (fun _ _ _ h => h) (Or.inl ⟨by rfl, fun x hx => by go_simp⟩) hSq26 ?_
  simp only [Act.put, List.getElem_toArray, List.getElem_cons_zero, List.getElem_cons_succ, List.setIfInBounds_toArray, List.set_cons_zero, List.set_cons_succ]
  refine wpAnyH_take (i := 10) (v := .int .i64 0) rfl (by kernel_rfl) (by kernel_rfl) (by kernel_rfl) (fun _ _ _ h => h) (Or.inl ⟨by rfl, fun x hx => by go_simp⟩) hSq26 ?_
  simp only [Act.put, List.getElem_toArray, List.getElem_cons_zero, List.getElem_cons_succ, List.setIfInBounds_toArray, List.set_cons_zero, List.set_cons_succ]
  refine wpAnyH_take (i := 11) (v := .bool true) rfl (by kernel_rfl) (by kernel_rfl) (by kernel_rfl) (fun _ _ _ h => h) (Or.inl ⟨by rfl, fun x hx => by go_simp⟩) hSq26 ?_
  simp only [Act.put, List.getElem_toArray, List.getElem_cons_zero, List.getElem_cons_succ, List.setIfInBounds_toArray, List.set_cons_zero, List.set_cons_succ]
  refine wpAnyH_take (i := 12) (v := .bool true) rfl (by kernel_rfl) (by kernel_rfl) (by kernel_rfl) (fun _ _ _ h => h) (Or.inl ⟨by rfl, fun x hx => by go_simp⟩) hSq26 ?_
  simp only [Act.put, List.getElem_toArray, List.getElem_cons_zero, List.getElem_cons_succ, List.setIfInBounds_toArray, List.set_cons_zero, List.set_cons_succ]
  refine wpAnyH_take (i := 13) (v := .bool true) rfl (by kernel_rfl) (by kernel_rfl) (by kernel_rfl) (fun _ _ _ h => h) (Or.inl ⟨by rfl, fun x hx => by go_simp⟩) hSq26 ?_
  simp only [Act.put, List.getElem_toArray, List.getElem_cons_zero, List.getElem_cons_succ, List.setIfInBounds_toArray, List.set_cons_zero, List.set_cons_succ]
  refine wpAnyH_take (i := 14) rfl (by kernel_rfl) (by kernel_rfl) (by kernel_rfl) (fun _ _ _ h => h) (yieldsIf_load_mid (by rfl) 107 (.tmp 1) rfl (w.heap.size) 0 (by rfl) ([.int .i64 p.k, .string (str p.s), .slice a1 n1 c1, .slice a2 n2 c2]) _ (fun x hx => blk_rangeP hx.2.1) Try.underlying107 rfl ((by exact Try.sizeRPk))) hSq26 ?_
  simp only [Act.put, List.getElem_toArray, List.getElem_cons_zero, List.getElem_cons_succ, List.setIfInBounds_toArray, List.set_cons_zero, List.set_cons_succ]
  refine wpAnyH_take (i := 15) (v := .pointer (some ⟨A4, 0, none⟩)) rfl (by kernel_rfl) (by kernel_rfl) (by kernel_rfl) (fun _ _ _ h => h) (Or.inl ⟨by rfl, fun x hx => by go_simp⟩) hSq26 ?_
  simp only [Act.put, List.getElem_toArray, List.getElem_cons_zero, List.getElem_cons_succ, List.setIfInBounds_toArray, List.set_cons_zero, List.set_cons_succ]
  refine wpAnyH_take (i := 16) (v := .int .i64 p.k) rfl (by kernel_rfl) (by kernel_rfl) (by kernel_rfl) (fun _ _ _ h => h) (Or.inl ⟨by rfl, fun x hx => by have hc := hx.2.2.1.cell 0 _ rfl; go_simp⟩) hSq26 ?_
  simp only [Act.put, List.getElem_toArray, List.getElem_cons_zero, List.getElem_cons_succ, List.setIfInBounds_toArray, List.set_cons_zero, List.set_cons_succ]
  refine wpAnyH_take (i := 17) (v := .pointer (some ⟨A4, 1, none⟩)) rfl (by kernel_rfl) (by kernel_rfl) (by kernel_rfl) (fun _ _ _ h => h) (Or.inl ⟨by rfl, fun x hx => by go_simp⟩) hSq26 ?_
  simp only [Act.put, List.getElem_toArray, List.getElem_cons_zero, List.getElem_cons_succ, List.setIfInBounds_toArray, List.set_cons_zero, List.set_cons_succ]
  refine wpAnyH_take (i := 18) (v := .string (str p.s)) rfl (by kernel_rfl) (by kernel_rfl) (by kernel_rfl) (fun _ _ _ h => h) (Or.inl ⟨by rfl, fun x hx => by have hc := hx.2.2.1.cell 1 _ rfl; go_simp⟩) hSq26 ?_
  simp only [Act.put, List.getElem_toArray, List.getElem_cons_zero, List.getElem_cons_succ, List.setIfInBounds_toArray, List.set_cons_zero, List.set_cons_succ]
  refine wpAnyH_take (i := 19) (v := .pointer (some ⟨A4, 2, none⟩)) rfl (by kernel_rfl) (by kernel_rfl) (by kernel_rfl) (fun _ _ _ h => h) (Or.inl ⟨by rfl, fun x hx => by go_simp⟩) hSq26 ?_
  simp only [Act.put, List.getElem_toArray, List.getElem_cons_zero, List.getElem_cons_succ, List.setIfInBounds_toArray, List.set_cons_zero, List.set_cons_succ]
  refine wpAnyH_take (i := 20) (v := .slice a3 n1 c3) rfl (by kernel_rfl) (by kernel_rfl) (by kernel_rfl) (fun _ _ _ h => h) (Or.inl ⟨by rfl, fun x hx => by have hc := hx.2.2.1.cell 2 _ rfl; go_simp⟩) hSq26 ?_
  simp only [Act.put, List.getElem_toArray, List.getElem_cons_zero, List.getElem_cons_succ, List.setIfInBounds_toArray, List.set_cons_zero, List.set_cons_succ]
  refine wpAnyH_take (i := 21) (v := .pointer (some ⟨A4, 3, none⟩)) rfl (by kernel_rfl) (by kernel_rfl) (by kernel_rfl) (fun _ _ _ h => h) (Or.inl ⟨by rfl, fun x hx => by go_simp⟩) hSq26 ?_
  simp only [Act.put, List.getElem_toArray, List.getElem_cons_zero, List.getElem_cons_succ, List.setIfInBounds_toArray, List.set_cons_zero, List.set_cons_succ]
  refine wpAnyH_take (i := 22) (v := .slice a4 n2 c4) rfl (by kernel_rfl) (by kernel_rfl) (by kernel_rfl) (fun _ _ _ h => h) (Or.inl ⟨by rfl, fun x hx => by have hc := hx.2.2.1.cell 3 _ rfl; go_simp⟩) hSq26 ?_
  simp only [Act.put, List.getElem_toArray, List.getElem_cons_zero, List.getElem_cons_succ, List.setIfInBounds_toArray, List.set_cons_zero, List.set_cons_succ]
  refine wpAnyH_take (i := 23) rfl (by kernel_rfl) (by kernel_rfl) (by kernel_rfl) (fun _ _ _ h => h) (yieldsIf_build (by rfl) 107 #[(0, .tmp 56), (1, .tmp 58), (2, .tmp 60), (3, .tmp 62)] rfl #[.int .i64 p.k, .string (str p.s), .slice a3 n1 c3, .slice a4 n2 c4] (Try.builtRPk4 _ _ _ _ _ _ _ _)) hSq26 ?_
  simp only [Act.put, List.getElem_toArray, List.getElem_cons_zero, List.getElem_cons_succ, List.setIfInBounds_toArray, List.set_cons_zero, List.set_cons_succ]
  refine wpAnyH_ready (rs := [24]) (by kernel_rfl) (by simp) ?_
  refine AllReadyH.cons rfl (fun K hK => ?_) AllReadyH.nil
  go_simp
  go_wp2_with (go_at_call 62; refine (cS _ hSq26.2.2.2.1 hSq26.2.2.2.2.1 hSq26.2.2.2.2.2.1 hSq26.2.2.2.2.2.2.1).mono ?_; rintro e yq27 ⟨rfl, bq28⟩)
  refine hK.out _ _ ⟨hSq26.1.below bq28 hSq26.1.lt, hSq26.2.1.below bq28 hSq26.2.1.lt, hSq26.2.2.1.below bq28 hSq26.2.2.1.lt, hSq26.2.2.2.1.below bq28, hSq26.2.2.2.2.1.below bq28, hSq26.2.2.2.2.2.1.below bq28, hSq26.2.2.2.2.2.2.1.below bq28, hSq26.2.2.2.2.2.2.2.trans (bq28.mono (hSq26.2.2.2.2.2.2.2.size))⟩ (fun hSq29 => ?_)
  clear hK K hSq26 bq28
  refine wpAnyH_take (i := 25) (v := .bool true) rfl (by kernel_rfl) (by kernel_rfl) (by kernel_rfl) (fun _ _ _ h => h) (Or.inl ⟨by rfl, fun x hx => by go_simp⟩) hSq29 ?_
  simp only [Act.put, List.getElem_toArray, List.getElem_cons_zero, List.getElem_cons_succ, List.setIfInBounds_toArray, List.set_cons_zero, List.set_cons_succ]
  refine wpAnyH_ready (rs := [26]) (by kernel_rfl) (by simp) ?_
  refine AllReadyH.cons rfl (fun K hK => ?_) AllReadyH.nil
  go_simp
  refine hK.out _ _ hSq29 (fun hSq30 => ?_)
  clear hK K hSq29
  refine wpAnyH_done (by kernel_rfl) ?_ _
  have hB9 := Lib.hid hSq30.2.2.2.2.2.2.2
  clear hSq30 cG cP cRP cS
  go_wp2_with fail
  go_returns
  exact ⟨rfl, hB9.out⟩
end Go.Proofs.Ytlomofcnknpciaa
