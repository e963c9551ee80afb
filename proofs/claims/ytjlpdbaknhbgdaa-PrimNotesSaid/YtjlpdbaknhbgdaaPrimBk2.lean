/-
  prim.Mix, Pub, Seal, Wrap with a book, or none.
-/
import Derived.Test.YtjlpdbaknhbgdaaPrimBk
import Derived.Test.YtjlpdbaknhbgdaaPrimMix
import Derived.Test.YtjlpdbaknhbgdaaPrimPub
import Derived.Test.YtjlpdbaknhbgdaaWrap
set_option linter.unusedSimpArgs false
set_option linter.unusedVariables false
namespace Go.Proofs.Ytjlpdbaknhbgdaa
open Go.RowKit

/-- A value that is a slice. -/
theorem HashesAt.slice3 {w : World} {v : Value} {l : List HsT} (h : HashesAt w v l) : ∃ ao n c, v = .slice ao n c := by obtain ⟨ao, c, e, -⟩ := h.slice; exact ⟨_, _, _, e⟩
theorem wp_bsH2n {P : Program} {o : Oper} {a : Act} {w : World} {K : Act → World → Prop} {Q : Exit → Act → World → Prop} (t e : TypeId) (x y : Operand) (ho : o.op = .buildSlice t 2 #[(0, x), (1, y)])
    (l r : List UInt8) (hl : l.length = 32) (hr : r.length = 32) (hx : a.eval x = .agg (l.map bv).toArray) (hy : a.eval y = .agg (r.map bv).toArray) (hu : P.underlying t = some (.slice e)) (hz : (P.info? e).map (fun i => (i.zero, i.size)) = some (some (.agg Z32), 32))
    (h : ∀ g w', g = w.heap.size → w'.heap.size = g + 1 → Below w.heap.size w w' → Blk w' g ((l ++ r).map bv).toArray e → K (a.put o.dst (.slice (some ⟨g, 0, none⟩) 2 2)) w') : o.wp P a w K Q :=
  wp_bs64 t e x y ho l r hl hr hx hy hu hz (h _ _ rfl (by simp) (below_alloc1 _ _) (Blk.new _ _ _))
theorem wpList_bsH2n {P : Program} {ops : Array Oper} {rest : List Oper} {o : Oper} {a : Act} {w : World} {Q : Exit → Act → World → Prop} (hg : o.guard = none) (t e : TypeId) (x y : Operand) (ho : o.op = .buildSlice t 2 #[(0, x), (1, y)])
    (l r : List UInt8) (hl : l.length = 32) (hr : r.length = 32) (hx : a.eval x = .agg (l.map bv).toArray) (hy : a.eval y = .agg (r.map bv).toArray) (hu : P.underlying t = some (.slice e)) (hz : (P.info? e).map (fun i => (i.zero, i.size)) = some (some (.agg Z32), 32))
    (h : ∀ g w', g = w.heap.size → w'.heap.size = g + 1 → Below w.heap.size w w' → Blk w' g ((l ++ r).map bv).toArray e → wpList P ops Q rest (a.put o.dst (.slice (some ⟨g, 0, none⟩) 2 2)) w') : wpList P ops Q (o :: rest) a w :=
  wpList_plain hg fun _ hK => wp_bsH2n t e x y ho l r hl hr hx hy hu hz (fun g w' h1 h2 h3 h4 => hK _ _ (h g w' h1 h2 h3 h4))
theorem HashesAt.drew {w : World} {v : Value} {l : List HsT} (h : HashesAt w v l) : HashesAt w.drew v l := h.below (below_drewN (Below.refl _ _) 1)
set_option maxHeartbeats 8000000 in
set_option maxRecDepth 100000 in
theorem PMixO_calls {A : Nat → Prop} (a k : List UInt8) (B : Nat) (o : Option BkSt) (pv : Value) (hpv : pv = bkPtr o) (w : World) (ho : BkAt A w B o) (hr : BkRoom 1 o) (hB : B ≤ w.heap.size) (hAw : ∀ q, A q → q < w.heap.size) (ha : a.length = 32) (hk : k.length = 32) :
    Calls Try.prog 8 #[pv, .agg (a.map bv).toArray, .agg (k.map bv).toArray] w fun e w' => e = .returned (.agg ((mixT a k).map bv).toArray) ∧ BkAt A w' B (bkNote o ⟨[a, k], [(mixT a k)]⟩) ∧ BkFrm A o w w' ∧ Below B w w' := by
  subst hpv
  have HO := Lib.hid ho
  have HRM := Lib.hid hr
  have HAW := Lib.hid hAw
  clear ho hr hAw
  have HA := Lib.hid ha
  have HK := Lib.hid hk
  clear hk ha
  obtain ⟨y, hy⟩ : ∃ y, y = mixT a k := ⟨_, rfl⟩
  have HY : Hid (y.length = 32) := by show _ = _; rw [hy]; exact mixT_len _ _
  have HYV := Lib.hid hy
  rw [← hy]
  have c1 : ∀ x, Calls Try.prog 27 #[.agg (a.map bv).toArray, .agg (k.map bv).toArray] x fun e w' => e = .returned (.agg (y.map bv).toArray) ∧ Below x.heap.size x w' := by rw [hy]; exact fun x => Mix_calls a k x HA.out HK.out
  clear hy
  have hB0 := Below.refl w.heap.size w
  go_enter Try.func8, Try.ntmps8
  go_wp2_with (first | ((with_reducible show wpList _ _ _ (⟨some 4, _, _, _, _, _⟩ :: _) _ _); refine wpList_boxA rfl 26 (.tmp 1) rfl (a.map bv).toArray (by rfl) ?_; intro wq1 bq2 nq3; have hBq4 := hB0.trans (bq2.mono (hB0.size)); clear hB0; clear bq2) | ((with_reducible show wpList _ _ _ (⟨some 5, _, _, _, _, _⟩ :: _) _ _); refine wpList_boxA rfl 26 (.tmp 2) rfl (k.map bv).toArray (by rfl) ?_; intro wq5 bq6 nq7; have ltq8 : w.heap.size < wq1.heap.size := nq3.lt; have hCq9 := nq3.below bq6 nq3.lt; have hBq10 := hBq4.trans (bq6.mono (hBq4.size)); clear nq3 hBq4; clear bq6) | ((with_reducible show wpList _ _ _ (⟨some 6, _, _, _, _, _⟩ :: _) _ _); refine wpList_allocZ rfl 26 rfl _ Try.zeroHash ?_; intro wq11 hsq12 baq13 hNq14; have HR1 : Hid (w.heap.size ≤ wq5.heap.size) := hBq10.size; have ltq15 : w.heap.size < wq5.heap.size := hCq9.lt; have ltq16 : wq1.heap.size < wq5.heap.size := nq7.lt; have hCq17 := hCq9.below baq13 hCq9.lt; have hCq18 := nq7.below baq13 nq7.lt; have hBq19 := hBq10.trans (baq13.mono (hBq10.size)); clear hCq9 nq7 hBq10; clear baq13 hsq12) | ((with_reducible show wpList _ _ _ (⟨some 8, _, _, _, _, _⟩ :: _) _ _); refine wpList_load_mid rfl 26 (.tmp 4) rfl (w.heap.size) 0 (by rfl) (a.map bv) _ (blk_rangeP hCq17) Try.underlying26 rfl (by rw [List.length_map, HA.out]; exact Try.sizeHash) ?_) | ((with_reducible show wpList _ _ _ (⟨some 9, _, _, _, _, _⟩ :: _) _ _); refine wpList_load_mid rfl 26 (.tmp 5) rfl (wq1.heap.size) 0 (by rfl) (k.map bv) _ (blk_rangeP hCq18) Try.underlying26 rfl (by rw [List.length_map, HK.out]; exact Try.sizeHash) ?_))
  have ltq22 : w.heap.size < wq11.heap.size := hCq17.lt
  have ltq23 : wq1.heap.size < wq11.heap.size := hCq18.lt
  have ltq24 : wq5.heap.size < wq11.heap.size := hNq14.lt
  refine (c1 _).mono ?_
  rintro e wq20 ⟨rfl, bq21⟩
  have hCq25 := hCq17.below bq21 hCq17.lt
  have hCq26 := hCq18.below bq21 hCq18.lt
  have hCq27 := hNq14.below bq21 hNq14.lt
  have hBq28 := hBq19.trans (bq21.mono (hBq19.size))
  clear hCq17 hCq18 hNq14 hBq19
  clear bq21
  go_wp2_with (first | ((with_reducible show wpList _ _ _ (⟨some 7, _, _, _, _, _⟩ :: _) _ _); refine wpList_allocZ rfl 26 rfl _ Try.zeroHash ?_; intro wq29 hsq30 baq31 hNq32) | ((with_reducible show wpList _ _ _ (⟨none, Op.store _ (.tmp 7) _, _, _, _, _⟩ :: _) _ _); refine wpList_storeBlk rfl 26 (.tmp 7) (.tmp 10) rfl (wq20.heap.size) ((y.map bv).toArray) (by rfl) (by rfl) _ _ hNq32 (by rw [bv_size, HY.out]; exact Try.sizeHash) (by rw [bv_size, HY.out, Z32_size]) (bv_all _) ?_; intro wq33 hKq34 gq35; have bbq36 := below_new baq31 gq35 (Nat.le_refl _) baq31.size; have ltq37 : w.heap.size < wq20.heap.size := hCq25.lt; have ltq38 : wq1.heap.size < wq20.heap.size := hCq26.lt; have ltq39 : wq5.heap.size < wq20.heap.size := hCq27.lt; have hCq40 := hCq25.below bbq36 hCq25.lt; have hCq41 := hCq26.below bbq36 hCq26.lt; have hCq42 := hCq27.below bbq36 hCq27.lt; have hBq43 := hBq28.trans (bbq36.mono (hBq28.size)); clear hCq25 hCq26 hCq27 hBq28; clear bbq36 baq31 hNq32 gq35 hsq30) | ((with_reducible show wpList _ _ _ (⟨some 12, _, _, _, _, _⟩ :: _) _ _); refine wpList_load_mid rfl 26 (.tmp 4) rfl (w.heap.size) 0 (by rfl) (a.map bv) _ (blk_rangeP hCq40) Try.underlying26 rfl (by rw [List.length_map, HA.out]; exact Try.sizeHash) ?_) | ((with_reducible show wpList _ _ _ (⟨some 13, _, _, _, _, _⟩ :: _) _ _); refine wpList_load_mid rfl 26 (.tmp 5) rfl (wq1.heap.size) 0 (by rfl) (k.map bv) _ (blk_rangeP hCq41) Try.underlying26 rfl (by rw [List.length_map, HK.out]; exact Try.sizeHash) ?_) | ((with_reducible show wpList _ _ _ (⟨some 14, _, _, _, _, _⟩ :: _) _ _); refine wpList_bsH2n rfl 23 26 (.tmp 12) (.tmp 13) rfl a k HA.out HK.out (by rfl) (by rfl) Try.underlying23 Try.infoHash2 ?_; intro qq44 wq45 eqq46 szq47 bbq48 hNq49; have ltq50 : w.heap.size < wq33.heap.size := hCq40.lt; have ltq51 : wq1.heap.size < wq33.heap.size := hCq41.lt; have ltq52 : wq5.heap.size < wq33.heap.size := hCq42.lt; have ltq53 : wq20.heap.size < wq33.heap.size := hKq34.lt; have hCq54 := hCq40.below bbq48 hCq40.lt; have hCq55 := hCq41.below bbq48 hCq41.lt; have hCq56 := hCq42.below bbq48 hCq42.lt; have hCq57 := hKq34.below bbq48 hKq34.lt; have hBq58 := hBq43.trans (bbq48.mono (hBq43.size)); clear hCq40 hCq41 hCq42 hKq34 hBq43; clear bbq48 eqq46 szq47) | ((with_reducible show wpList _ _ _ (⟨some 15, _, _, _, _, _⟩ :: _) _ _); refine wpList_load_mid rfl 26 (.tmp 7) rfl (wq20.heap.size) 0 (by rfl) (y.map bv) _ (blk_rangeP hCq57) Try.underlying26 rfl (by rw [List.length_map, HY.out]; exact Try.sizeHash) ?_) | ((with_reducible show wpList _ _ _ (⟨some 16, _, _, _, _, _⟩ :: _) _ _); refine wpList_bsH rfl 23 26 (.tmp 15) rfl y HY.out (by rfl) Try.underlying23 Try.infoHash2 ?_; intro qq59 wq60 eqq61 szq62 bbq63 hNq64; have ltq65 : w.heap.size < wq45.heap.size := hCq54.lt; have ltq66 : wq1.heap.size < wq45.heap.size := hCq55.lt; have ltq67 : wq5.heap.size < wq45.heap.size := hCq56.lt; have ltq68 : wq20.heap.size < wq45.heap.size := hCq57.lt; have ltq69 : qq44 < wq45.heap.size := hNq49.lt; have hCq70 := hCq54.below bbq63 hCq54.lt; have hCq71 := hCq55.below bbq63 hCq55.lt; have hCq72 := hCq56.below bbq63 hCq56.lt; have hCq73 := hCq57.below bbq63 hCq57.lt; have hCq74 := hNq49.below bbq63 hNq49.lt; have hBq75 := hBq58.trans (bbq63.mono (hBq58.size)); clear hCq54 hCq55 hCq56 hCq57 hNq49 hBq58; clear bbq63 eqq61 szq62) | ((with_reducible show wpList _ _ _ (⟨some 17, _, _, _, _, _⟩ :: _) _ _); refine wpList_buildCells rfl 68 #[(0, .tmp 14), (1, .tmp 16)] rfl (#[.slice (some ⟨qq44, 0, none⟩) 2 2, .slice (some ⟨qq59, 0, none⟩) 1 1]) (by kernel_rfl) ?_))
  have hr1 : w.heap.size ≤ wq5.heap.size := HR1.out
  have hr2 : wq5.heap.size < wq60.heap.size := hCq72.lt
  go_wp2_with fail
  have ltq76 : w.heap.size < wq60.heap.size := hCq70.lt
  have ltq77 : wq1.heap.size < wq60.heap.size := hCq71.lt
  have ltq78 : wq5.heap.size < wq60.heap.size := hCq72.lt
  have ltq79 : wq20.heap.size < wq60.heap.size := hCq73.lt
  have ltq80 : qq44 < wq60.heap.size := hCq74.lt
  have ltq81 : qq59 < wq60.heap.size := hNq64.lt
  have HW1 : Hid (Below w.heap.size w wq60) := hBq75
  refine (NoteO_calls (A := wideA A w wq60.heap.size) _ _ ⟨[a, k], [y]⟩ B o _ (HO.out.wide HW1.out) (fun w' f b => ⟨HashesAt.two (hCq74.frm f (by unfold NT; decide)) HA.out HK.out (by omega), HashesAt.one (hNq64.frm f (by unfold NT; decide)) HY.out (by omega)⟩) (FOk.of21 HA.out HK.out HY.out) HRM.out (Nat.le_trans hB HW1.out.size) (wideA_le HAW.out HW1.out)).mono ?_
  rintro e wq82 ⟨rfl, hbk, hf, hbb⟩
  have hCq83 := hCq70.frm hf (by unfold NT; decide)
  have hCq84 := hCq71.frm hf (by unfold NT; decide)
  have hCq85 := hCq72.frm hf (by unfold NT; decide)
  have hCq86 := hCq73.frm hf (by unfold NT; decide)
  have hCq87 := hCq74.frm hf (by unfold NT; decide)
  have hCq88 := hNq64.frm hf (by unfold NT; decide)
  have HBK := Lib.hid hbk
  have HFR := Lib.hid hf
  have HBB := Lib.hid hbb
  clear hbk hf hbb hBq75 hCq70 hCq71 hCq72 hCq73 hCq74 hNq64
  go_wp2_with (first | ((with_reducible show wpList _ _ _ (⟨some 19, _, _, _, _, _⟩ :: _) _ _); refine wpList_load_mid rfl 26 (.tmp 7) rfl (wq20.heap.size) 0 (by rfl) (y.map bv) _ (blk_rangeP hCq86) Try.underlying26 rfl (by rw [List.length_map, HY.out]; exact Try.sizeHash) ?_) | ((with_reducible show wpList _ _ _ (⟨none, Op.store _ (.tmp 6) _, _, _, _, _⟩ :: _) _ _); refine wpList_storeBlk rfl 26 (.tmp 6) (.tmp 19) rfl (wq5.heap.size) ((y.map bv).toArray) (by rfl) (by rfl) _ _ hCq85 (by rw [bv_size, HY.out]; exact Try.sizeHash) (by rw [bv_size, HY.out, Z32_size]) (bv_all _) ?_; intro wq89 hKq90 gq91))
  have hfin := bk_done HW1.out HFR.out HBB.out HBK.out hB (r := wq5.heap.size) hr1 hr2 gq91
  refine ret_blk rfl (wq5.heap.size) _ _ _ (by rfl) hKq90 Try.underlying26 rfl (by rw [bv_size, HY.out]; exact Try.sizeHash) rfl ?_
  exact ⟨rfl, hfin⟩
set_option maxHeartbeats 8000000 in
set_option maxRecDepth 100000 in
theorem PubO_calls {A : Nat → Prop} (a : List UInt8) (B : Nat) (o : Option BkSt) (pv : Value) (hpv : pv = bkPtr o) (w : World) (ho : BkAt A w B o) (hr : BkRoom 1 o) (hB : B ≤ w.heap.size) (hAw : ∀ q, A q → q < w.heap.size) (ha : a.length = 32) :
    Calls Try.prog 10 #[pv, .agg (a.map bv).toArray] w fun e w' => e = .returned (.agg ((pubT a).map bv).toArray) ∧ BkAt A w' B (bkNote o ⟨[a], [markT (pubT a)]⟩) ∧ BkFrm A o w w' ∧ Below B w w' := by
  have HA := Lib.hid ha
  have HPV := Lib.hid hpv
  have HRM := Lib.hid hr
  clear ha hpv hr
  have hA0 : Blk ((w.alloc (.cells (a.map bv).toArray 26)).alloc (.cells Z32 26)) w.heap.size (a.map bv).toArray 26 := (Blk.new _ _ _).alloc _
  have hR0 : Blk ((w.alloc (.cells (a.map bv).toArray 26)).alloc (.cells Z32 26)) (w.heap.size + 1) Z32 26 := blk_new1 _ _ _ _
  have hb0 : Below w.heap.size w ((w.alloc (.cells (a.map bv).toArray 26)).alloc (.cells Z32 26)) := ((Below.refl _ _).alloc (Nat.le_refl _) _).alloc (by simp) _
  obtain ⟨t, ht⟩ : ∃ t, t = pubT a := ⟨_, rfl⟩
  have HT : Hid (t.length = 32) := by show _ = _; rw [ht]; exact pubT_len _
  rw [← ht]
  obtain ⟨m, hm⟩ : ∃ m, m = markT t := ⟨_, rfl⟩
  have HM : Hid (m.length = 32) := by show _ = _; rw [hm]; exact markT_len _
  rw [← hm]
  have c1 : ∀ x, Calls Try.prog 30 #[.agg (a.map bv).toArray] x fun e w' => e = .returned (.agg (t.map bv).toArray) ∧ Below x.heap.size x w' := by rw [ht]; exact fun x => public_calls a x HA.out
  have c2 : ∀ x, Calls Try.prog 31 #[.agg (t.map bv).toArray] x fun e w' => e = .returned (.agg (m.map bv).toArray) ∧ Below x.heap.size x w' := by rw [hm]; exact fun x => Mark_calls t x HT.out
  clear ht hm
  go_enter Try.func10, Try.ntmps10
  go_wp2_with ((with_reducible show wpList _ _ _ (⟨some 6, _, _, _, _, _⟩ :: _) _ _); refine wpList_loadBlk rfl 26 (.tmp 3) rfl w.heap.size (by rfl) _ _ _ hA0 Try.underlying26 rfl (by rw [bv_size, HA.out]; exact Try.sizeHash) ?_)
  generalize (w.alloc (.cells (a.map bv).toArray 26)).alloc (.cells Z32 26) = W0 at hA0 hR0 hb0 ⊢
  refine (c1 _).mono ?_
  rintro e w1 ⟨rfl, b1⟩
  have hA1 := (hA0.below b1 hA0.lt).alloc (.cells Z32 26)
  have hR1 := (hR0.below b1 hR0.lt).alloc (.cells Z32 26)
  have hb1 : Below w.heap.size w w1 := hb0.trans (b1.mono hb0.size)
  have hN := Blk.new w1 Z32 26
  have hb2 : Below w.heap.size w (w1.alloc (.cells Z32 26)) := hb1.alloc hb1.size _
  have hs1 : w.heap.size + 1 < w1.heap.size := (hR0.below b1 hR0.lt).lt
  clear b1 hA0 hR0 hb0 hb1
  go_wp2_with ((with_reducible show wpList _ _ _ (⟨none, Op.store _ (.tmp 5) _, _, _, _, _⟩ :: _) _ _); refine wpList_storeBlk rfl 26 (.tmp 5) (.tmp 7) rfl w1.heap.size (t.map bv).toArray (by rfl) (by rfl) _ _ hN (by rw [bv_size, HT.out]; exact Try.sizeHash) (by rw [bv_size, HT.out, Z32_size]) (bv_all _) ?_; intro w2 hD2 g2; have hA2 := Blk.grown hA1 g2 (by simp; omega); have hR2 := Blk.grown hR1 g2 (by simp; omega); have hb3 : Below w.heap.size w w2 := below_new hb2 g2 (by omega) (by simp; omega); clear hN hA1 hR1 hb2 g2)
  have HRUN := Lib.hid (BkRun.start hb3 ho hB hAw)
  have hr2 : w.heap.size + 1 < w2.heap.size := hR2.lt
  obtain ⟨N, hN⟩ : ∃ N, N = w2.heap.size := ⟨_, rfl⟩
  rw [← hN] at HRUN hr2
  have hz0 : Below 0 w w2 := hb3.mono (Nat.zero_le _)
  clear hb3 hN
  refine wp_region_held_drew (S := fun x => Blk x (w.heap.size) (a.map bv).toArray 26 ∧ Blk x (w.heap.size + 1) Z32 26 ∧ Blk x (w1.heap.size) (t.map bv).toArray 26 ∧ Below 0 w x) (by kernel_rfl) ⟨hA2.drew, hR2.drew, hD2.drew, below_drewN hz0 1⟩ (fun hSq92 => ?_)
  have hHq93 := Lib.hid (HRUN.out.drew)
  refine wpAnyH_take (i := 0) (v := pv) rfl (by kernel_rfl) (by kernel_rfl) (by kernel_rfl) (fun _ _ _ h => h) (Or.inl ⟨by rfl, fun x hx => by go_simp⟩) hSq92 ?_
  simp only [Act.put, List.getElem_toArray, List.getElem_cons_zero, List.getElem_cons_succ, List.setIfInBounds_toArray, List.set_cons_zero, List.set_cons_succ]
  refine wpAnyH_take (i := 1) rfl (by kernel_rfl) (by kernel_rfl) (by kernel_rfl) (fun _ _ _ h => h) (yieldsIf_load_mid (by rfl) 26 (.tmp 3) rfl (w.heap.size) 0 (by rfl) (a.map bv) _ (fun x hx => blk_rangeP hx.1) Try.underlying26 rfl (by rw [List.length_map, HA.out]; exact Try.sizeHash)) hSq92 ?_
  simp only [Act.put, List.getElem_toArray, List.getElem_cons_zero, List.getElem_cons_succ, List.setIfInBounds_toArray, List.set_cons_zero, List.set_cons_succ]
  refine wpAnyH_take (i := 3) rfl (by kernel_rfl) (by kernel_rfl) (by kernel_rfl) (fun _ _ _ h => h) (yieldsIf_load_mid (by rfl) 26 (.tmp 5) rfl (w1.heap.size) 0 (by rfl) (t.map bv) _ (fun x hx => blk_rangeP hx.2.2.1) Try.underlying26 rfl (by rw [List.length_map, HT.out]; exact Try.sizeHash)) hSq92 ?_
  simp only [Act.put, List.getElem_toArray, List.getElem_cons_zero, List.getElem_cons_succ, List.setIfInBounds_toArray, List.set_cons_zero, List.set_cons_succ]
  refine wpAnyH_ready (rs := [2, 4]) (by kernel_rfl) (by simp) ?_
  refine AllReadyH.cons rfl (fun K hK => ?_) ?_
  · rw [if_pos (by rfl)]
    refine wp_bs32 23 26 (.tmp 9) rfl a HA.out (by rfl) Try.underlying23 (by kernel_rfl) ?_
    intro gq97 yq95 egq98 ezq99 bq94 hEq96
    have lgq100 : 0 ≤ gq97 := by rw [egq98]; exact Nat.zero_le _
    have lbq101 : w.heap.size < gq97 := by rw [egq98]; exact hSq92.1.lt
    have lbq102 : w.heap.size + 1 < gq97 := by rw [egq98]; exact hSq92.2.1.lt
    have lbq103 : w1.heap.size < gq97 := by rw [egq98]; exact hSq92.2.2.1.lt
    have hHq104 := Lib.hid (hHq93.out.below bq94)
    refine hK.out _ _ ⟨hSq92.1.below bq94 hSq92.1.lt, hSq92.2.1.below bq94 hSq92.2.1.lt, hSq92.2.2.1.below bq94 hSq92.2.2.1.lt, hSq92.2.2.2.trans (bq94.mono (Nat.zero_le _))⟩ (fun hSq105 => ?_)
    clear hK K hSq92 bq94 egq98 ezq99
    refine wpAnyH_ready (rs := [4]) (by kernel_rfl) (by simp) ?_
    refine AllReadyH.cons rfl (fun K hK => ?_) AllReadyH.nil
    go_simp
    go_wp2_with (go_at_call 31; refine (c2 _).mono ?_; rintro e yq106 ⟨rfl, bq107⟩)
    have hEq108 := hEq96.below bq107 hEq96.lt
    have hHq109 := Lib.hid (hHq104.out.below bq107)
    refine hK.out _ _ ⟨hSq105.1.below bq107 hSq105.1.lt, hSq105.2.1.below bq107 hSq105.2.1.lt, hSq105.2.2.1.below bq107 hSq105.2.2.1.lt, hSq105.2.2.2.trans (bq107.mono (Nat.zero_le _))⟩ (fun hSq110 => ?_)
    clear hK K hSq105 bq107
    refine wpAnyH_ready (rs := [5]) (by kernel_rfl) (by simp) ?_
    refine AllReadyH.cons rfl (fun K hK => ?_) AllReadyH.nil
    rw [if_pos (by rfl)]
    refine wp_bs32 23 26 (.tmp 12) rfl m HM.out (by rfl) Try.underlying23 (by kernel_rfl) ?_
    intro gq114 yq112 egq115 ezq116 bq111 hEq113
    have lgq117 : 0 ≤ gq114 := by rw [egq115]; exact Nat.zero_le _
    have lbq118 : w.heap.size < gq114 := by rw [egq115]; exact hSq110.1.lt
    have lbq119 : w.heap.size + 1 < gq114 := by rw [egq115]; exact hSq110.2.1.lt
    have lbq120 : w1.heap.size < gq114 := by rw [egq115]; exact hSq110.2.2.1.lt
    have hEq121 := hEq108.below bq111 hEq108.lt
    have hHq122 := Lib.hid (hHq109.out.below bq111)
    refine hK.out _ _ ⟨hSq110.1.below bq111 hSq110.1.lt, hSq110.2.1.below bq111 hSq110.2.1.lt, hSq110.2.2.1.below bq111 hSq110.2.2.1.lt, hSq110.2.2.2.trans (bq111.mono (Nat.zero_le _))⟩ (fun hSq123 => ?_)
    clear hK K hSq110 bq111 egq115 ezq116
    refine wpAnyH_take (i := 6) (v := .agg #[.slice (some ⟨gq97, 0, none⟩) 1 1, .slice (some ⟨gq114, 0, none⟩) 1 1]) rfl (by kernel_rfl) (by kernel_rfl) (by kernel_rfl) (fun _ _ _ h => h) (Or.inl ⟨by rfl, fun x hx => by go_simp⟩) hSq123 ?_
    simp only [Act.put, List.getElem_toArray, List.getElem_cons_zero, List.getElem_cons_succ, List.setIfInBounds_toArray, List.set_cons_zero, List.set_cons_succ]
    refine wpAnyH_ready (rs := [7]) (by kernel_rfl) (by simp) ?_
    refine AllReadyH.cons rfl (fun K hK => ?_) AllReadyH.nil
    go_simp
    go_wp2_with (go_at_call 26; refine (hHq122.out.note_calls HPV.out _ _ ⟨[a], [m]⟩ (fun w' f b => ⟨HashesAt.one (hEq121.frm f (by unfold NT; decide)) HA.out (by omega), HashesAt.one (hEq113.frm f (by unfold NT; decide)) HM.out (by omega)⟩) (FOk.of11 HA.out HM.out) HRM.out).mono ?_; rintro e wq124 ⟨rfl, hbkq125, fq126, bq127⟩)
    have hEq129 := hEq121.frm fq126 (by unfold NT; decide)
    have hEq130 := hEq113.frm fq126 (by unfold NT; decide)
    have HBKq131 := Lib.hid hbkq125
    refine hK.out _ _ ⟨hSq123.1.frm fq126 (by unfold NT; decide), hSq123.2.1.frm fq126 (by unfold NT; decide), hSq123.2.2.1.frm fq126 (by unfold NT; decide), hSq123.2.2.2.trans (bq127.mono (Nat.zero_le _))⟩ (fun hSq128 => ?_)
    clear hK K hSq123 hbkq125 fq126 bq127
    refine wpAnyH_done (by kernel_rfl) ?_ _
    go_wp2_with (first | ((with_reducible show wpList _ _ _ (⟨some 16, _, _, _, _, _⟩ :: _) _ _); refine wpList_loadBlk rfl 26 (.tmp 5) rfl w1.heap.size (by rfl) _ _ _ hSq128.2.2.1 Try.underlying26 rfl (by rw [bv_size, HT.out]; exact Try.sizeHash) ?_) | ((with_reducible show wpList _ _ _ (⟨none, Op.store _ (.tmp 4) _, _, _, _, _⟩ :: _) _ _); refine wpList_storeBlk rfl 26 (.tmp 4) (.tmp 16) rfl (w.heap.size + 1) (t.map bv).toArray (by rfl) (by rfl) _ _ hSq128.2.1 (by rw [bv_size, HT.out]; exact Try.sizeHash) (by rw [bv_size, HT.out, Z32_size]) (bv_all _) ?_; intro w9 hB9 g9))
    refine ret_blk rfl (w.heap.size + 1) _ _ _ (by rfl) hB9 Try.underlying26 rfl (by rw [bv_size, HT.out]; exact Try.sizeHash) rfl ?_
    exact ⟨rfl, (HBKq131.out.store g9 (by omega) (by omega)).done⟩
  refine AllReadyH.cons rfl (fun K hK => ?_) AllReadyH.nil
  go_simp
  go_wp2_with (go_at_call 31; refine (c2 _).mono ?_; rintro e yq132 ⟨rfl, bq133⟩)
  have hHq134 := Lib.hid (hHq93.out.below bq133)
  refine hK.out _ _ ⟨hSq92.1.below bq133 hSq92.1.lt, hSq92.2.1.below bq133 hSq92.2.1.lt, hSq92.2.2.1.below bq133 hSq92.2.2.1.lt, hSq92.2.2.2.trans (bq133.mono (Nat.zero_le _))⟩ (fun hSq135 => ?_)
  clear hK K hSq92 bq133
  refine wpAnyH_ready (rs := [2, 5]) (by kernel_rfl) (by simp) ?_
  refine AllReadyH.cons rfl (fun K hK => ?_) ?_
  · rw [if_pos (by rfl)]
    refine wp_bs32 23 26 (.tmp 9) rfl a HA.out (by rfl) Try.underlying23 (by kernel_rfl) ?_
    intro gq139 yq137 egq140 ezq141 bq136 hEq138
    have lgq142 : 0 ≤ gq139 := by rw [egq140]; exact Nat.zero_le _
    have lbq143 : w.heap.size < gq139 := by rw [egq140]; exact hSq135.1.lt
    have lbq144 : w.heap.size + 1 < gq139 := by rw [egq140]; exact hSq135.2.1.lt
    have lbq145 : w1.heap.size < gq139 := by rw [egq140]; exact hSq135.2.2.1.lt
    have hHq146 := Lib.hid (hHq134.out.below bq136)
    refine hK.out _ _ ⟨hSq135.1.below bq136 hSq135.1.lt, hSq135.2.1.below bq136 hSq135.2.1.lt, hSq135.2.2.1.below bq136 hSq135.2.2.1.lt, hSq135.2.2.2.trans (bq136.mono (Nat.zero_le _))⟩ (fun hSq147 => ?_)
    clear hK K hSq135 bq136 egq140 ezq141
    refine wpAnyH_ready (rs := [5]) (by kernel_rfl) (by simp) ?_
    refine AllReadyH.cons rfl (fun K hK => ?_) AllReadyH.nil
    rw [if_pos (by rfl)]
    refine wp_bs32 23 26 (.tmp 12) rfl m HM.out (by rfl) Try.underlying23 (by kernel_rfl) ?_
    intro gq151 yq149 egq152 ezq153 bq148 hEq150
    have lgq154 : 0 ≤ gq151 := by rw [egq152]; exact Nat.zero_le _
    have lbq155 : w.heap.size < gq151 := by rw [egq152]; exact hSq147.1.lt
    have lbq156 : w.heap.size + 1 < gq151 := by rw [egq152]; exact hSq147.2.1.lt
    have lbq157 : w1.heap.size < gq151 := by rw [egq152]; exact hSq147.2.2.1.lt
    have hEq158 := hEq138.below bq148 hEq138.lt
    have hHq159 := Lib.hid (hHq146.out.below bq148)
    refine hK.out _ _ ⟨hSq147.1.below bq148 hSq147.1.lt, hSq147.2.1.below bq148 hSq147.2.1.lt, hSq147.2.2.1.below bq148 hSq147.2.2.1.lt, hSq147.2.2.2.trans (bq148.mono (Nat.zero_le _))⟩ (fun hSq160 => ?_)
    clear hK K hSq147 bq148 egq152 ezq153
    refine wpAnyH_take (i := 6) (v := .agg #[.slice (some ⟨gq139, 0, none⟩) 1 1, .slice (some ⟨gq151, 0, none⟩) 1 1]) rfl (by kernel_rfl) (by kernel_rfl) (by kernel_rfl) (fun _ _ _ h => h) (Or.inl ⟨by rfl, fun x hx => by go_simp⟩) hSq160 ?_
    simp only [Act.put, List.getElem_toArray, List.getElem_cons_zero, List.getElem_cons_succ, List.setIfInBounds_toArray, List.set_cons_zero, List.set_cons_succ]
    refine wpAnyH_ready (rs := [7]) (by kernel_rfl) (by simp) ?_
    refine AllReadyH.cons rfl (fun K hK => ?_) AllReadyH.nil
    go_simp
    go_wp2_with (go_at_call 26; refine (hHq159.out.note_calls HPV.out _ _ ⟨[a], [m]⟩ (fun w' f b => ⟨HashesAt.one (hEq158.frm f (by unfold NT; decide)) HA.out (by omega), HashesAt.one (hEq150.frm f (by unfold NT; decide)) HM.out (by omega)⟩) (FOk.of11 HA.out HM.out) HRM.out).mono ?_; rintro e wq161 ⟨rfl, hbkq162, fq163, bq164⟩)
    have hEq166 := hEq158.frm fq163 (by unfold NT; decide)
    have hEq167 := hEq150.frm fq163 (by unfold NT; decide)
    have HBKq168 := Lib.hid hbkq162
    refine hK.out _ _ ⟨hSq160.1.frm fq163 (by unfold NT; decide), hSq160.2.1.frm fq163 (by unfold NT; decide), hSq160.2.2.1.frm fq163 (by unfold NT; decide), hSq160.2.2.2.trans (bq164.mono (Nat.zero_le _))⟩ (fun hSq165 => ?_)
    clear hK K hSq160 hbkq162 fq163 bq164
    refine wpAnyH_done (by kernel_rfl) ?_ _
    go_wp2_with (first | ((with_reducible show wpList _ _ _ (⟨some 16, _, _, _, _, _⟩ :: _) _ _); refine wpList_loadBlk rfl 26 (.tmp 5) rfl w1.heap.size (by rfl) _ _ _ hSq165.2.2.1 Try.underlying26 rfl (by rw [bv_size, HT.out]; exact Try.sizeHash) ?_) | ((with_reducible show wpList _ _ _ (⟨none, Op.store _ (.tmp 4) _, _, _, _, _⟩ :: _) _ _); refine wpList_storeBlk rfl 26 (.tmp 4) (.tmp 16) rfl (w.heap.size + 1) (t.map bv).toArray (by rfl) (by rfl) _ _ hSq165.2.1 (by rw [bv_size, HT.out]; exact Try.sizeHash) (by rw [bv_size, HT.out, Z32_size]) (bv_all _) ?_; intro w9 hB9 g9))
    refine ret_blk rfl (w.heap.size + 1) _ _ _ (by rfl) hB9 Try.underlying26 rfl (by rw [bv_size, HT.out]; exact Try.sizeHash) rfl ?_
    exact ⟨rfl, (HBKq168.out.store g9 (by omega) (by omega)).done⟩
  refine AllReadyH.cons rfl (fun K hK => ?_) AllReadyH.nil
  rw [if_pos (by rfl)]
  refine wp_bs32 23 26 (.tmp 12) rfl m HM.out (by rfl) Try.underlying23 (by kernel_rfl) ?_
  intro gq172 yq170 egq173 ezq174 bq169 hEq171
  have lgq175 : 0 ≤ gq172 := by rw [egq173]; exact Nat.zero_le _
  have lbq176 : w.heap.size < gq172 := by rw [egq173]; exact hSq135.1.lt
  have lbq177 : w.heap.size + 1 < gq172 := by rw [egq173]; exact hSq135.2.1.lt
  have lbq178 : w1.heap.size < gq172 := by rw [egq173]; exact hSq135.2.2.1.lt
  have hHq179 := Lib.hid (hHq134.out.below bq169)
  refine hK.out _ _ ⟨hSq135.1.below bq169 hSq135.1.lt, hSq135.2.1.below bq169 hSq135.2.1.lt, hSq135.2.2.1.below bq169 hSq135.2.2.1.lt, hSq135.2.2.2.trans (bq169.mono (Nat.zero_le _))⟩ (fun hSq180 => ?_)
  clear hK K hSq135 bq169 egq173 ezq174
  refine wpAnyH_ready (rs := [2]) (by kernel_rfl) (by simp) ?_
  refine AllReadyH.cons rfl (fun K hK => ?_) AllReadyH.nil
  rw [if_pos (by rfl)]
  refine wp_bs32 23 26 (.tmp 9) rfl a HA.out (by rfl) Try.underlying23 (by kernel_rfl) ?_
  intro gq184 yq182 egq185 ezq186 bq181 hEq183
  have lgq187 : 0 ≤ gq184 := by rw [egq185]; exact Nat.zero_le _
  have lbq188 : w.heap.size < gq184 := by rw [egq185]; exact hSq180.1.lt
  have lbq189 : w.heap.size + 1 < gq184 := by rw [egq185]; exact hSq180.2.1.lt
  have lbq190 : w1.heap.size < gq184 := by rw [egq185]; exact hSq180.2.2.1.lt
  have hEq191 := hEq171.below bq181 hEq171.lt
  have hHq192 := Lib.hid (hHq179.out.below bq181)
  refine hK.out _ _ ⟨hSq180.1.below bq181 hSq180.1.lt, hSq180.2.1.below bq181 hSq180.2.1.lt, hSq180.2.2.1.below bq181 hSq180.2.2.1.lt, hSq180.2.2.2.trans (bq181.mono (Nat.zero_le _))⟩ (fun hSq193 => ?_)
  clear hK K hSq180 bq181 egq185 ezq186
  refine wpAnyH_take (i := 6) (v := .agg #[.slice (some ⟨gq184, 0, none⟩) 1 1, .slice (some ⟨gq172, 0, none⟩) 1 1]) rfl (by kernel_rfl) (by kernel_rfl) (by kernel_rfl) (fun _ _ _ h => h) (Or.inl ⟨by rfl, fun x hx => by go_simp⟩) hSq193 ?_
  simp only [Act.put, List.getElem_toArray, List.getElem_cons_zero, List.getElem_cons_succ, List.setIfInBounds_toArray, List.set_cons_zero, List.set_cons_succ]
  refine wpAnyH_ready (rs := [7]) (by kernel_rfl) (by simp) ?_
  refine AllReadyH.cons rfl (fun K hK => ?_) AllReadyH.nil
  go_simp
  go_wp2_with (go_at_call 26; refine (hHq192.out.note_calls HPV.out _ _ ⟨[a], [m]⟩ (fun w' f b => ⟨HashesAt.one (hEq183.frm f (by unfold NT; decide)) HA.out (by omega), HashesAt.one (hEq191.frm f (by unfold NT; decide)) HM.out (by omega)⟩) (FOk.of11 HA.out HM.out) HRM.out).mono ?_; rintro e wq194 ⟨rfl, hbkq195, fq196, bq197⟩)
  have hEq199 := hEq191.frm fq196 (by unfold NT; decide)
  have hEq200 := hEq183.frm fq196 (by unfold NT; decide)
  have HBKq201 := Lib.hid hbkq195
  refine hK.out _ _ ⟨hSq193.1.frm fq196 (by unfold NT; decide), hSq193.2.1.frm fq196 (by unfold NT; decide), hSq193.2.2.1.frm fq196 (by unfold NT; decide), hSq193.2.2.2.trans (bq197.mono (Nat.zero_le _))⟩ (fun hSq198 => ?_)
  clear hK K hSq193 hbkq195 fq196 bq197
  refine wpAnyH_done (by kernel_rfl) ?_ _
  go_wp2_with (first | ((with_reducible show wpList _ _ _ (⟨some 16, _, _, _, _, _⟩ :: _) _ _); refine wpList_loadBlk rfl 26 (.tmp 5) rfl w1.heap.size (by rfl) _ _ _ hSq198.2.2.1 Try.underlying26 rfl (by rw [bv_size, HT.out]; exact Try.sizeHash) ?_) | ((with_reducible show wpList _ _ _ (⟨none, Op.store _ (.tmp 4) _, _, _, _, _⟩ :: _) _ _); refine wpList_storeBlk rfl 26 (.tmp 4) (.tmp 16) rfl (w.heap.size + 1) (t.map bv).toArray (by rfl) (by rfl) _ _ hSq198.2.1 (by rw [bv_size, HT.out]; exact Try.sizeHash) (by rw [bv_size, HT.out, Z32_size]) (bv_all _) ?_; intro w9 hB9 g9))
  refine ret_blk rfl (w.heap.size + 1) _ _ _ (by rfl) hB9 Try.underlying26 rfl (by rw [bv_size, HT.out]; exact Try.sizeHash) rfl ?_
  exact ⟨rfl, (HBKq201.out.store g9 (by omega) (by omega)).done⟩
/-- What a seal notes. -/
def sealF (o : Option BkSt) (key : HsT) (L : List HsT) : Option BkSt := if L = [] then o else bkNote o ⟨[key], L⟩
theorem FOk.of1n {k : HsT} {L : List HsT} (hk : k.length = 32) (hL : ∀ x ∈ L, x.length = 32) (hl : L.length ≤ 1000000) : FOk ⟨[k], L⟩ :=
  ⟨fun x hx => by rw [List.mem_singleton.1 hx]; exact hk, hL, by simp, hl⟩
theorem BkRun.chg {A : Nat → Prop} {o o' o2 : Option BkSt} {w cur : World} {B N : Nat} (h : BkRun A o o' w cur B N) (e : o' = o2) : BkRun A o o2 w cur B N := e ▸ h
set_option maxHeartbeats 8000000 in
set_option maxRecDepth 100000 in
theorem SealO_calls {A : Nat → Prop} (key about s : List UInt8) (sv : Value) (L : List HsT) (B : Nat) (o : Option BkSt) (pv : Value) (hpv : pv = bkPtr o) (w : World) (ho : BkAt A w B o) (hr : BkRoom 1 o) (hB : B ≤ w.heap.size) (hAw : ∀ q, A q → q < w.heap.size) (hsec : ∀ w', BkFrm A o w w' → Below B w w' → HashesAt w' sv L) (hLn : L.length ≤ 1000000) (hk : key.length = 32) (ha : about.length ≤ 68719476736) (hl : s.length ≤ 65536) :
    Calls Try.prog 11 #[pv, .agg (key.map bv).toArray, .string (str about), .string (str s), sv] w fun e w' => e = .returned (.string (str (sealT key about s))) ∧ BkAt A w' B (sealF o key L) ∧ BkFrm A o w w' ∧ Below B w w' := by
  have HK := Lib.hid hk
  have HPV := Lib.hid hpv
  have HRM := Lib.hid hr
  clear hk hpv hr
  have hK0 : Blk (w.alloc (.cells (key.map bv).toArray 26)) w.heap.size (key.map bv).toArray 26 := Blk.new _ _ _
  have hb0 : Below w.heap.size w (w.alloc (.cells (key.map bv).toArray 26)) := (Below.refl _ _).alloc (Nat.le_refl _) _
  obtain ⟨c, hc⟩ : ∃ c, c = crossT key s := ⟨_, rfl⟩
  have hcl : c.length = s.length := by rw [hc]; exact crossT_len _ _
  obtain ⟨r, hr⟩ : ∃ r, r = tagT2 key about c := ⟨_, rfl⟩
  have HR : Hid (r.length = 16) := by show _ = _; rw [hr]; exact tagT2_len _ _ _
  have c1 : ∀ x, Calls Try.prog 33 #[.agg (key.map bv).toArray, .string (str s)] x fun e w' => e = .returned (.string (str c)) ∧ Below x.heap.size x w' := by rw [hc]; exact fun x => Cross_calls key s x HK.out hl
  have c2 : ∀ x, Calls Try.prog 34 #[.agg (key.map bv).toArray, .string (str about), .string (str c)] x fun e w' => e = .returned (.string (str r)) ∧ Below x.heap.size x w' := by rw [hr]; exact fun x => tag_calls key about c x HK.out ha (by omega)
  have hfin : Hid (sealT key about s = c ++ r) := by show _ = _; rw [sealT, hr, hc]
  have hrl : r.length ≤ 16 := by rw [HR.out]; omega
  have hcl2 : c.length ≤ 65536 := by omega
  have hsv0 := hsec w (BkFrm.refl _ _) (Below.refl _ _)
  obtain ⟨sao, sc, rfl, hsc⟩ := hsv0.slice
  have hsv1 := hsv0.below hb0
  have HSV := Lib.hid hsv1
  have hs32 := hsv0.1
  have HS32 := Lib.hid hs32
  have HRUN := Lib.hid (BkRun.start hb0 ho hB hAw)
  have hz0 : Below 0 w (w.alloc (.cells (key.map bv).toArray 26)) := hb0.mono (Nat.zero_le _)
  obtain ⟨N, hN⟩ : ∃ N, N = (w.alloc (.cells (key.map bv).toArray 26)).heap.size := ⟨_, rfl⟩
  rw [← hN] at HRUN
  clear hc hr hcl hb0 hN hsv0 hsv1 hs32 hsec
  by_cases hL : L = []
  · have HF : Hid (sealF o key L = o) := by show _ = _; rw [sealF, if_pos hL]
    have hL0 : L.length = 0 := by rw [hL]; rfl
    have HRUN2 := Lib.hid (HRUN.out.chg HF.out.symm)
    clear hL
    go_enter Try.func11, Try.ntmps11
    go_wp2_with ((with_reducible show wpList _ _ _ (⟨some 25, _, _, _, _, _⟩ :: _) _ _); refine wpList_loadBlk rfl 26 (.tmp 6) rfl w.heap.size (by rfl) _ _ _ hK0 Try.underlying26 rfl (by rw [bv_size, HK.out]; exact Try.sizeHash) ?_)
    generalize w.alloc (.cells (key.map bv).toArray 26) = W0 at hK0 hz0 HRUN HRUN2 HSV ⊢
    refine (c1 _).mono ?_
    rintro e w1 ⟨rfl, b1⟩
    have hK1 := hK0.below b1 hK0.lt
    have HR1 := Lib.hid (HRUN2.out.below b1)
    clear hK0 hz0 HRUN HRUN2 b1 HSV
    go_wp2_with ((with_reducible show wpList _ _ _ (⟨some 29, _, _, _, _, _⟩ :: _) _ _); refine wpList_loadBlk rfl 26 (.tmp 6) rfl w.heap.size (by rfl) _ _ _ hK1 Try.underlying26 rfl (by rw [bv_size, HK.out]; exact Try.sizeHash) ?_)
    refine (c2 _).mono ?_
    rintro e w2 ⟨rfl, b2⟩
    have HR2 := Lib.hid (HR1.out.below b2)
    clear HR1 b2 c1 c2
    go_wp2_with fail
    go_returns
    rw [hfin.out]
    exact ⟨rfl, HR2.out.done⟩
  have hL0 : 0 < L.length := List.length_pos_iff.2 hL
  have HF : Hid (sealF o key L = bkNote o ⟨[key], L⟩) := by show _ = _; rw [sealF, if_neg hL]
  have c0 : ∀ x, HashesAt x (.slice sao L.length sc) L → Calls Try.prog 32 #[.slice sao L.length sc] x fun e w' => ∃ v', e = .returned v' ∧ HashOwn w' x.heap.size 26 v' L ∧ Below x.heap.size x w' := fun x hx => CloneH_calls _ L x hx hLn
  clear hL
  go_enter Try.func11, Try.ntmps11
  go_wp2_with fail
  generalize w.alloc (.cells (key.map bv).toArray 26) = W0 at hK0 hz0 HRUN HSV ⊢
  refine wp_region_held_drew (S := fun x => Blk x (w.heap.size) (key.map bv).toArray 26 ∧ Below 0 w x) (by kernel_rfl) ⟨hK0.drew, below_drewN hz0 1⟩ (fun hSq202 => ?_)
  have hHq203 := Lib.hid (HRUN.out.drew)
  have hHq204 := Lib.hid (HSV.out.drew)
  refine wpAnyH_take (i := 0) (v := pv) rfl (by kernel_rfl) (by kernel_rfl) (by kernel_rfl) (fun _ _ _ h => h) (Or.inl ⟨by rfl, fun x hx => by go_simp⟩) hSq202 ?_
  simp only [Act.put, List.getElem_toArray, List.getElem_cons_zero, List.getElem_cons_succ, List.setIfInBounds_toArray, List.set_cons_zero, List.set_cons_succ]
  refine wpAnyH_take (i := 1) rfl (by kernel_rfl) (by kernel_rfl) (by kernel_rfl) (fun _ _ _ h => h) (yieldsIf_load_mid (by rfl) 26 (.tmp 6) rfl (w.heap.size) 0 (by rfl) (key.map bv) _ (fun x hx => blk_rangeP hx.1) Try.underlying26 rfl (by rw [List.length_map, HK.out]; exact Try.sizeHash)) hSq202 ?_
  simp only [Act.put, List.getElem_toArray, List.getElem_cons_zero, List.getElem_cons_succ, List.setIfInBounds_toArray, List.set_cons_zero, List.set_cons_succ]
  refine wpAnyH_take (i := 3) (v := .slice sao L.length sc) rfl (by kernel_rfl) (by kernel_rfl) (by kernel_rfl) (fun _ _ _ h => h) (Or.inl ⟨by rfl, fun x hx => by go_simp⟩) hSq202 ?_
  simp only [Act.put, List.getElem_toArray, List.getElem_cons_zero, List.getElem_cons_succ, List.setIfInBounds_toArray, List.set_cons_zero, List.set_cons_succ]
  refine wpAnyH_ready (rs := [2, 4]) (by kernel_rfl) (by simp) ?_
  refine AllReadyH.cons rfl (fun K hK => ?_) ?_
  · rw [if_pos (by rfl)]
    refine wp_bs32 23 26 (.tmp 19) rfl key HK.out (by rfl) Try.underlying23 (by kernel_rfl) ?_
    intro gq208 yq206 egq209 ezq210 bq205 hEq207
    have lgq211 : 0 ≤ gq208 := by rw [egq209]; exact Nat.zero_le _
    have lbq212 : w.heap.size < gq208 := by rw [egq209]; exact hSq202.1.lt
    have hHq213 := Lib.hid (hHq203.out.below bq205)
    have hHq214 := Lib.hid (hHq204.out.below bq205)
    refine hK.out _ _ ⟨hSq202.1.below bq205 hSq202.1.lt, hSq202.2.trans (bq205.mono (Nat.zero_le _))⟩ (fun hSq215 => ?_)
    clear hK K hSq202 bq205 egq209 ezq210
    refine wpAnyH_ready (rs := [4]) (by kernel_rfl) (by simp) ?_
    refine AllReadyH.cons rfl (fun K hK => ?_) AllReadyH.nil
    go_simp
    go_wp2_with (go_at_call 32; refine (c0 _ hHq214.out).mono ?_; rintro e yq216 ⟨vq218, rfl, hvq219, bq217⟩)
    have hEq221 := hEq207.below bq217 hEq207.lt
    have hHq222 := Lib.hid (hHq213.out.below bq217)
    have hHq223 := Lib.hid (hHq214.out.below bq217)
    obtain ⟨aovq218, nvq218, ccvq218, rfl⟩ := hvq219.at.slice3
    have Hvq218 := Lib.hid (hvq219.weak (Nat.zero_le _))
    refine hK.out _ _ ⟨hSq215.1.below bq217 hSq215.1.lt, hSq215.2.trans (bq217.mono (Nat.zero_le _))⟩ (fun hSq220 => ?_)
    clear hK K hSq215 bq217 hvq219
    refine wpAnyH_take (i := 5) (v := .agg #[.slice (some ⟨gq208, 0, none⟩) 1 1, (.slice aovq218 nvq218 ccvq218)]) rfl (by kernel_rfl) (by kernel_rfl) (by kernel_rfl) (fun _ _ _ h => h) (Or.inl ⟨by rfl, fun x hx => by go_simp⟩) hSq220 ?_
    simp only [Act.put, List.getElem_toArray, List.getElem_cons_zero, List.getElem_cons_succ, List.setIfInBounds_toArray, List.set_cons_zero, List.set_cons_succ]
    refine wpAnyH_ready (rs := [6]) (by kernel_rfl) (by simp) ?_
    refine AllReadyH.cons rfl (fun K hK => ?_) AllReadyH.nil
    go_simp
    go_wp2_with (go_at_call 26; refine (hHq222.out.note_calls HPV.out _ _ ⟨[key], L⟩ (fun w' f b => ⟨HashesAt.one (hEq221.frm f (by unfold NT; decide)) HK.out (by omega), (Hvq218.out.frm f (by unfold NT; decide)).at⟩) (FOk.of1n HK.out HS32.out hLn) HRM.out).mono ?_; rintro e wq224 ⟨rfl, hbkq225, fq226, bq227⟩)
    have hEq229 := hEq221.frm fq226 (by unfold NT; decide)
    have HBKq230 := Lib.hid hbkq225
    refine hK.out _ _ ⟨hSq220.1.frm fq226 (by unfold NT; decide), hSq220.2.trans (bq227.mono (Nat.zero_le _))⟩ (fun hSq228 => ?_)
    clear hK K hSq220 hbkq225 fq226 bq227
    refine wpAnyH_done (by kernel_rfl) ?_ _
    have hK5 := hSq228.1
    go_wp2_with ((with_reducible show wpList _ _ _ (⟨some 25, _, _, _, _, _⟩ :: _) _ _); refine wpList_loadBlk rfl 26 (.tmp 6) rfl w.heap.size (by rfl) _ _ _ hK5 Try.underlying26 rfl (by rw [bv_size, HK.out]; exact Try.sizeHash) ?_)
    refine (c1 _).mono ?_
    rintro e w8 ⟨rfl, b8⟩
    have hK8 := hK5.below b8 hK5.lt
    have HR8 := Lib.hid ((HBKq230.out.chg HF.out.symm).below b8)
    clear hK5 b8 hSq228 HBKq230 hHq223 Hvq218
    go_wp2_with ((with_reducible show wpList _ _ _ (⟨some 29, _, _, _, _, _⟩ :: _) _ _); refine wpList_loadBlk rfl 26 (.tmp 6) rfl w.heap.size (by rfl) _ _ _ hK8 Try.underlying26 rfl (by rw [bv_size, HK.out]; exact Try.sizeHash) ?_)
    refine (c2 _).mono ?_
    rintro e w9 ⟨rfl, b9⟩
    have HR9 := Lib.hid (HR8.out.below b9)
    clear HR8 b9 c1 c2
    go_wp2_with fail
    go_returns
    rw [hfin.out]
    exact ⟨rfl, HR9.out.done⟩
  refine AllReadyH.cons rfl (fun K hK => ?_) AllReadyH.nil
  go_simp
  go_wp2_with (go_at_call 32; refine (c0 _ hHq204.out).mono ?_; rintro e yq231 ⟨vq233, rfl, hvq234, bq232⟩)
  have hHq236 := Lib.hid (hHq203.out.below bq232)
  have hHq237 := Lib.hid (hHq204.out.below bq232)
  obtain ⟨aovq233, nvq233, ccvq233, rfl⟩ := hvq234.at.slice3
  have Hvq233 := Lib.hid (hvq234.weak (Nat.zero_le _))
  refine hK.out _ _ ⟨hSq202.1.below bq232 hSq202.1.lt, hSq202.2.trans (bq232.mono (Nat.zero_le _))⟩ (fun hSq235 => ?_)
  clear hK K hSq202 bq232 hvq234
  refine wpAnyH_ready (rs := [2]) (by kernel_rfl) (by simp) ?_
  refine AllReadyH.cons rfl (fun K hK => ?_) AllReadyH.nil
  rw [if_pos (by rfl)]
  refine wp_bs32 23 26 (.tmp 19) rfl key HK.out (by rfl) Try.underlying23 (by kernel_rfl) ?_
  intro gq241 yq239 egq242 ezq243 bq238 hEq240
  have lgq244 : 0 ≤ gq241 := by rw [egq242]; exact Nat.zero_le _
  have lbq245 : w.heap.size < gq241 := by rw [egq242]; exact hSq235.1.lt
  have hHq246 := Lib.hid (hHq236.out.below bq238)
  have hHq247 := Lib.hid (hHq237.out.below bq238)
  have hHq248 := Lib.hid (Hvq233.out.below bq238)
  refine hK.out _ _ ⟨hSq235.1.below bq238 hSq235.1.lt, hSq235.2.trans (bq238.mono (Nat.zero_le _))⟩ (fun hSq249 => ?_)
  clear hK K hSq235 bq238 egq242 ezq243
  refine wpAnyH_take (i := 5) (v := .agg #[.slice (some ⟨gq241, 0, none⟩) 1 1, (.slice aovq233 nvq233 ccvq233)]) rfl (by kernel_rfl) (by kernel_rfl) (by kernel_rfl) (fun _ _ _ h => h) (Or.inl ⟨by rfl, fun x hx => by go_simp⟩) hSq249 ?_
  simp only [Act.put, List.getElem_toArray, List.getElem_cons_zero, List.getElem_cons_succ, List.setIfInBounds_toArray, List.set_cons_zero, List.set_cons_succ]
  refine wpAnyH_ready (rs := [6]) (by kernel_rfl) (by simp) ?_
  refine AllReadyH.cons rfl (fun K hK => ?_) AllReadyH.nil
  go_simp
  go_wp2_with (go_at_call 26; refine (hHq246.out.note_calls HPV.out _ _ ⟨[key], L⟩ (fun w' f b => ⟨HashesAt.one (hEq240.frm f (by unfold NT; decide)) HK.out (by omega), (hHq248.out.frm f (by unfold NT; decide)).at⟩) (FOk.of1n HK.out HS32.out hLn) HRM.out).mono ?_; rintro e wq250 ⟨rfl, hbkq251, fq252, bq253⟩)
  have hEq255 := hEq240.frm fq252 (by unfold NT; decide)
  have HBKq256 := Lib.hid hbkq251
  refine hK.out _ _ ⟨hSq249.1.frm fq252 (by unfold NT; decide), hSq249.2.trans (bq253.mono (Nat.zero_le _))⟩ (fun hSq254 => ?_)
  clear hK K hSq249 hbkq251 fq252 bq253
  refine wpAnyH_done (by kernel_rfl) ?_ _
  have hK5 := hSq254.1
  go_wp2_with ((with_reducible show wpList _ _ _ (⟨some 25, _, _, _, _, _⟩ :: _) _ _); refine wpList_loadBlk rfl 26 (.tmp 6) rfl w.heap.size (by rfl) _ _ _ hK5 Try.underlying26 rfl (by rw [bv_size, HK.out]; exact Try.sizeHash) ?_)
  refine (c1 _).mono ?_
  rintro e w8 ⟨rfl, b8⟩
  have hK8 := hK5.below b8 hK5.lt
  have HR8 := Lib.hid ((HBKq256.out.chg HF.out.symm).below b8)
  clear hK5 b8 hSq254 HBKq256 hHq247 hHq248
  go_wp2_with ((with_reducible show wpList _ _ _ (⟨some 29, _, _, _, _, _⟩ :: _) _ _); refine wpList_loadBlk rfl 26 (.tmp 6) rfl w.heap.size (by rfl) _ _ _ hK8 Try.underlying26 rfl (by rw [bv_size, HK.out]; exact Try.sizeHash) ?_)
  refine (c2 _).mono ?_
  rintro e w9 ⟨rfl, b9⟩
  have HR9 := Lib.hid (HR8.out.below b9)
  clear HR8 b9 c1 c2
  go_wp2_with fail
  go_returns
  rw [hfin.out]
  exact ⟨rfl, HR9.out.done⟩
theorem bkMaps_seal (o : Option BkSt) (k : HsT) (L : List HsT) : bkMaps (sealF o k L) = bkMaps o := by
  unfold sealF
  split
  · rfl
  · exact bkMaps_note _ _
theorem bkPtr_seal (o : Option BkSt) (k : HsT) (L : List HsT) : bkPtr (sealF o k L) = bkPtr o := by
  unfold sealF
  split
  · rfl
  · exact bkPtr_note _ _
theorem BkRun.sec {A : Nat → Prop} {o o' : Option BkSt} {w cur : World} {B N : Nat} {sv : Value} {L : List HsT} (h : BkRun A o o' w cur B N) (hsec : ∀ w', BkFrm A o w w' → Below B w w' → HashesAt w' sv L) :
    ∀ w', BkFrm (wideA A w N) o' cur w' → Below B cur w' → HashesAt w' sv L := fun w' f b => hsec w' (h.frm.trans (by unfold BkFrm at f ⊢; rw [h.maps] at f; exact f.narrow (fun q h => .inl h))) (h.bel.trans b)
theorem BkRun.seal_calls {A : Nat → Prop} {o o' : Option BkSt} {w cur : World} {B N : Nat} (h : BkRun A o o' w cur B N) {pv : Value} (hpv : pv = bkPtr o) (key about s : List UInt8) (sv : Value) (L : List HsT) (hsec : ∀ w', BkFrm A o w w' → Below B w w' → HashesAt w' sv L) (hLn : L.length ≤ 1000000) (hr : BkRoom 1 o') (hk : key.length = 32) (ha : about.length ≤ 68719476736) (hl : s.length ≤ 65536) :
    Calls Try.prog 11 #[pv, .agg (key.map bv).toArray, .string (str about), .string (str s), sv] cur fun e w' => e = .returned (.string (str (sealT key about s))) ∧ BkRun A o (sealF o' key L) w w' B N ∧ BkFrm (wideA A w N) o' cur w' ∧ Below B cur w' :=
  (SealO_calls key about s sv L B o' pv (h.pv hpv) cur h.at_ hr h.le h.aw (h.sec hsec) hLn hk ha hl).mono fun e w' ⟨h1, h2, h3, h4⟩ => ⟨h1, h.call h2 h3 h4 (bkMaps_seal _ _ _) (bkPtr_seal _ _ _), h3, h4⟩
/-- What a wrap notes. -/
def wrapF (o : Option BkSt) (p once : HsT) (L : List HsT) : Option BkSt := sealF (bkNote (bkNote o ⟨[markT p], [sharedT p once]⟩) ⟨[once], [sharedT p once]⟩) (sharedT p once) L
set_option maxHeartbeats 8000000 in
set_option maxRecDepth 100000 in
theorem WrapO_calls {A : Nat → Prop} (p o about s : List UInt8) (sv : Value) (L : List HsT) (B : Nat) (bo : Option BkSt) (pv : Value) (hpv : pv = bkPtr bo) (w : World) (ho : BkAt A w B bo) (hr : BkRoom 3 bo) (hB : B ≤ w.heap.size) (hAw : ∀ q, A q → q < w.heap.size) (hsec : ∀ w', BkFrm A bo w w' → Below B w w' → HashesAt w' sv L) (hLn : L.length ≤ 1000000) (hp : p.length = 32) (ho2 : o.length = 32) (ha : about.length ≤ 68719476736) (hl : s.length ≤ 65536) :
    Calls Try.prog 14 #[pv, .agg (p.map bv).toArray, .agg (o.map bv).toArray, .string (str about), .string (str s), sv] w fun e w' => e = .returned (.string (str (wrapT p o about s))) ∧ BkAt A w' B (wrapF bo p o L) ∧ BkFrm A bo w w' ∧ Below B w w' := by
  have HP := Lib.hid hp
  have HO := Lib.hid ho2
  have HPV := Lib.hid hpv
  have HSEC := Lib.hid hsec
  have HBO := Lib.hid ho
  have HAW := Lib.hid hAw
  have hsv0 := hsec w (BkFrm.refl _ _) (Below.refl _ _)
  obtain ⟨sao, sc, rfl, hsc⟩ := hsv0.slice
  have hP0 : Blk ((w.alloc (.cells (p.map bv).toArray 26)).alloc (.cells (o.map bv).toArray 26)) w.heap.size (p.map bv).toArray 26 := (Blk.new _ _ _).alloc _
  have hO0 : Blk ((w.alloc (.cells (p.map bv).toArray 26)).alloc (.cells (o.map bv).toArray 26)) (w.heap.size + 1) (o.map bv).toArray 26 := blk_new1 _ _ _ _
  have hb0 : Below w.heap.size w ((w.alloc (.cells (p.map bv).toArray 26)).alloc (.cells (o.map bv).toArray 26)) := ((Below.refl _ _).alloc (Nat.le_refl _) _).alloc (by simp) _
  clear hp ho2 hpv hsec ho hAw hsv0
  obtain ⟨k, hk⟩ : ∃ k, k = sharedT p o := ⟨_, rfl⟩
  have HK : Hid (k.length = 32) := by show _ = _; rw [hk]; exact sharedT_len _ _
  obtain ⟨m, hm⟩ : ∃ m, m = markT p := ⟨_, rfl⟩
  have HM : Hid (m.length = 32) := by show _ = _; rw [hm]; exact markT_len _
  obtain ⟨q, hq⟩ : ∃ q, q = sealT k about s := ⟨_, rfl⟩
  have hql : q.length ≤ 65552 := by rw [hq, sealT_len]; omega
  have c1 : ∀ y, Calls Try.prog 35 #[.agg (p.map bv).toArray, .string (str o)] y fun e w' => e = .returned (.agg (k.map bv).toArray) ∧ Below y.heap.size y w' := by rw [hk]; exact fun y => shared_calls p o y HP.out (by rw [HO.out]; omega)
  have c2 : ∀ y, Calls Try.prog 31 #[.agg (p.map bv).toArray] y fun e w' => e = .returned (.agg (m.map bv).toArray) ∧ Below y.heap.size y w' := by rw [hm]; exact fun y => Mark_calls p y HP.out
  have hfin : Hid (wrapT p o about s = o ++ q) := by show _ = _; rw [wrapT, hq, hk]
  obtain ⟨o1, ho1⟩ : ∃ x, x = bkNote bo ⟨[m], [k]⟩ := ⟨_, rfl⟩
  obtain ⟨o2, ho2⟩ : ∃ x, x = bkNote o1 ⟨[o], [k]⟩ := ⟨_, rfl⟩
  have hrm1 : BkRoom 2 o1 := by rw [ho1]; exact hr.note (by simp)
  have hrm2 : BkRoom 1 o2 := by rw [ho2]; exact hrm1.note (by simp)
  have HRM := Lib.hid hr
  have HRM1 := Lib.hid hrm1
  have HRM2 := Lib.hid hrm2
  have HF : Hid (wrapF bo p o L = sealF o2 k L) := by show _ = _; rw [wrapF, ← hk, ← hm, ← ho1, ← ho2]
  have HO1 := Lib.hid ho1
  have HO2 := Lib.hid ho2
  have c3 : ∀ y, BkRun A bo o2 w y B (w.heap.size + 2) → Calls Try.prog 11 #[pv, .agg (k.map bv).toArray, .string (str about), .string (str s), .slice sao L.length sc] y fun e w' => e = .returned (.string (str q)) ∧ BkRun A bo (wrapF bo p o L) w w' B (w.heap.size + 2) ∧ BkFrm (wideA A w (w.heap.size + 2)) o2 y w' ∧ Below B y w' := by
    intro y hy
    rw [HF.out, hq]
    exact hy.seal_calls HPV.out k about s _ L HSEC.out hLn HRM2.out HK.out ha hl
  have HRUN : Hid (BkRun A bo bo w ((w.alloc (.cells (p.map bv).toArray 26)).alloc (.cells (o.map bv).toArray 26)) B (w.heap.size + 2)) := by
    have e : ((w.alloc (.cells (p.map bv).toArray 26)).alloc (.cells (o.map bv).toArray 26)).heap.size = w.heap.size + 2 := by simp
    show BkRun _ _ _ _ _ _ _
    rw [← e]
    exact BkRun.start hb0 HBO.out hB HAW.out
  clear hk hm hq ho1 ho2 hrm1 hrm2 hr
  go_enter Try.func14, Try.ntmps14
  go_wp2_with fail
  generalize (w.alloc (.cells (p.map bv).toArray 26)).alloc (.cells (o.map bv).toArray 26) = W0 at hP0 hO0 hb0 HRUN ⊢
  refine wp_region_held_drew (S := fun x => Blk x (w.heap.size) (p.map bv).toArray 26 ∧ Blk x (w.heap.size + 1) (o.map bv).toArray 26 ∧ Below w.heap.size w x) (by kernel_rfl) ⟨hP0.drew, hO0.drew, below_drewN hb0 1⟩ (fun hSq257 => ?_)
  refine wpAnyH_take (i := 0) rfl (by kernel_rfl) (by kernel_rfl) (by kernel_rfl) (fun _ _ _ h => h) (yieldsIf_load_mid (by rfl) 26 (.tmp 7) rfl (w.heap.size) 0 (by rfl) (p.map bv) _ (fun x hx => blk_rangeP hx.1) Try.underlying26 rfl (by rw [List.length_map, HP.out]; exact Try.sizeHash)) hSq257 ?_
  simp only [Act.put, List.getElem_toArray, List.getElem_cons_zero, List.getElem_cons_succ, List.setIfInBounds_toArray, List.set_cons_zero, List.set_cons_succ]
  refine wpAnyH_take (i := 1) (v := .slice (some ⟨w.heap.size + 1, 0, none⟩) 32 32) rfl (by kernel_rfl) (by kernel_rfl) (by kernel_rfl) (fun _ _ _ h => h) (Or.inl ⟨by rfl, fun x hx => by go_simp⟩) hSq257 ?_
  simp only [Act.put, List.getElem_toArray, List.getElem_cons_zero, List.getElem_cons_succ, List.setIfInBounds_toArray, List.set_cons_zero, List.set_cons_succ]
  refine wpAnyH_take (i := 2) (v := .string (str o)) rfl (by kernel_rfl) (by kernel_rfl) (by kernel_rfl) (fun _ _ _ h => h) (Or.inl ⟨by rfl, fun x hx => by have hcv := conv_blk HO.out hx.2.1; go_simp⟩) hSq257 ?_
  simp only [Act.put, List.getElem_toArray, List.getElem_cons_zero, List.getElem_cons_succ, List.setIfInBounds_toArray, List.set_cons_zero, List.set_cons_succ]
  refine wpAnyH_ready (rs := [3, 4]) (by kernel_rfl) (by simp) ?_
  refine AllReadyH.cons rfl (fun K hK => ?_) ?_
  · go_simp
    go_wp2_with (go_at_call 35; refine (c1 _).mono ?_; rintro e yq258 ⟨rfl, bq259⟩)
    refine hK.out _ _ ⟨hSq257.1.below bq259 hSq257.1.lt, hSq257.2.1.below bq259 hSq257.2.1.lt, hSq257.2.2.trans (bq259.mono (hSq257.2.2.size))⟩ (fun hSq260 => ?_)
    clear hK K hSq257 bq259
    refine wpAnyH_ready (rs := [4]) (by kernel_rfl) (by simp) ?_
    refine AllReadyH.cons rfl (fun K hK => ?_) AllReadyH.nil
    rw [if_pos (by rfl)]
    refine wp_allocZ 26 rfl Z32 (by kernel_rfl) ?_
    intro gq264 yq262 egq265 ezq266 bq261 hEq263
    have lgq267 : w.heap.size ≤ gq264 := by rw [egq265]; exact hSq260.2.2.size
    have lbq268 : w.heap.size < gq264 := by rw [egq265]; exact hSq260.1.lt
    have lbq269 : w.heap.size + 1 < gq264 := by rw [egq265]; exact hSq260.2.1.lt
    refine hK.out _ _ ⟨hSq260.1.below bq261 hSq260.1.lt, hSq260.2.1.below bq261 hSq260.2.1.lt, hSq260.2.2.trans (bq261.mono (hSq260.2.2.size))⟩ (fun hSq270 => ?_)
    clear hK K hSq260 bq261 egq265 ezq266
    refine wpAnyH_ready (rs := [5]) (by kernel_rfl) (by simp) ?_
    refine AllReadyH.cons rfl (fun K hK => ?_) AllReadyH.nil
    rw [if_pos (by rfl)]
    refine wp_storeBlk 26 (.tmp 13) (.tmp 20) rfl gq264 ((k.map bv).toArray) (by rfl) (by rfl) _ _ hEq263 (by rw [bv_size, HK.out]; exact Try.sizeHash) (by rw [bv_size, HK.out, Z32_size]) (bv_all _) ?_
    intro yq271 hEq272 grq273
    refine hK.out _ _ ⟨hSq270.1.grown grq273 (by first | (simp; done) | (simp; omega)), hSq270.2.1.grown grq273 (by first | (simp; done) | (simp; omega)), below_new hSq270.2.2 grq273 lgq267 (hSq270.2.2.size)⟩ (fun hSq274 => ?_)
    clear hK K hSq270
    refine wpAnyH_done (by kernel_rfl) ?_ _
    have hP1 := hSq274.1
    have hO1 := hSq274.2.1
    have hb1 := hSq274.2.2
    have hk1 := hEq272
    have hz1 : Below 0 w yq271 := hb1.mono (Nat.zero_le _)
    have HRUN1 : Hid (BkRun A bo bo w yq271 B (w.heap.size + 2)) := ⟨(HBO.out.widen (fun q h => h.imp id (fun h => h.1))).below hb1, BkFrm.ofBelow hb1, hb1.mono hB, by have := hO1.lt; omega, hB, HAW.out, rfl, rfl⟩
    clear hSq274 hb1
    generalize gq264 = G at *
    go_wp2_with fail
    refine wp_region_held_drew (S := fun x => Blk x (w.heap.size) (p.map bv).toArray 26 ∧ Blk x (w.heap.size + 1) (o.map bv).toArray 26 ∧ Blk x (G) (k.map bv).toArray 26 ∧ Below 0 w x) (by kernel_rfl) ⟨hP1.drew, hO1.drew, hk1.drew, below_drewN hz1 1⟩ (fun hSq276 => ?_)
    have hHq277 := Lib.hid (HRUN1.out.drew)
    refine wpAnyH_take (i := 0) (v := pv) rfl (by kernel_rfl) (by kernel_rfl) (by kernel_rfl) (fun _ _ _ h => h) (Or.inl ⟨by rfl, fun x hx => by go_simp⟩) hSq276 ?_
    simp only [Act.put, List.getElem_toArray, List.getElem_cons_zero, List.getElem_cons_succ, List.setIfInBounds_toArray, List.set_cons_zero, List.set_cons_succ]
    refine wpAnyH_take (i := 1) rfl (by kernel_rfl) (by kernel_rfl) (by kernel_rfl) (fun _ _ _ h => h) (yieldsIf_load_mid (by rfl) 26 (.tmp 7) rfl (w.heap.size) 0 (by rfl) (p.map bv) _ (fun x hx => blk_rangeP hx.1) Try.underlying26 rfl (by rw [List.length_map, HP.out]; exact Try.sizeHash)) hSq276 ?_
    simp only [Act.put, List.getElem_toArray, List.getElem_cons_zero, List.getElem_cons_succ, List.setIfInBounds_toArray, List.set_cons_zero, List.set_cons_succ]
    refine wpAnyH_take (i := 4) rfl (by kernel_rfl) (by kernel_rfl) (by kernel_rfl) (fun _ _ _ h => h) (yieldsIf_load_mid (by rfl) 26 (.tmp 13) rfl (G) 0 (by rfl) (k.map bv) _ (fun x hx => blk_rangeP hx.2.2.1) Try.underlying26 rfl (by rw [List.length_map, HK.out]; exact Try.sizeHash)) hSq276 ?_
    simp only [Act.put, List.getElem_toArray, List.getElem_cons_zero, List.getElem_cons_succ, List.setIfInBounds_toArray, List.set_cons_zero, List.set_cons_succ]
    refine wpAnyH_ready (rs := [2, 5]) (by kernel_rfl) (by simp) ?_
    refine AllReadyH.cons rfl (fun K hK => ?_) ?_
    · go_simp
      go_wp2_with (go_at_call 31; refine (c2 _).mono ?_; rintro e yq278 ⟨rfl, bq279⟩)
      have hHq280 := Lib.hid (hHq277.out.below bq279)
      refine hK.out _ _ ⟨hSq276.1.below bq279 hSq276.1.lt, hSq276.2.1.below bq279 hSq276.2.1.lt, hSq276.2.2.1.below bq279 hSq276.2.2.1.lt, hSq276.2.2.2.trans (bq279.mono (Nat.zero_le _))⟩ (fun hSq281 => ?_)
      clear hK K hSq276 bq279
      refine wpAnyH_ready (rs := [3, 5]) (by kernel_rfl) (by simp) ?_
      refine AllReadyH.cons rfl (fun K hK => ?_) ?_
      · rw [if_pos (by rfl)]
        refine wp_bs32 23 26 (.tmp 23) rfl m HM.out (by rfl) Try.underlying23 (by kernel_rfl) ?_
        intro gq285 yq283 egq286 ezq287 bq282 hEq284
        have lgq288 : 0 ≤ gq285 := by rw [egq286]; exact Nat.zero_le _
        have lbq289 : w.heap.size < gq285 := by rw [egq286]; exact hSq281.1.lt
        have lbq290 : w.heap.size + 1 < gq285 := by rw [egq286]; exact hSq281.2.1.lt
        have lbq291 : G < gq285 := by rw [egq286]; exact hSq281.2.2.1.lt
        have hHq292 := Lib.hid (hHq280.out.below bq282)
        refine hK.out _ _ ⟨hSq281.1.below bq282 hSq281.1.lt, hSq281.2.1.below bq282 hSq281.2.1.lt, hSq281.2.2.1.below bq282 hSq281.2.2.1.lt, hSq281.2.2.2.trans (bq282.mono (Nat.zero_le _))⟩ (fun hSq293 => ?_)
        clear hK K hSq281 bq282 egq286 ezq287
        refine wpAnyH_ready (rs := [5]) (by kernel_rfl) (by simp) ?_
        refine AllReadyH.cons rfl (fun K hK => ?_) AllReadyH.nil
        rw [if_pos (by rfl)]
        refine wp_bs32 23 26 (.tmp 25) rfl k HK.out (by rfl) Try.underlying23 (by kernel_rfl) ?_
        intro gq297 yq295 egq298 ezq299 bq294 hEq296
        have lgq300 : 0 ≤ gq297 := by rw [egq298]; exact Nat.zero_le _
        have lbq301 : w.heap.size < gq297 := by rw [egq298]; exact hSq293.1.lt
        have lbq302 : w.heap.size + 1 < gq297 := by rw [egq298]; exact hSq293.2.1.lt
        have lbq303 : G < gq297 := by rw [egq298]; exact hSq293.2.2.1.lt
        have hEq304 := hEq284.below bq294 hEq284.lt
        have hHq305 := Lib.hid (hHq292.out.below bq294)
        refine hK.out _ _ ⟨hSq293.1.below bq294 hSq293.1.lt, hSq293.2.1.below bq294 hSq293.2.1.lt, hSq293.2.2.1.below bq294 hSq293.2.2.1.lt, hSq293.2.2.2.trans (bq294.mono (Nat.zero_le _))⟩ (fun hSq306 => ?_)
        clear hK K hSq293 bq294 egq298 ezq299
        refine wpAnyH_take (i := 6) (v := .agg #[.slice (some ⟨gq285, 0, none⟩) 1 1, .slice (some ⟨gq297, 0, none⟩) 1 1]) rfl (by kernel_rfl) (by kernel_rfl) (by kernel_rfl) (fun _ _ _ h => h) (Or.inl ⟨by rfl, fun x hx => by go_simp⟩) hSq306 ?_
        simp only [Act.put, List.getElem_toArray, List.getElem_cons_zero, List.getElem_cons_succ, List.setIfInBounds_toArray, List.set_cons_zero, List.set_cons_succ]
        refine wpAnyH_ready (rs := [7]) (by kernel_rfl) (by simp) ?_
        refine AllReadyH.cons rfl (fun K hK => ?_) AllReadyH.nil
        go_simp
        go_wp2_with (go_at_call 26; refine (hHq305.out.note_calls HPV.out _ _ ⟨[m], [k]⟩ (fun w' f b => ⟨HashesAt.one (hEq304.frm f (by unfold NT; decide)) HM.out (by omega), HashesAt.one (hEq296.frm f (by unfold NT; decide)) HK.out (by omega)⟩) (FOk.of11 HM.out HK.out) (HRM.out.less (by omega))).mono ?_; rintro e wq307 ⟨rfl, hbkq308, fq309, bq310⟩)
        have hEq312 := hEq304.frm fq309 (by unfold NT; decide)
        have hEq313 := hEq296.frm fq309 (by unfold NT; decide)
        have HBKq314 := Lib.hid hbkq308
        refine hK.out _ _ ⟨hSq306.1.frm fq309 (by unfold NT; decide), hSq306.2.1.frm fq309 (by unfold NT; decide), hSq306.2.2.1.frm fq309 (by unfold NT; decide), hSq306.2.2.2.trans (bq310.mono (Nat.zero_le _))⟩ (fun hSq311 => ?_)
        clear hK K hSq306 hbkq308 fq309 bq310
        refine wpAnyH_done (by kernel_rfl) ?_ _
        have hO2 := hSq311.2.1
        have hK2 := hSq311.2.2.1
        have hz2 := hSq311.2.2.2
        have HRU2 := Lib.hid (HBKq314.out.chg HO1.out.symm)
        clear hSq311 HBKq314
        go_wp2_with (first | ((with_reducible show wpList _ _ _ (⟨some 30, _, _, _, _, _⟩ :: _) _ _); refine wpList_load_mid rfl 26 (.tmp 8) rfl ((w.heap.size + 1)) 0 (by rfl) (o.map bv) _ (blk_rangeP hO2) Try.underlying26 rfl (by rw [List.length_map, HO.out]; exact Try.sizeHash) ?_) | ((with_reducible show wpList _ _ _ (⟨some 31, _, _, _, _, _⟩ :: _) _ _); refine wpList_bsH rfl 23 26 (.tmp 30) rfl o HO.out (by rfl) Try.underlying23 Try.infoHash2 ?_; intro qq315 wq316 eqq317 szq318 bbq319 hNq320; have ltq321 : (w.heap.size + 1) < wq307.heap.size := hO2.lt; have ltq322 : G < wq307.heap.size := hK2.lt; have hCq323 := hO2.below bbq319 hO2.lt; have hCq324 := hK2.below bbq319 hK2.lt; have hCq325 := Lib.hid (HRU2.out.below bbq319); have hBq326 := hz2.trans (bbq319.mono (Nat.zero_le _)); clear hO2 hK2 HRU2 hz2; clear bbq319 eqq317 szq318) | ((with_reducible show wpList _ _ _ (⟨some 32, _, _, _, _, _⟩ :: _) _ _); refine wpList_load_mid rfl 26 (.tmp 13) rfl (G) 0 (by rfl) (k.map bv) _ (blk_rangeP hCq324) Try.underlying26 rfl (by rw [List.length_map, HK.out]; exact Try.sizeHash) ?_) | ((with_reducible show wpList _ _ _ (⟨some 33, _, _, _, _, _⟩ :: _) _ _); refine wpList_bsH rfl 23 26 (.tmp 32) rfl k HK.out (by rfl) Try.underlying23 Try.infoHash2 ?_; intro qq327 wq328 eqq329 szq330 bbq331 hNq332; have ltq333 : (w.heap.size + 1) < wq316.heap.size := hCq323.lt; have ltq334 : G < wq316.heap.size := hCq324.lt; have ltq335 : qq315 < wq316.heap.size := hNq320.lt; have hCq336 := hCq323.below bbq331 hCq323.lt; have hCq337 := hCq324.below bbq331 hCq324.lt; have hCq338 := Lib.hid (hCq325.out.below bbq331); have hCq339 := hNq320.below bbq331 hNq320.lt; have hBq340 := hBq326.trans (bbq331.mono (Nat.zero_le _)); clear hCq323 hCq324 hCq325 hNq320 hBq326; clear bbq331 eqq329 szq330) | ((with_reducible show wpList _ _ _ (⟨some 34, _, _, _, _, _⟩ :: _) _ _); refine wpList_buildCells rfl 68 #[(0, .tmp 31), (1, .tmp 33)] rfl (#[.slice (some ⟨qq315, 0, none⟩) 1 1, .slice (some ⟨qq327, 0, none⟩) 1 1]) (by kernel_rfl) ?_))
        refine (hCq338.out.note_calls HPV.out _ _ ⟨[o], [k]⟩ (fun w' f b => ⟨HashesAt.one (hCq339.frm f (by unfold NT; decide)) HO.out (by omega), HashesAt.one (hNq332.frm f (by unfold NT; decide)) HK.out (by omega)⟩) (FOk.of11 HO.out HK.out) (HRM1.out.less (by omega))).mono ?_
        rintro e w5 ⟨rfl, hbk5, f5, b5⟩
        have HRU5 := Lib.hid (hbk5.chg HO2.out.symm)
        have hO5 := hCq336.frm f5 (by unfold NT; decide)
        have hK5 := hCq337.frm f5 (by unfold NT; decide)
        have hz5 := hBq340.trans (b5.mono (Nat.zero_le _))
        clear hbk5 f5 b5 hCq339 hNq332 hCq338 hCq336 hCq337 hBq340
        go_wp2_with fail
        refine wp_region_held_drew (S := fun x => Blk x (w.heap.size + 1) (o.map bv).toArray 26 ∧ Blk x (G) (k.map bv).toArray 26 ∧ Below 0 w x) (by kernel_rfl) ⟨hO5.drew, hK5.drew, below_drewN hz5 1⟩ (fun hSq341 => ?_)
        have hHq342 := Lib.hid (HRU5.out.drew)
        refine wpAnyH_take (i := 0) (v := .slice (some ⟨w.heap.size + 1, 0, none⟩) 32 32) rfl (by kernel_rfl) (by kernel_rfl) (by kernel_rfl) (fun _ _ _ h => h) (Or.inl ⟨by rfl, fun x hx => by go_simp⟩) hSq341 ?_
        simp only [Act.put, List.getElem_toArray, List.getElem_cons_zero, List.getElem_cons_succ, List.setIfInBounds_toArray, List.set_cons_zero, List.set_cons_succ]
        refine wpAnyH_take (i := 1) (v := .string (str o)) rfl (by kernel_rfl) (by kernel_rfl) (by kernel_rfl) (fun _ _ _ h => h) (Or.inl ⟨by rfl, fun x hx => by have hcv := conv_blk HO.out hx.1; go_simp⟩) hSq341 ?_
        simp only [Act.put, List.getElem_toArray, List.getElem_cons_zero, List.getElem_cons_succ, List.setIfInBounds_toArray, List.set_cons_zero, List.set_cons_succ]
        refine wpAnyH_take (i := 2) (v := pv) rfl (by kernel_rfl) (by kernel_rfl) (by kernel_rfl) (fun _ _ _ h => h) (Or.inl ⟨by rfl, fun x hx => by go_simp⟩) hSq341 ?_
        simp only [Act.put, List.getElem_toArray, List.getElem_cons_zero, List.getElem_cons_succ, List.setIfInBounds_toArray, List.set_cons_zero, List.set_cons_succ]
        refine wpAnyH_take (i := 3) rfl (by kernel_rfl) (by kernel_rfl) (by kernel_rfl) (fun _ _ _ h => h) (yieldsIf_load_mid (by rfl) 26 (.tmp 13) rfl (G) 0 (by rfl) (k.map bv) _ (fun x hx => blk_rangeP hx.2.1) Try.underlying26 rfl (by rw [List.length_map, HK.out]; exact Try.sizeHash)) hSq341 ?_
        simp only [Act.put, List.getElem_toArray, List.getElem_cons_zero, List.getElem_cons_succ, List.setIfInBounds_toArray, List.set_cons_zero, List.set_cons_succ]
        refine wpAnyH_take (i := 4) (v := .string (str about)) rfl (by kernel_rfl) (by kernel_rfl) (by kernel_rfl) (fun _ _ _ h => h) (Or.inl ⟨by rfl, fun x hx => by go_simp⟩) hSq341 ?_
        simp only [Act.put, List.getElem_toArray, List.getElem_cons_zero, List.getElem_cons_succ, List.setIfInBounds_toArray, List.set_cons_zero, List.set_cons_succ]
        refine wpAnyH_take (i := 5) (v := .string (str s)) rfl (by kernel_rfl) (by kernel_rfl) (by kernel_rfl) (fun _ _ _ h => h) (Or.inl ⟨by rfl, fun x hx => by go_simp⟩) hSq341 ?_
        simp only [Act.put, List.getElem_toArray, List.getElem_cons_zero, List.getElem_cons_succ, List.setIfInBounds_toArray, List.set_cons_zero, List.set_cons_succ]
        refine wpAnyH_take (i := 6) (v := .slice sao L.length sc) rfl (by kernel_rfl) (by kernel_rfl) (by kernel_rfl) (fun _ _ _ h => h) (Or.inl ⟨by rfl, fun x hx => by go_simp⟩) hSq341 ?_
        simp only [Act.put, List.getElem_toArray, List.getElem_cons_zero, List.getElem_cons_succ, List.setIfInBounds_toArray, List.set_cons_zero, List.set_cons_succ]
        refine wpAnyH_ready (rs := [7]) (by kernel_rfl) (by simp) ?_
        refine AllReadyH.cons rfl (fun K hK => ?_) AllReadyH.nil
        go_simp
        go_wp2_with (go_at_call 11; refine (c3 _ hHq342.out).mono ?_; rintro e wq343 ⟨rfl, hbkq344, fq345, bq346⟩)
        have HBK7 := Lib.hid hbkq344
        refine hK.out _ _ ⟨hSq341.1.frm fq345 (by unfold NT; decide), hSq341.2.1.frm fq345 (by unfold NT; decide), hSq341.2.2.trans (bq346.mono (Nat.zero_le _))⟩ (fun hSq347 => ?_)
        clear hK K hSq341 hbkq344 fq345 bq346
        refine wpAnyH_take (i := 8) (v := .string (str (o ++ q))) rfl (by kernel_rfl) (by kernel_rfl) (by kernel_rfl) (fun _ _ _ h => h) (Or.inl ⟨by rfl, fun x hx => by have ho1 : o.length = 32 := HO.out; go_simp; try omega⟩) hSq347 ?_
        simp only [Act.put, List.getElem_toArray, List.getElem_cons_zero, List.getElem_cons_succ, List.setIfInBounds_toArray, List.set_cons_zero, List.set_cons_succ]
        refine wpAnyH_ready (rs := [9]) (by kernel_rfl) (by simp) ?_
        refine AllReadyH.cons rfl (fun K hK => ?_) AllReadyH.nil
        go_simp
        refine hK.out _ _ hSq347 (fun hSq348 => ?_)
        clear hK K hSq347
        refine wpAnyH_done (by kernel_rfl) ?_ _
        go_wp2_with fail
        go_returns
        rw [hfin.out]
        exact ⟨rfl, HBK7.out.done⟩
      refine AllReadyH.cons rfl (fun K hK => ?_) AllReadyH.nil
      rw [if_pos (by rfl)]
      refine wp_bs32 23 26 (.tmp 25) rfl k HK.out (by rfl) Try.underlying23 (by kernel_rfl) ?_
      intro gq352 yq350 egq353 ezq354 bq349 hEq351
      have lgq355 : 0 ≤ gq352 := by rw [egq353]; exact Nat.zero_le _
      have lbq356 : w.heap.size < gq352 := by rw [egq353]; exact hSq281.1.lt
      have lbq357 : w.heap.size + 1 < gq352 := by rw [egq353]; exact hSq281.2.1.lt
      have lbq358 : G < gq352 := by rw [egq353]; exact hSq281.2.2.1.lt
      have hHq359 := Lib.hid (hHq280.out.below bq349)
      refine hK.out _ _ ⟨hSq281.1.below bq349 hSq281.1.lt, hSq281.2.1.below bq349 hSq281.2.1.lt, hSq281.2.2.1.below bq349 hSq281.2.2.1.lt, hSq281.2.2.2.trans (bq349.mono (Nat.zero_le _))⟩ (fun hSq360 => ?_)
      clear hK K hSq281 bq349 egq353 ezq354
      refine wpAnyH_ready (rs := [3]) (by kernel_rfl) (by simp) ?_
      refine AllReadyH.cons rfl (fun K hK => ?_) AllReadyH.nil
      rw [if_pos (by rfl)]
      refine wp_bs32 23 26 (.tmp 23) rfl m HM.out (by rfl) Try.underlying23 (by kernel_rfl) ?_
      intro gq364 yq362 egq365 ezq366 bq361 hEq363
      have lgq367 : 0 ≤ gq364 := by rw [egq365]; exact Nat.zero_le _
      have lbq368 : w.heap.size < gq364 := by rw [egq365]; exact hSq360.1.lt
      have lbq369 : w.heap.size + 1 < gq364 := by rw [egq365]; exact hSq360.2.1.lt
      have lbq370 : G < gq364 := by rw [egq365]; exact hSq360.2.2.1.lt
      have hEq371 := hEq351.below bq361 hEq351.lt
      have hHq372 := Lib.hid (hHq359.out.below bq361)
      refine hK.out _ _ ⟨hSq360.1.below bq361 hSq360.1.lt, hSq360.2.1.below bq361 hSq360.2.1.lt, hSq360.2.2.1.below bq361 hSq360.2.2.1.lt, hSq360.2.2.2.trans (bq361.mono (Nat.zero_le _))⟩ (fun hSq373 => ?_)
      clear hK K hSq360 bq361 egq365 ezq366
      refine wpAnyH_take (i := 6) (v := .agg #[.slice (some ⟨gq364, 0, none⟩) 1 1, .slice (some ⟨gq352, 0, none⟩) 1 1]) rfl (by kernel_rfl) (by kernel_rfl) (by kernel_rfl) (fun _ _ _ h => h) (Or.inl ⟨by rfl, fun x hx => by go_simp⟩) hSq373 ?_
      simp only [Act.put, List.getElem_toArray, List.getElem_cons_zero, List.getElem_cons_succ, List.setIfInBounds_toArray, List.set_cons_zero, List.set_cons_succ]
      refine wpAnyH_ready (rs := [7]) (by kernel_rfl) (by simp) ?_
      refine AllReadyH.cons rfl (fun K hK => ?_) AllReadyH.nil
      go_simp
      go_wp2_with (go_at_call 26; refine (hHq372.out.note_calls HPV.out _ _ ⟨[m], [k]⟩ (fun w' f b => ⟨HashesAt.one (hEq363.frm f (by unfold NT; decide)) HM.out (by omega), HashesAt.one (hEq371.frm f (by unfold NT; decide)) HK.out (by omega)⟩) (FOk.of11 HM.out HK.out) (HRM.out.less (by omega))).mono ?_; rintro e wq374 ⟨rfl, hbkq375, fq376, bq377⟩)
      have hEq379 := hEq371.frm fq376 (by unfold NT; decide)
      have hEq380 := hEq363.frm fq376 (by unfold NT; decide)
      have HBKq381 := Lib.hid hbkq375
      refine hK.out _ _ ⟨hSq373.1.frm fq376 (by unfold NT; decide), hSq373.2.1.frm fq376 (by unfold NT; decide), hSq373.2.2.1.frm fq376 (by unfold NT; decide), hSq373.2.2.2.trans (bq377.mono (Nat.zero_le _))⟩ (fun hSq378 => ?_)
      clear hK K hSq373 hbkq375 fq376 bq377
      refine wpAnyH_done (by kernel_rfl) ?_ _
      have hO2 := hSq378.2.1
      have hK2 := hSq378.2.2.1
      have hz2 := hSq378.2.2.2
      have HRU2 := Lib.hid (HBKq381.out.chg HO1.out.symm)
      clear hSq378 HBKq381
      go_wp2_with (first | ((with_reducible show wpList _ _ _ (⟨some 30, _, _, _, _, _⟩ :: _) _ _); refine wpList_load_mid rfl 26 (.tmp 8) rfl ((w.heap.size + 1)) 0 (by rfl) (o.map bv) _ (blk_rangeP hO2) Try.underlying26 rfl (by rw [List.length_map, HO.out]; exact Try.sizeHash) ?_) | ((with_reducible show wpList _ _ _ (⟨some 31, _, _, _, _, _⟩ :: _) _ _); refine wpList_bsH rfl 23 26 (.tmp 30) rfl o HO.out (by rfl) Try.underlying23 Try.infoHash2 ?_; intro qq382 wq383 eqq384 szq385 bbq386 hNq387; have ltq388 : (w.heap.size + 1) < wq374.heap.size := hO2.lt; have ltq389 : G < wq374.heap.size := hK2.lt; have hCq390 := hO2.below bbq386 hO2.lt; have hCq391 := hK2.below bbq386 hK2.lt; have hCq392 := Lib.hid (HRU2.out.below bbq386); have hBq393 := hz2.trans (bbq386.mono (Nat.zero_le _)); clear hO2 hK2 HRU2 hz2; clear bbq386 eqq384 szq385) | ((with_reducible show wpList _ _ _ (⟨some 32, _, _, _, _, _⟩ :: _) _ _); refine wpList_load_mid rfl 26 (.tmp 13) rfl (G) 0 (by rfl) (k.map bv) _ (blk_rangeP hCq391) Try.underlying26 rfl (by rw [List.length_map, HK.out]; exact Try.sizeHash) ?_) | ((with_reducible show wpList _ _ _ (⟨some 33, _, _, _, _, _⟩ :: _) _ _); refine wpList_bsH rfl 23 26 (.tmp 32) rfl k HK.out (by rfl) Try.underlying23 Try.infoHash2 ?_; intro qq394 wq395 eqq396 szq397 bbq398 hNq399; have ltq400 : (w.heap.size + 1) < wq383.heap.size := hCq390.lt; have ltq401 : G < wq383.heap.size := hCq391.lt; have ltq402 : qq382 < wq383.heap.size := hNq387.lt; have hCq403 := hCq390.below bbq398 hCq390.lt; have hCq404 := hCq391.below bbq398 hCq391.lt; have hCq405 := Lib.hid (hCq392.out.below bbq398); have hCq406 := hNq387.below bbq398 hNq387.lt; have hBq407 := hBq393.trans (bbq398.mono (Nat.zero_le _)); clear hCq390 hCq391 hCq392 hNq387 hBq393; clear bbq398 eqq396 szq397) | ((with_reducible show wpList _ _ _ (⟨some 34, _, _, _, _, _⟩ :: _) _ _); refine wpList_buildCells rfl 68 #[(0, .tmp 31), (1, .tmp 33)] rfl (#[.slice (some ⟨qq382, 0, none⟩) 1 1, .slice (some ⟨qq394, 0, none⟩) 1 1]) (by kernel_rfl) ?_))
      refine (hCq405.out.note_calls HPV.out _ _ ⟨[o], [k]⟩ (fun w' f b => ⟨HashesAt.one (hCq406.frm f (by unfold NT; decide)) HO.out (by omega), HashesAt.one (hNq399.frm f (by unfold NT; decide)) HK.out (by omega)⟩) (FOk.of11 HO.out HK.out) (HRM1.out.less (by omega))).mono ?_
      rintro e w5 ⟨rfl, hbk5, f5, b5⟩
      have HRU5 := Lib.hid (hbk5.chg HO2.out.symm)
      have hO5 := hCq403.frm f5 (by unfold NT; decide)
      have hK5 := hCq404.frm f5 (by unfold NT; decide)
      have hz5 := hBq407.trans (b5.mono (Nat.zero_le _))
      clear hbk5 f5 b5 hCq406 hNq399 hCq405 hCq403 hCq404 hBq407
      go_wp2_with fail
      refine wp_region_held_drew (S := fun x => Blk x (w.heap.size + 1) (o.map bv).toArray 26 ∧ Blk x (G) (k.map bv).toArray 26 ∧ Below 0 w x) (by kernel_rfl) ⟨hO5.drew, hK5.drew, below_drewN hz5 1⟩ (fun hSq408 => ?_)
      have hHq409 := Lib.hid (HRU5.out.drew)
      refine wpAnyH_take (i := 0) (v := .slice (some ⟨w.heap.size + 1, 0, none⟩) 32 32) rfl (by kernel_rfl) (by kernel_rfl) (by kernel_rfl) (fun _ _ _ h => h) (Or.inl ⟨by rfl, fun x hx => by go_simp⟩) hSq408 ?_
      simp only [Act.put, List.getElem_toArray, List.getElem_cons_zero, List.getElem_cons_succ, List.setIfInBounds_toArray, List.set_cons_zero, List.set_cons_succ]
      refine wpAnyH_take (i := 1) (v := .string (str o)) rfl (by kernel_rfl) (by kernel_rfl) (by kernel_rfl) (fun _ _ _ h => h) (Or.inl ⟨by rfl, fun x hx => by have hcv := conv_blk HO.out hx.1; go_simp⟩) hSq408 ?_
      simp only [Act.put, List.getElem_toArray, List.getElem_cons_zero, List.getElem_cons_succ, List.setIfInBounds_toArray, List.set_cons_zero, List.set_cons_succ]
      refine wpAnyH_take (i := 2) (v := pv) rfl (by kernel_rfl) (by kernel_rfl) (by kernel_rfl) (fun _ _ _ h => h) (Or.inl ⟨by rfl, fun x hx => by go_simp⟩) hSq408 ?_
      simp only [Act.put, List.getElem_toArray, List.getElem_cons_zero, List.getElem_cons_succ, List.setIfInBounds_toArray, List.set_cons_zero, List.set_cons_succ]
      refine wpAnyH_take (i := 3) rfl (by kernel_rfl) (by kernel_rfl) (by kernel_rfl) (fun _ _ _ h => h) (yieldsIf_load_mid (by rfl) 26 (.tmp 13) rfl (G) 0 (by rfl) (k.map bv) _ (fun x hx => blk_rangeP hx.2.1) Try.underlying26 rfl (by rw [List.length_map, HK.out]; exact Try.sizeHash)) hSq408 ?_
      simp only [Act.put, List.getElem_toArray, List.getElem_cons_zero, List.getElem_cons_succ, List.setIfInBounds_toArray, List.set_cons_zero, List.set_cons_succ]
      refine wpAnyH_take (i := 4) (v := .string (str about)) rfl (by kernel_rfl) (by kernel_rfl) (by kernel_rfl) (fun _ _ _ h => h) (Or.inl ⟨by rfl, fun x hx => by go_simp⟩) hSq408 ?_
      simp only [Act.put, List.getElem_toArray, List.getElem_cons_zero, List.getElem_cons_succ, List.setIfInBounds_toArray, List.set_cons_zero, List.set_cons_succ]
      refine wpAnyH_take (i := 5) (v := .string (str s)) rfl (by kernel_rfl) (by kernel_rfl) (by kernel_rfl) (fun _ _ _ h => h) (Or.inl ⟨by rfl, fun x hx => by go_simp⟩) hSq408 ?_
      simp only [Act.put, List.getElem_toArray, List.getElem_cons_zero, List.getElem_cons_succ, List.setIfInBounds_toArray, List.set_cons_zero, List.set_cons_succ]
      refine wpAnyH_take (i := 6) (v := .slice sao L.length sc) rfl (by kernel_rfl) (by kernel_rfl) (by kernel_rfl) (fun _ _ _ h => h) (Or.inl ⟨by rfl, fun x hx => by go_simp⟩) hSq408 ?_
      simp only [Act.put, List.getElem_toArray, List.getElem_cons_zero, List.getElem_cons_succ, List.setIfInBounds_toArray, List.set_cons_zero, List.set_cons_succ]
      refine wpAnyH_ready (rs := [7]) (by kernel_rfl) (by simp) ?_
      refine AllReadyH.cons rfl (fun K hK => ?_) AllReadyH.nil
      go_simp
      go_wp2_with (go_at_call 11; refine (c3 _ hHq409.out).mono ?_; rintro e wq410 ⟨rfl, hbkq411, fq412, bq413⟩)
      have HBK7 := Lib.hid hbkq411
      refine hK.out _ _ ⟨hSq408.1.frm fq412 (by unfold NT; decide), hSq408.2.1.frm fq412 (by unfold NT; decide), hSq408.2.2.trans (bq413.mono (Nat.zero_le _))⟩ (fun hSq414 => ?_)
      clear hK K hSq408 hbkq411 fq412 bq413
      refine wpAnyH_take (i := 8) (v := .string (str (o ++ q))) rfl (by kernel_rfl) (by kernel_rfl) (by kernel_rfl) (fun _ _ _ h => h) (Or.inl ⟨by rfl, fun x hx => by have ho1 : o.length = 32 := HO.out; go_simp; try omega⟩) hSq414 ?_
      simp only [Act.put, List.getElem_toArray, List.getElem_cons_zero, List.getElem_cons_succ, List.setIfInBounds_toArray, List.set_cons_zero, List.set_cons_succ]
      refine wpAnyH_ready (rs := [9]) (by kernel_rfl) (by simp) ?_
      refine AllReadyH.cons rfl (fun K hK => ?_) AllReadyH.nil
      go_simp
      refine hK.out _ _ hSq414 (fun hSq415 => ?_)
      clear hK K hSq414
      refine wpAnyH_done (by kernel_rfl) ?_ _
      go_wp2_with fail
      go_returns
      rw [hfin.out]
      exact ⟨rfl, HBK7.out.done⟩
    refine AllReadyH.cons rfl (fun K hK => ?_) AllReadyH.nil
    rw [if_pos (by rfl)]
    refine wp_bs32 23 26 (.tmp 25) rfl k HK.out (by rfl) Try.underlying23 (by kernel_rfl) ?_
    intro gq419 yq417 egq420 ezq421 bq416 hEq418
    have lgq422 : 0 ≤ gq419 := by rw [egq420]; exact Nat.zero_le _
    have lbq423 : w.heap.size < gq419 := by rw [egq420]; exact hSq276.1.lt
    have lbq424 : w.heap.size + 1 < gq419 := by rw [egq420]; exact hSq276.2.1.lt
    have lbq425 : G < gq419 := by rw [egq420]; exact hSq276.2.2.1.lt
    have hHq426 := Lib.hid (hHq277.out.below bq416)
    refine hK.out _ _ ⟨hSq276.1.below bq416 hSq276.1.lt, hSq276.2.1.below bq416 hSq276.2.1.lt, hSq276.2.2.1.below bq416 hSq276.2.2.1.lt, hSq276.2.2.2.trans (bq416.mono (Nat.zero_le _))⟩ (fun hSq427 => ?_)
    clear hK K hSq276 bq416 egq420 ezq421
    refine wpAnyH_ready (rs := [2]) (by kernel_rfl) (by simp) ?_
    refine AllReadyH.cons rfl (fun K hK => ?_) AllReadyH.nil
    go_simp
    go_wp2_with (go_at_call 31; refine (c2 _).mono ?_; rintro e yq428 ⟨rfl, bq429⟩)
    have hEq430 := hEq418.below bq429 hEq418.lt
    have hHq431 := Lib.hid (hHq426.out.below bq429)
    refine hK.out _ _ ⟨hSq427.1.below bq429 hSq427.1.lt, hSq427.2.1.below bq429 hSq427.2.1.lt, hSq427.2.2.1.below bq429 hSq427.2.2.1.lt, hSq427.2.2.2.trans (bq429.mono (Nat.zero_le _))⟩ (fun hSq432 => ?_)
    clear hK K hSq427 bq429
    refine wpAnyH_ready (rs := [3]) (by kernel_rfl) (by simp) ?_
    refine AllReadyH.cons rfl (fun K hK => ?_) AllReadyH.nil
    rw [if_pos (by rfl)]
    refine wp_bs32 23 26 (.tmp 23) rfl m HM.out (by rfl) Try.underlying23 (by kernel_rfl) ?_
    intro gq436 yq434 egq437 ezq438 bq433 hEq435
    have lgq439 : 0 ≤ gq436 := by rw [egq437]; exact Nat.zero_le _
    have lbq440 : w.heap.size < gq436 := by rw [egq437]; exact hSq432.1.lt
    have lbq441 : w.heap.size + 1 < gq436 := by rw [egq437]; exact hSq432.2.1.lt
    have lbq442 : G < gq436 := by rw [egq437]; exact hSq432.2.2.1.lt
    have hEq443 := hEq430.below bq433 hEq430.lt
    have hHq444 := Lib.hid (hHq431.out.below bq433)
    refine hK.out _ _ ⟨hSq432.1.below bq433 hSq432.1.lt, hSq432.2.1.below bq433 hSq432.2.1.lt, hSq432.2.2.1.below bq433 hSq432.2.2.1.lt, hSq432.2.2.2.trans (bq433.mono (Nat.zero_le _))⟩ (fun hSq445 => ?_)
    clear hK K hSq432 bq433 egq437 ezq438
    refine wpAnyH_take (i := 6) (v := .agg #[.slice (some ⟨gq436, 0, none⟩) 1 1, .slice (some ⟨gq419, 0, none⟩) 1 1]) rfl (by kernel_rfl) (by kernel_rfl) (by kernel_rfl) (fun _ _ _ h => h) (Or.inl ⟨by rfl, fun x hx => by go_simp⟩) hSq445 ?_
    simp only [Act.put, List.getElem_toArray, List.getElem_cons_zero, List.getElem_cons_succ, List.setIfInBounds_toArray, List.set_cons_zero, List.set_cons_succ]
    refine wpAnyH_ready (rs := [7]) (by kernel_rfl) (by simp) ?_
    refine AllReadyH.cons rfl (fun K hK => ?_) AllReadyH.nil
    go_simp
    go_wp2_with (go_at_call 26; refine (hHq444.out.note_calls HPV.out _ _ ⟨[m], [k]⟩ (fun w' f b => ⟨HashesAt.one (hEq435.frm f (by unfold NT; decide)) HM.out (by omega), HashesAt.one (hEq443.frm f (by unfold NT; decide)) HK.out (by omega)⟩) (FOk.of11 HM.out HK.out) (HRM.out.less (by omega))).mono ?_; rintro e wq446 ⟨rfl, hbkq447, fq448, bq449⟩)
    have hEq451 := hEq443.frm fq448 (by unfold NT; decide)
    have hEq452 := hEq435.frm fq448 (by unfold NT; decide)
    have HBKq453 := Lib.hid hbkq447
    refine hK.out _ _ ⟨hSq445.1.frm fq448 (by unfold NT; decide), hSq445.2.1.frm fq448 (by unfold NT; decide), hSq445.2.2.1.frm fq448 (by unfold NT; decide), hSq445.2.2.2.trans (bq449.mono (Nat.zero_le _))⟩ (fun hSq450 => ?_)
    clear hK K hSq445 hbkq447 fq448 bq449
    refine wpAnyH_done (by kernel_rfl) ?_ _
    have hO2 := hSq450.2.1
    have hK2 := hSq450.2.2.1
    have hz2 := hSq450.2.2.2
    have HRU2 := Lib.hid (HBKq453.out.chg HO1.out.symm)
    clear hSq450 HBKq453
    go_wp2_with (first | ((with_reducible show wpList _ _ _ (⟨some 30, _, _, _, _, _⟩ :: _) _ _); refine wpList_load_mid rfl 26 (.tmp 8) rfl ((w.heap.size + 1)) 0 (by rfl) (o.map bv) _ (blk_rangeP hO2) Try.underlying26 rfl (by rw [List.length_map, HO.out]; exact Try.sizeHash) ?_) | ((with_reducible show wpList _ _ _ (⟨some 31, _, _, _, _, _⟩ :: _) _ _); refine wpList_bsH rfl 23 26 (.tmp 30) rfl o HO.out (by rfl) Try.underlying23 Try.infoHash2 ?_; intro qq454 wq455 eqq456 szq457 bbq458 hNq459; have ltq460 : (w.heap.size + 1) < wq446.heap.size := hO2.lt; have ltq461 : G < wq446.heap.size := hK2.lt; have hCq462 := hO2.below bbq458 hO2.lt; have hCq463 := hK2.below bbq458 hK2.lt; have hCq464 := Lib.hid (HRU2.out.below bbq458); have hBq465 := hz2.trans (bbq458.mono (Nat.zero_le _)); clear hO2 hK2 HRU2 hz2; clear bbq458 eqq456 szq457) | ((with_reducible show wpList _ _ _ (⟨some 32, _, _, _, _, _⟩ :: _) _ _); refine wpList_load_mid rfl 26 (.tmp 13) rfl (G) 0 (by rfl) (k.map bv) _ (blk_rangeP hCq463) Try.underlying26 rfl (by rw [List.length_map, HK.out]; exact Try.sizeHash) ?_) | ((with_reducible show wpList _ _ _ (⟨some 33, _, _, _, _, _⟩ :: _) _ _); refine wpList_bsH rfl 23 26 (.tmp 32) rfl k HK.out (by rfl) Try.underlying23 Try.infoHash2 ?_; intro qq466 wq467 eqq468 szq469 bbq470 hNq471; have ltq472 : (w.heap.size + 1) < wq455.heap.size := hCq462.lt; have ltq473 : G < wq455.heap.size := hCq463.lt; have ltq474 : qq454 < wq455.heap.size := hNq459.lt; have hCq475 := hCq462.below bbq470 hCq462.lt; have hCq476 := hCq463.below bbq470 hCq463.lt; have hCq477 := Lib.hid (hCq464.out.below bbq470); have hCq478 := hNq459.below bbq470 hNq459.lt; have hBq479 := hBq465.trans (bbq470.mono (Nat.zero_le _)); clear hCq462 hCq463 hCq464 hNq459 hBq465; clear bbq470 eqq468 szq469) | ((with_reducible show wpList _ _ _ (⟨some 34, _, _, _, _, _⟩ :: _) _ _); refine wpList_buildCells rfl 68 #[(0, .tmp 31), (1, .tmp 33)] rfl (#[.slice (some ⟨qq454, 0, none⟩) 1 1, .slice (some ⟨qq466, 0, none⟩) 1 1]) (by kernel_rfl) ?_))
    refine (hCq477.out.note_calls HPV.out _ _ ⟨[o], [k]⟩ (fun w' f b => ⟨HashesAt.one (hCq478.frm f (by unfold NT; decide)) HO.out (by omega), HashesAt.one (hNq471.frm f (by unfold NT; decide)) HK.out (by omega)⟩) (FOk.of11 HO.out HK.out) (HRM1.out.less (by omega))).mono ?_
    rintro e w5 ⟨rfl, hbk5, f5, b5⟩
    have HRU5 := Lib.hid (hbk5.chg HO2.out.symm)
    have hO5 := hCq475.frm f5 (by unfold NT; decide)
    have hK5 := hCq476.frm f5 (by unfold NT; decide)
    have hz5 := hBq479.trans (b5.mono (Nat.zero_le _))
    clear hbk5 f5 b5 hCq478 hNq471 hCq477 hCq475 hCq476 hBq479
    go_wp2_with fail
    refine wp_region_held_drew (S := fun x => Blk x (w.heap.size + 1) (o.map bv).toArray 26 ∧ Blk x (G) (k.map bv).toArray 26 ∧ Below 0 w x) (by kernel_rfl) ⟨hO5.drew, hK5.drew, below_drewN hz5 1⟩ (fun hSq480 => ?_)
    have hHq481 := Lib.hid (HRU5.out.drew)
    refine wpAnyH_take (i := 0) (v := .slice (some ⟨w.heap.size + 1, 0, none⟩) 32 32) rfl (by kernel_rfl) (by kernel_rfl) (by kernel_rfl) (fun _ _ _ h => h) (Or.inl ⟨by rfl, fun x hx => by go_simp⟩) hSq480 ?_
    simp only [Act.put, List.getElem_toArray, List.getElem_cons_zero, List.getElem_cons_succ, List.setIfInBounds_toArray, List.set_cons_zero, List.set_cons_succ]
    refine wpAnyH_take (i := 1) (v := .string (str o)) rfl (by kernel_rfl) (by kernel_rfl) (by kernel_rfl) (fun _ _ _ h => h) (Or.inl ⟨by rfl, fun x hx => by have hcv := conv_blk HO.out hx.1; go_simp⟩) hSq480 ?_
    simp only [Act.put, List.getElem_toArray, List.getElem_cons_zero, List.getElem_cons_succ, List.setIfInBounds_toArray, List.set_cons_zero, List.set_cons_succ]
    refine wpAnyH_take (i := 2) (v := pv) rfl (by kernel_rfl) (by kernel_rfl) (by kernel_rfl) (fun _ _ _ h => h) (Or.inl ⟨by rfl, fun x hx => by go_simp⟩) hSq480 ?_
    simp only [Act.put, List.getElem_toArray, List.getElem_cons_zero, List.getElem_cons_succ, List.setIfInBounds_toArray, List.set_cons_zero, List.set_cons_succ]
    refine wpAnyH_take (i := 3) rfl (by kernel_rfl) (by kernel_rfl) (by kernel_rfl) (fun _ _ _ h => h) (yieldsIf_load_mid (by rfl) 26 (.tmp 13) rfl (G) 0 (by rfl) (k.map bv) _ (fun x hx => blk_rangeP hx.2.1) Try.underlying26 rfl (by rw [List.length_map, HK.out]; exact Try.sizeHash)) hSq480 ?_
    simp only [Act.put, List.getElem_toArray, List.getElem_cons_zero, List.getElem_cons_succ, List.setIfInBounds_toArray, List.set_cons_zero, List.set_cons_succ]
    refine wpAnyH_take (i := 4) (v := .string (str about)) rfl (by kernel_rfl) (by kernel_rfl) (by kernel_rfl) (fun _ _ _ h => h) (Or.inl ⟨by rfl, fun x hx => by go_simp⟩) hSq480 ?_
    simp only [Act.put, List.getElem_toArray, List.getElem_cons_zero, List.getElem_cons_succ, List.setIfInBounds_toArray, List.set_cons_zero, List.set_cons_succ]
    refine wpAnyH_take (i := 5) (v := .string (str s)) rfl (by kernel_rfl) (by kernel_rfl) (by kernel_rfl) (fun _ _ _ h => h) (Or.inl ⟨by rfl, fun x hx => by go_simp⟩) hSq480 ?_
    simp only [Act.put, List.getElem_toArray, List.getElem_cons_zero, List.getElem_cons_succ, List.setIfInBounds_toArray, List.set_cons_zero, List.set_cons_succ]
    refine wpAnyH_take (i := 6) (v := .slice sao L.length sc) rfl (by kernel_rfl) (by kernel_rfl) (by kernel_rfl) (fun _ _ _ h => h) (Or.inl ⟨by rfl, fun x hx => by go_simp⟩) hSq480 ?_
    simp only [Act.put, List.getElem_toArray, List.getElem_cons_zero, List.getElem_cons_succ, List.setIfInBounds_toArray, List.set_cons_zero, List.set_cons_succ]
    refine wpAnyH_ready (rs := [7]) (by kernel_rfl) (by simp) ?_
    refine AllReadyH.cons rfl (fun K hK => ?_) AllReadyH.nil
    go_simp
    go_wp2_with (go_at_call 11; refine (c3 _ hHq481.out).mono ?_; rintro e wq482 ⟨rfl, hbkq483, fq484, bq485⟩)
    have HBK7 := Lib.hid hbkq483
    refine hK.out _ _ ⟨hSq480.1.frm fq484 (by unfold NT; decide), hSq480.2.1.frm fq484 (by unfold NT; decide), hSq480.2.2.trans (bq485.mono (Nat.zero_le _))⟩ (fun hSq486 => ?_)
    clear hK K hSq480 hbkq483 fq484 bq485
    refine wpAnyH_take (i := 8) (v := .string (str (o ++ q))) rfl (by kernel_rfl) (by kernel_rfl) (by kernel_rfl) (fun _ _ _ h => h) (Or.inl ⟨by rfl, fun x hx => by have ho1 : o.length = 32 := HO.out; go_simp; try omega⟩) hSq486 ?_
    simp only [Act.put, List.getElem_toArray, List.getElem_cons_zero, List.getElem_cons_succ, List.setIfInBounds_toArray, List.set_cons_zero, List.set_cons_succ]
    refine wpAnyH_ready (rs := [9]) (by kernel_rfl) (by simp) ?_
    refine AllReadyH.cons rfl (fun K hK => ?_) AllReadyH.nil
    go_simp
    refine hK.out _ _ hSq486 (fun hSq487 => ?_)
    clear hK K hSq486
    refine wpAnyH_done (by kernel_rfl) ?_ _
    go_wp2_with fail
    go_returns
    rw [hfin.out]
    exact ⟨rfl, HBK7.out.done⟩
  refine AllReadyH.cons rfl (fun K hK => ?_) AllReadyH.nil
  rw [if_pos (by rfl)]
  refine wp_allocZ 26 rfl Z32 (by kernel_rfl) ?_
  intro gq491 yq489 egq492 ezq493 bq488 hEq490
  have lgq494 : w.heap.size ≤ gq491 := by rw [egq492]; exact hSq257.2.2.size
  have lbq495 : w.heap.size < gq491 := by rw [egq492]; exact hSq257.1.lt
  have lbq496 : w.heap.size + 1 < gq491 := by rw [egq492]; exact hSq257.2.1.lt
  refine hK.out _ _ ⟨hSq257.1.below bq488 hSq257.1.lt, hSq257.2.1.below bq488 hSq257.2.1.lt, hSq257.2.2.trans (bq488.mono (hSq257.2.2.size))⟩ (fun hSq497 => ?_)
  clear hK K hSq257 bq488 egq492 ezq493
  refine wpAnyH_ready (rs := [3]) (by kernel_rfl) (by simp) ?_
  refine AllReadyH.cons rfl (fun K hK => ?_) AllReadyH.nil
  go_simp
  go_wp2_with (go_at_call 35; refine (c1 _).mono ?_; rintro e yq498 ⟨rfl, bq499⟩)
  have hEq500 := hEq490.below bq499 hEq490.lt
  refine hK.out _ _ ⟨hSq497.1.below bq499 hSq497.1.lt, hSq497.2.1.below bq499 hSq497.2.1.lt, hSq497.2.2.trans (bq499.mono (hSq497.2.2.size))⟩ (fun hSq501 => ?_)
  clear hK K hSq497 bq499
  refine wpAnyH_ready (rs := [5]) (by kernel_rfl) (by simp) ?_
  refine AllReadyH.cons rfl (fun K hK => ?_) AllReadyH.nil
  rw [if_pos (by rfl)]
  refine wp_storeBlk 26 (.tmp 13) (.tmp 20) rfl gq491 ((k.map bv).toArray) (by rfl) (by rfl) _ _ hEq500 (by rw [bv_size, HK.out]; exact Try.sizeHash) (by rw [bv_size, HK.out, Z32_size]) (bv_all _) ?_
  intro yq502 hEq503 grq504
  refine hK.out _ _ ⟨hSq501.1.grown grq504 (by first | (simp; done) | (simp; omega)), hSq501.2.1.grown grq504 (by first | (simp; done) | (simp; omega)), below_new hSq501.2.2 grq504 lgq494 (hSq501.2.2.size)⟩ (fun hSq505 => ?_)
  clear hK K hSq501
  refine wpAnyH_done (by kernel_rfl) ?_ _
  have hP1 := hSq505.1
  have hO1 := hSq505.2.1
  have hb1 := hSq505.2.2
  have hk1 := hEq503
  have hz1 : Below 0 w yq502 := hb1.mono (Nat.zero_le _)
  have HRUN1 : Hid (BkRun A bo bo w yq502 B (w.heap.size + 2)) := ⟨(HBO.out.widen (fun q h => h.imp id (fun h => h.1))).below hb1, BkFrm.ofBelow hb1, hb1.mono hB, by have := hO1.lt; omega, hB, HAW.out, rfl, rfl⟩
  clear hSq505 hb1
  generalize gq491 = G at *
  go_wp2_with fail
  refine wp_region_held_drew (S := fun x => Blk x (w.heap.size) (p.map bv).toArray 26 ∧ Blk x (w.heap.size + 1) (o.map bv).toArray 26 ∧ Blk x (G) (k.map bv).toArray 26 ∧ Below 0 w x) (by kernel_rfl) ⟨hP1.drew, hO1.drew, hk1.drew, below_drewN hz1 1⟩ (fun hSq507 => ?_)
  have hHq508 := Lib.hid (HRUN1.out.drew)
  refine wpAnyH_take (i := 0) (v := pv) rfl (by kernel_rfl) (by kernel_rfl) (by kernel_rfl) (fun _ _ _ h => h) (Or.inl ⟨by rfl, fun x hx => by go_simp⟩) hSq507 ?_
  simp only [Act.put, List.getElem_toArray, List.getElem_cons_zero, List.getElem_cons_succ, List.setIfInBounds_toArray, List.set_cons_zero, List.set_cons_succ]
  refine wpAnyH_take (i := 1) rfl (by kernel_rfl) (by kernel_rfl) (by kernel_rfl) (fun _ _ _ h => h) (yieldsIf_load_mid (by rfl) 26 (.tmp 7) rfl (w.heap.size) 0 (by rfl) (p.map bv) _ (fun x hx => blk_rangeP hx.1) Try.underlying26 rfl (by rw [List.length_map, HP.out]; exact Try.sizeHash)) hSq507 ?_
  simp only [Act.put, List.getElem_toArray, List.getElem_cons_zero, List.getElem_cons_succ, List.setIfInBounds_toArray, List.set_cons_zero, List.set_cons_succ]
  refine wpAnyH_take (i := 4) rfl (by kernel_rfl) (by kernel_rfl) (by kernel_rfl) (fun _ _ _ h => h) (yieldsIf_load_mid (by rfl) 26 (.tmp 13) rfl (G) 0 (by rfl) (k.map bv) _ (fun x hx => blk_rangeP hx.2.2.1) Try.underlying26 rfl (by rw [List.length_map, HK.out]; exact Try.sizeHash)) hSq507 ?_
  simp only [Act.put, List.getElem_toArray, List.getElem_cons_zero, List.getElem_cons_succ, List.setIfInBounds_toArray, List.set_cons_zero, List.set_cons_succ]
  refine wpAnyH_ready (rs := [2, 5]) (by kernel_rfl) (by simp) ?_
  refine AllReadyH.cons rfl (fun K hK => ?_) ?_
  · go_simp
    go_wp2_with (go_at_call 31; refine (c2 _).mono ?_; rintro e yq509 ⟨rfl, bq510⟩)
    have hHq511 := Lib.hid (hHq508.out.below bq510)
    refine hK.out _ _ ⟨hSq507.1.below bq510 hSq507.1.lt, hSq507.2.1.below bq510 hSq507.2.1.lt, hSq507.2.2.1.below bq510 hSq507.2.2.1.lt, hSq507.2.2.2.trans (bq510.mono (Nat.zero_le _))⟩ (fun hSq512 => ?_)
    clear hK K hSq507 bq510
    refine wpAnyH_ready (rs := [3, 5]) (by kernel_rfl) (by simp) ?_
    refine AllReadyH.cons rfl (fun K hK => ?_) ?_
    · rw [if_pos (by rfl)]
      refine wp_bs32 23 26 (.tmp 23) rfl m HM.out (by rfl) Try.underlying23 (by kernel_rfl) ?_
      intro gq516 yq514 egq517 ezq518 bq513 hEq515
      have lgq519 : 0 ≤ gq516 := by rw [egq517]; exact Nat.zero_le _
      have lbq520 : w.heap.size < gq516 := by rw [egq517]; exact hSq512.1.lt
      have lbq521 : w.heap.size + 1 < gq516 := by rw [egq517]; exact hSq512.2.1.lt
      have lbq522 : G < gq516 := by rw [egq517]; exact hSq512.2.2.1.lt
      have hHq523 := Lib.hid (hHq511.out.below bq513)
      refine hK.out _ _ ⟨hSq512.1.below bq513 hSq512.1.lt, hSq512.2.1.below bq513 hSq512.2.1.lt, hSq512.2.2.1.below bq513 hSq512.2.2.1.lt, hSq512.2.2.2.trans (bq513.mono (Nat.zero_le _))⟩ (fun hSq524 => ?_)
      clear hK K hSq512 bq513 egq517 ezq518
      refine wpAnyH_ready (rs := [5]) (by kernel_rfl) (by simp) ?_
      refine AllReadyH.cons rfl (fun K hK => ?_) AllReadyH.nil
      rw [if_pos (by rfl)]
      refine wp_bs32 23 26 (.tmp 25) rfl k HK.out (by rfl) Try.underlying23 (by kernel_rfl) ?_
      intro gq528 yq526 egq529 ezq530 bq525 hEq527
      have lgq531 : 0 ≤ gq528 := by rw [egq529]; exact Nat.zero_le _
      have lbq532 : w.heap.size < gq528 := by rw [egq529]; exact hSq524.1.lt
      have lbq533 : w.heap.size + 1 < gq528 := by rw [egq529]; exact hSq524.2.1.lt
      have lbq534 : G < gq528 := by rw [egq529]; exact hSq524.2.2.1.lt
      have hEq535 := hEq515.below bq525 hEq515.lt
      have hHq536 := Lib.hid (hHq523.out.below bq525)
      refine hK.out _ _ ⟨hSq524.1.below bq525 hSq524.1.lt, hSq524.2.1.below bq525 hSq524.2.1.lt, hSq524.2.2.1.below bq525 hSq524.2.2.1.lt, hSq524.2.2.2.trans (bq525.mono (Nat.zero_le _))⟩ (fun hSq537 => ?_)
      clear hK K hSq524 bq525 egq529 ezq530
      refine wpAnyH_take (i := 6) (v := .agg #[.slice (some ⟨gq516, 0, none⟩) 1 1, .slice (some ⟨gq528, 0, none⟩) 1 1]) rfl (by kernel_rfl) (by kernel_rfl) (by kernel_rfl) (fun _ _ _ h => h) (Or.inl ⟨by rfl, fun x hx => by go_simp⟩) hSq537 ?_
      simp only [Act.put, List.getElem_toArray, List.getElem_cons_zero, List.getElem_cons_succ, List.setIfInBounds_toArray, List.set_cons_zero, List.set_cons_succ]
      refine wpAnyH_ready (rs := [7]) (by kernel_rfl) (by simp) ?_
      refine AllReadyH.cons rfl (fun K hK => ?_) AllReadyH.nil
      go_simp
      go_wp2_with (go_at_call 26; refine (hHq536.out.note_calls HPV.out _ _ ⟨[m], [k]⟩ (fun w' f b => ⟨HashesAt.one (hEq535.frm f (by unfold NT; decide)) HM.out (by omega), HashesAt.one (hEq527.frm f (by unfold NT; decide)) HK.out (by omega)⟩) (FOk.of11 HM.out HK.out) (HRM.out.less (by omega))).mono ?_; rintro e wq538 ⟨rfl, hbkq539, fq540, bq541⟩)
      have hEq543 := hEq535.frm fq540 (by unfold NT; decide)
      have hEq544 := hEq527.frm fq540 (by unfold NT; decide)
      have HBKq545 := Lib.hid hbkq539
      refine hK.out _ _ ⟨hSq537.1.frm fq540 (by unfold NT; decide), hSq537.2.1.frm fq540 (by unfold NT; decide), hSq537.2.2.1.frm fq540 (by unfold NT; decide), hSq537.2.2.2.trans (bq541.mono (Nat.zero_le _))⟩ (fun hSq542 => ?_)
      clear hK K hSq537 hbkq539 fq540 bq541
      refine wpAnyH_done (by kernel_rfl) ?_ _
      have hO2 := hSq542.2.1
      have hK2 := hSq542.2.2.1
      have hz2 := hSq542.2.2.2
      have HRU2 := Lib.hid (HBKq545.out.chg HO1.out.symm)
      clear hSq542 HBKq545
      go_wp2_with (first | ((with_reducible show wpList _ _ _ (⟨some 30, _, _, _, _, _⟩ :: _) _ _); refine wpList_load_mid rfl 26 (.tmp 8) rfl ((w.heap.size + 1)) 0 (by rfl) (o.map bv) _ (blk_rangeP hO2) Try.underlying26 rfl (by rw [List.length_map, HO.out]; exact Try.sizeHash) ?_) | ((with_reducible show wpList _ _ _ (⟨some 31, _, _, _, _, _⟩ :: _) _ _); refine wpList_bsH rfl 23 26 (.tmp 30) rfl o HO.out (by rfl) Try.underlying23 Try.infoHash2 ?_; intro qq546 wq547 eqq548 szq549 bbq550 hNq551; have ltq552 : (w.heap.size + 1) < wq538.heap.size := hO2.lt; have ltq553 : G < wq538.heap.size := hK2.lt; have hCq554 := hO2.below bbq550 hO2.lt; have hCq555 := hK2.below bbq550 hK2.lt; have hCq556 := Lib.hid (HRU2.out.below bbq550); have hBq557 := hz2.trans (bbq550.mono (Nat.zero_le _)); clear hO2 hK2 HRU2 hz2; clear bbq550 eqq548 szq549) | ((with_reducible show wpList _ _ _ (⟨some 32, _, _, _, _, _⟩ :: _) _ _); refine wpList_load_mid rfl 26 (.tmp 13) rfl (G) 0 (by rfl) (k.map bv) _ (blk_rangeP hCq555) Try.underlying26 rfl (by rw [List.length_map, HK.out]; exact Try.sizeHash) ?_) | ((with_reducible show wpList _ _ _ (⟨some 33, _, _, _, _, _⟩ :: _) _ _); refine wpList_bsH rfl 23 26 (.tmp 32) rfl k HK.out (by rfl) Try.underlying23 Try.infoHash2 ?_; intro qq558 wq559 eqq560 szq561 bbq562 hNq563; have ltq564 : (w.heap.size + 1) < wq547.heap.size := hCq554.lt; have ltq565 : G < wq547.heap.size := hCq555.lt; have ltq566 : qq546 < wq547.heap.size := hNq551.lt; have hCq567 := hCq554.below bbq562 hCq554.lt; have hCq568 := hCq555.below bbq562 hCq555.lt; have hCq569 := Lib.hid (hCq556.out.below bbq562); have hCq570 := hNq551.below bbq562 hNq551.lt; have hBq571 := hBq557.trans (bbq562.mono (Nat.zero_le _)); clear hCq554 hCq555 hCq556 hNq551 hBq557; clear bbq562 eqq560 szq561) | ((with_reducible show wpList _ _ _ (⟨some 34, _, _, _, _, _⟩ :: _) _ _); refine wpList_buildCells rfl 68 #[(0, .tmp 31), (1, .tmp 33)] rfl (#[.slice (some ⟨qq546, 0, none⟩) 1 1, .slice (some ⟨qq558, 0, none⟩) 1 1]) (by kernel_rfl) ?_))
      refine (hCq569.out.note_calls HPV.out _ _ ⟨[o], [k]⟩ (fun w' f b => ⟨HashesAt.one (hCq570.frm f (by unfold NT; decide)) HO.out (by omega), HashesAt.one (hNq563.frm f (by unfold NT; decide)) HK.out (by omega)⟩) (FOk.of11 HO.out HK.out) (HRM1.out.less (by omega))).mono ?_
      rintro e w5 ⟨rfl, hbk5, f5, b5⟩
      have HRU5 := Lib.hid (hbk5.chg HO2.out.symm)
      have hO5 := hCq567.frm f5 (by unfold NT; decide)
      have hK5 := hCq568.frm f5 (by unfold NT; decide)
      have hz5 := hBq571.trans (b5.mono (Nat.zero_le _))
      clear hbk5 f5 b5 hCq570 hNq563 hCq569 hCq567 hCq568 hBq571
      go_wp2_with fail
      refine wp_region_held_drew (S := fun x => Blk x (w.heap.size + 1) (o.map bv).toArray 26 ∧ Blk x (G) (k.map bv).toArray 26 ∧ Below 0 w x) (by kernel_rfl) ⟨hO5.drew, hK5.drew, below_drewN hz5 1⟩ (fun hSq572 => ?_)
      have hHq573 := Lib.hid (HRU5.out.drew)
      refine wpAnyH_take (i := 0) (v := .slice (some ⟨w.heap.size + 1, 0, none⟩) 32 32) rfl (by kernel_rfl) (by kernel_rfl) (by kernel_rfl) (fun _ _ _ h => h) (Or.inl ⟨by rfl, fun x hx => by go_simp⟩) hSq572 ?_
      simp only [Act.put, List.getElem_toArray, List.getElem_cons_zero, List.getElem_cons_succ, List.setIfInBounds_toArray, List.set_cons_zero, List.set_cons_succ]
      refine wpAnyH_take (i := 1) (v := .string (str o)) rfl (by kernel_rfl) (by kernel_rfl) (by kernel_rfl) (fun _ _ _ h => h) (Or.inl ⟨by rfl, fun x hx => by have hcv := conv_blk HO.out hx.1; go_simp⟩) hSq572 ?_
      simp only [Act.put, List.getElem_toArray, List.getElem_cons_zero, List.getElem_cons_succ, List.setIfInBounds_toArray, List.set_cons_zero, List.set_cons_succ]
      refine wpAnyH_take (i := 2) (v := pv) rfl (by kernel_rfl) (by kernel_rfl) (by kernel_rfl) (fun _ _ _ h => h) (Or.inl ⟨by rfl, fun x hx => by go_simp⟩) hSq572 ?_
      simp only [Act.put, List.getElem_toArray, List.getElem_cons_zero, List.getElem_cons_succ, List.setIfInBounds_toArray, List.set_cons_zero, List.set_cons_succ]
      refine wpAnyH_take (i := 3) rfl (by kernel_rfl) (by kernel_rfl) (by kernel_rfl) (fun _ _ _ h => h) (yieldsIf_load_mid (by rfl) 26 (.tmp 13) rfl (G) 0 (by rfl) (k.map bv) _ (fun x hx => blk_rangeP hx.2.1) Try.underlying26 rfl (by rw [List.length_map, HK.out]; exact Try.sizeHash)) hSq572 ?_
      simp only [Act.put, List.getElem_toArray, List.getElem_cons_zero, List.getElem_cons_succ, List.setIfInBounds_toArray, List.set_cons_zero, List.set_cons_succ]
      refine wpAnyH_take (i := 4) (v := .string (str about)) rfl (by kernel_rfl) (by kernel_rfl) (by kernel_rfl) (fun _ _ _ h => h) (Or.inl ⟨by rfl, fun x hx => by go_simp⟩) hSq572 ?_
      simp only [Act.put, List.getElem_toArray, List.getElem_cons_zero, List.getElem_cons_succ, List.setIfInBounds_toArray, List.set_cons_zero, List.set_cons_succ]
      refine wpAnyH_take (i := 5) (v := .string (str s)) rfl (by kernel_rfl) (by kernel_rfl) (by kernel_rfl) (fun _ _ _ h => h) (Or.inl ⟨by rfl, fun x hx => by go_simp⟩) hSq572 ?_
      simp only [Act.put, List.getElem_toArray, List.getElem_cons_zero, List.getElem_cons_succ, List.setIfInBounds_toArray, List.set_cons_zero, List.set_cons_succ]
      refine wpAnyH_take (i := 6) (v := .slice sao L.length sc) rfl (by kernel_rfl) (by kernel_rfl) (by kernel_rfl) (fun _ _ _ h => h) (Or.inl ⟨by rfl, fun x hx => by go_simp⟩) hSq572 ?_
      simp only [Act.put, List.getElem_toArray, List.getElem_cons_zero, List.getElem_cons_succ, List.setIfInBounds_toArray, List.set_cons_zero, List.set_cons_succ]
      refine wpAnyH_ready (rs := [7]) (by kernel_rfl) (by simp) ?_
      refine AllReadyH.cons rfl (fun K hK => ?_) AllReadyH.nil
      go_simp
      go_wp2_with (go_at_call 11; refine (c3 _ hHq573.out).mono ?_; rintro e wq574 ⟨rfl, hbkq575, fq576, bq577⟩)
      have HBK7 := Lib.hid hbkq575
      refine hK.out _ _ ⟨hSq572.1.frm fq576 (by unfold NT; decide), hSq572.2.1.frm fq576 (by unfold NT; decide), hSq572.2.2.trans (bq577.mono (Nat.zero_le _))⟩ (fun hSq578 => ?_)
      clear hK K hSq572 hbkq575 fq576 bq577
      refine wpAnyH_take (i := 8) (v := .string (str (o ++ q))) rfl (by kernel_rfl) (by kernel_rfl) (by kernel_rfl) (fun _ _ _ h => h) (Or.inl ⟨by rfl, fun x hx => by have ho1 : o.length = 32 := HO.out; go_simp; try omega⟩) hSq578 ?_
      simp only [Act.put, List.getElem_toArray, List.getElem_cons_zero, List.getElem_cons_succ, List.setIfInBounds_toArray, List.set_cons_zero, List.set_cons_succ]
      refine wpAnyH_ready (rs := [9]) (by kernel_rfl) (by simp) ?_
      refine AllReadyH.cons rfl (fun K hK => ?_) AllReadyH.nil
      go_simp
      refine hK.out _ _ hSq578 (fun hSq579 => ?_)
      clear hK K hSq578
      refine wpAnyH_done (by kernel_rfl) ?_ _
      go_wp2_with fail
      go_returns
      rw [hfin.out]
      exact ⟨rfl, HBK7.out.done⟩
    refine AllReadyH.cons rfl (fun K hK => ?_) AllReadyH.nil
    rw [if_pos (by rfl)]
    refine wp_bs32 23 26 (.tmp 25) rfl k HK.out (by rfl) Try.underlying23 (by kernel_rfl) ?_
    intro gq583 yq581 egq584 ezq585 bq580 hEq582
    have lgq586 : 0 ≤ gq583 := by rw [egq584]; exact Nat.zero_le _
    have lbq587 : w.heap.size < gq583 := by rw [egq584]; exact hSq512.1.lt
    have lbq588 : w.heap.size + 1 < gq583 := by rw [egq584]; exact hSq512.2.1.lt
    have lbq589 : G < gq583 := by rw [egq584]; exact hSq512.2.2.1.lt
    have hHq590 := Lib.hid (hHq511.out.below bq580)
    refine hK.out _ _ ⟨hSq512.1.below bq580 hSq512.1.lt, hSq512.2.1.below bq580 hSq512.2.1.lt, hSq512.2.2.1.below bq580 hSq512.2.2.1.lt, hSq512.2.2.2.trans (bq580.mono (Nat.zero_le _))⟩ (fun hSq591 => ?_)
    clear hK K hSq512 bq580 egq584 ezq585
    refine wpAnyH_ready (rs := [3]) (by kernel_rfl) (by simp) ?_
    refine AllReadyH.cons rfl (fun K hK => ?_) AllReadyH.nil
    rw [if_pos (by rfl)]
    refine wp_bs32 23 26 (.tmp 23) rfl m HM.out (by rfl) Try.underlying23 (by kernel_rfl) ?_
    intro gq595 yq593 egq596 ezq597 bq592 hEq594
    have lgq598 : 0 ≤ gq595 := by rw [egq596]; exact Nat.zero_le _
    have lbq599 : w.heap.size < gq595 := by rw [egq596]; exact hSq591.1.lt
    have lbq600 : w.heap.size + 1 < gq595 := by rw [egq596]; exact hSq591.2.1.lt
    have lbq601 : G < gq595 := by rw [egq596]; exact hSq591.2.2.1.lt
    have hEq602 := hEq582.below bq592 hEq582.lt
    have hHq603 := Lib.hid (hHq590.out.below bq592)
    refine hK.out _ _ ⟨hSq591.1.below bq592 hSq591.1.lt, hSq591.2.1.below bq592 hSq591.2.1.lt, hSq591.2.2.1.below bq592 hSq591.2.2.1.lt, hSq591.2.2.2.trans (bq592.mono (Nat.zero_le _))⟩ (fun hSq604 => ?_)
    clear hK K hSq591 bq592 egq596 ezq597
    refine wpAnyH_take (i := 6) (v := .agg #[.slice (some ⟨gq595, 0, none⟩) 1 1, .slice (some ⟨gq583, 0, none⟩) 1 1]) rfl (by kernel_rfl) (by kernel_rfl) (by kernel_rfl) (fun _ _ _ h => h) (Or.inl ⟨by rfl, fun x hx => by go_simp⟩) hSq604 ?_
    simp only [Act.put, List.getElem_toArray, List.getElem_cons_zero, List.getElem_cons_succ, List.setIfInBounds_toArray, List.set_cons_zero, List.set_cons_succ]
    refine wpAnyH_ready (rs := [7]) (by kernel_rfl) (by simp) ?_
    refine AllReadyH.cons rfl (fun K hK => ?_) AllReadyH.nil
    go_simp
    go_wp2_with (go_at_call 26; refine (hHq603.out.note_calls HPV.out _ _ ⟨[m], [k]⟩ (fun w' f b => ⟨HashesAt.one (hEq594.frm f (by unfold NT; decide)) HM.out (by omega), HashesAt.one (hEq602.frm f (by unfold NT; decide)) HK.out (by omega)⟩) (FOk.of11 HM.out HK.out) (HRM.out.less (by omega))).mono ?_; rintro e wq605 ⟨rfl, hbkq606, fq607, bq608⟩)
    have hEq610 := hEq602.frm fq607 (by unfold NT; decide)
    have hEq611 := hEq594.frm fq607 (by unfold NT; decide)
    have HBKq612 := Lib.hid hbkq606
    refine hK.out _ _ ⟨hSq604.1.frm fq607 (by unfold NT; decide), hSq604.2.1.frm fq607 (by unfold NT; decide), hSq604.2.2.1.frm fq607 (by unfold NT; decide), hSq604.2.2.2.trans (bq608.mono (Nat.zero_le _))⟩ (fun hSq609 => ?_)
    clear hK K hSq604 hbkq606 fq607 bq608
    refine wpAnyH_done (by kernel_rfl) ?_ _
    have hO2 := hSq609.2.1
    have hK2 := hSq609.2.2.1
    have hz2 := hSq609.2.2.2
    have HRU2 := Lib.hid (HBKq612.out.chg HO1.out.symm)
    clear hSq609 HBKq612
    go_wp2_with (first | ((with_reducible show wpList _ _ _ (⟨some 30, _, _, _, _, _⟩ :: _) _ _); refine wpList_load_mid rfl 26 (.tmp 8) rfl ((w.heap.size + 1)) 0 (by rfl) (o.map bv) _ (blk_rangeP hO2) Try.underlying26 rfl (by rw [List.length_map, HO.out]; exact Try.sizeHash) ?_) | ((with_reducible show wpList _ _ _ (⟨some 31, _, _, _, _, _⟩ :: _) _ _); refine wpList_bsH rfl 23 26 (.tmp 30) rfl o HO.out (by rfl) Try.underlying23 Try.infoHash2 ?_; intro qq613 wq614 eqq615 szq616 bbq617 hNq618; have ltq619 : (w.heap.size + 1) < wq605.heap.size := hO2.lt; have ltq620 : G < wq605.heap.size := hK2.lt; have hCq621 := hO2.below bbq617 hO2.lt; have hCq622 := hK2.below bbq617 hK2.lt; have hCq623 := Lib.hid (HRU2.out.below bbq617); have hBq624 := hz2.trans (bbq617.mono (Nat.zero_le _)); clear hO2 hK2 HRU2 hz2; clear bbq617 eqq615 szq616) | ((with_reducible show wpList _ _ _ (⟨some 32, _, _, _, _, _⟩ :: _) _ _); refine wpList_load_mid rfl 26 (.tmp 13) rfl (G) 0 (by rfl) (k.map bv) _ (blk_rangeP hCq622) Try.underlying26 rfl (by rw [List.length_map, HK.out]; exact Try.sizeHash) ?_) | ((with_reducible show wpList _ _ _ (⟨some 33, _, _, _, _, _⟩ :: _) _ _); refine wpList_bsH rfl 23 26 (.tmp 32) rfl k HK.out (by rfl) Try.underlying23 Try.infoHash2 ?_; intro qq625 wq626 eqq627 szq628 bbq629 hNq630; have ltq631 : (w.heap.size + 1) < wq614.heap.size := hCq621.lt; have ltq632 : G < wq614.heap.size := hCq622.lt; have ltq633 : qq613 < wq614.heap.size := hNq618.lt; have hCq634 := hCq621.below bbq629 hCq621.lt; have hCq635 := hCq622.below bbq629 hCq622.lt; have hCq636 := Lib.hid (hCq623.out.below bbq629); have hCq637 := hNq618.below bbq629 hNq618.lt; have hBq638 := hBq624.trans (bbq629.mono (Nat.zero_le _)); clear hCq621 hCq622 hCq623 hNq618 hBq624; clear bbq629 eqq627 szq628) | ((with_reducible show wpList _ _ _ (⟨some 34, _, _, _, _, _⟩ :: _) _ _); refine wpList_buildCells rfl 68 #[(0, .tmp 31), (1, .tmp 33)] rfl (#[.slice (some ⟨qq613, 0, none⟩) 1 1, .slice (some ⟨qq625, 0, none⟩) 1 1]) (by kernel_rfl) ?_))
    refine (hCq636.out.note_calls HPV.out _ _ ⟨[o], [k]⟩ (fun w' f b => ⟨HashesAt.one (hCq637.frm f (by unfold NT; decide)) HO.out (by omega), HashesAt.one (hNq630.frm f (by unfold NT; decide)) HK.out (by omega)⟩) (FOk.of11 HO.out HK.out) (HRM1.out.less (by omega))).mono ?_
    rintro e w5 ⟨rfl, hbk5, f5, b5⟩
    have HRU5 := Lib.hid (hbk5.chg HO2.out.symm)
    have hO5 := hCq634.frm f5 (by unfold NT; decide)
    have hK5 := hCq635.frm f5 (by unfold NT; decide)
    have hz5 := hBq638.trans (b5.mono (Nat.zero_le _))
    clear hbk5 f5 b5 hCq637 hNq630 hCq636 hCq634 hCq635 hBq638
    go_wp2_with fail
    refine wp_region_held_drew (S := fun x => Blk x (w.heap.size + 1) (o.map bv).toArray 26 ∧ Blk x (G) (k.map bv).toArray 26 ∧ Below 0 w x) (by kernel_rfl) ⟨hO5.drew, hK5.drew, below_drewN hz5 1⟩ (fun hSq639 => ?_)
    have hHq640 := Lib.hid (HRU5.out.drew)
    refine wpAnyH_take (i := 0) (v := .slice (some ⟨w.heap.size + 1, 0, none⟩) 32 32) rfl (by kernel_rfl) (by kernel_rfl) (by kernel_rfl) (fun _ _ _ h => h) (Or.inl ⟨by rfl, fun x hx => by go_simp⟩) hSq639 ?_
    simp only [Act.put, List.getElem_toArray, List.getElem_cons_zero, List.getElem_cons_succ, List.setIfInBounds_toArray, List.set_cons_zero, List.set_cons_succ]
    refine wpAnyH_take (i := 1) (v := .string (str o)) rfl (by kernel_rfl) (by kernel_rfl) (by kernel_rfl) (fun _ _ _ h => h) (Or.inl ⟨by rfl, fun x hx => by have hcv := conv_blk HO.out hx.1; go_simp⟩) hSq639 ?_
    simp only [Act.put, List.getElem_toArray, List.getElem_cons_zero, List.getElem_cons_succ, List.setIfInBounds_toArray, List.set_cons_zero, List.set_cons_succ]
    refine wpAnyH_take (i := 2) (v := pv) rfl (by kernel_rfl) (by kernel_rfl) (by kernel_rfl) (fun _ _ _ h => h) (Or.inl ⟨by rfl, fun x hx => by go_simp⟩) hSq639 ?_
    simp only [Act.put, List.getElem_toArray, List.getElem_cons_zero, List.getElem_cons_succ, List.setIfInBounds_toArray, List.set_cons_zero, List.set_cons_succ]
    refine wpAnyH_take (i := 3) rfl (by kernel_rfl) (by kernel_rfl) (by kernel_rfl) (fun _ _ _ h => h) (yieldsIf_load_mid (by rfl) 26 (.tmp 13) rfl (G) 0 (by rfl) (k.map bv) _ (fun x hx => blk_rangeP hx.2.1) Try.underlying26 rfl (by rw [List.length_map, HK.out]; exact Try.sizeHash)) hSq639 ?_
    simp only [Act.put, List.getElem_toArray, List.getElem_cons_zero, List.getElem_cons_succ, List.setIfInBounds_toArray, List.set_cons_zero, List.set_cons_succ]
    refine wpAnyH_take (i := 4) (v := .string (str about)) rfl (by kernel_rfl) (by kernel_rfl) (by kernel_rfl) (fun _ _ _ h => h) (Or.inl ⟨by rfl, fun x hx => by go_simp⟩) hSq639 ?_
    simp only [Act.put, List.getElem_toArray, List.getElem_cons_zero, List.getElem_cons_succ, List.setIfInBounds_toArray, List.set_cons_zero, List.set_cons_succ]
    refine wpAnyH_take (i := 5) (v := .string (str s)) rfl (by kernel_rfl) (by kernel_rfl) (by kernel_rfl) (fun _ _ _ h => h) (Or.inl ⟨by rfl, fun x hx => by go_simp⟩) hSq639 ?_
    simp only [Act.put, List.getElem_toArray, List.getElem_cons_zero, List.getElem_cons_succ, List.setIfInBounds_toArray, List.set_cons_zero, List.set_cons_succ]
    refine wpAnyH_take (i := 6) (v := .slice sao L.length sc) rfl (by kernel_rfl) (by kernel_rfl) (by kernel_rfl) (fun _ _ _ h => h) (Or.inl ⟨by rfl, fun x hx => by go_simp⟩) hSq639 ?_
    simp only [Act.put, List.getElem_toArray, List.getElem_cons_zero, List.getElem_cons_succ, List.setIfInBounds_toArray, List.set_cons_zero, List.set_cons_succ]
    refine wpAnyH_ready (rs := [7]) (by kernel_rfl) (by simp) ?_
    refine AllReadyH.cons rfl (fun K hK => ?_) AllReadyH.nil
    go_simp
    go_wp2_with (go_at_call 11; refine (c3 _ hHq640.out).mono ?_; rintro e wq641 ⟨rfl, hbkq642, fq643, bq644⟩)
    have HBK7 := Lib.hid hbkq642
    refine hK.out _ _ ⟨hSq639.1.frm fq643 (by unfold NT; decide), hSq639.2.1.frm fq643 (by unfold NT; decide), hSq639.2.2.trans (bq644.mono (Nat.zero_le _))⟩ (fun hSq645 => ?_)
    clear hK K hSq639 hbkq642 fq643 bq644
    refine wpAnyH_take (i := 8) (v := .string (str (o ++ q))) rfl (by kernel_rfl) (by kernel_rfl) (by kernel_rfl) (fun _ _ _ h => h) (Or.inl ⟨by rfl, fun x hx => by have ho1 : o.length = 32 := HO.out; go_simp; try omega⟩) hSq645 ?_
    simp only [Act.put, List.getElem_toArray, List.getElem_cons_zero, List.getElem_cons_succ, List.setIfInBounds_toArray, List.set_cons_zero, List.set_cons_succ]
    refine wpAnyH_ready (rs := [9]) (by kernel_rfl) (by simp) ?_
    refine AllReadyH.cons rfl (fun K hK => ?_) AllReadyH.nil
    go_simp
    refine hK.out _ _ hSq645 (fun hSq646 => ?_)
    clear hK K hSq645
    refine wpAnyH_done (by kernel_rfl) ?_ _
    go_wp2_with fail
    go_returns
    rw [hfin.out]
    exact ⟨rfl, HBK7.out.done⟩
  refine AllReadyH.cons rfl (fun K hK => ?_) AllReadyH.nil
  rw [if_pos (by rfl)]
  refine wp_bs32 23 26 (.tmp 25) rfl k HK.out (by rfl) Try.underlying23 (by kernel_rfl) ?_
  intro gq650 yq648 egq651 ezq652 bq647 hEq649
  have lgq653 : 0 ≤ gq650 := by rw [egq651]; exact Nat.zero_le _
  have lbq654 : w.heap.size < gq650 := by rw [egq651]; exact hSq507.1.lt
  have lbq655 : w.heap.size + 1 < gq650 := by rw [egq651]; exact hSq507.2.1.lt
  have lbq656 : G < gq650 := by rw [egq651]; exact hSq507.2.2.1.lt
  have hHq657 := Lib.hid (hHq508.out.below bq647)
  refine hK.out _ _ ⟨hSq507.1.below bq647 hSq507.1.lt, hSq507.2.1.below bq647 hSq507.2.1.lt, hSq507.2.2.1.below bq647 hSq507.2.2.1.lt, hSq507.2.2.2.trans (bq647.mono (Nat.zero_le _))⟩ (fun hSq658 => ?_)
  clear hK K hSq507 bq647 egq651 ezq652
  refine wpAnyH_ready (rs := [2]) (by kernel_rfl) (by simp) ?_
  refine AllReadyH.cons rfl (fun K hK => ?_) AllReadyH.nil
  go_simp
  go_wp2_with (go_at_call 31; refine (c2 _).mono ?_; rintro e yq659 ⟨rfl, bq660⟩)
  have hEq661 := hEq649.below bq660 hEq649.lt
  have hHq662 := Lib.hid (hHq657.out.below bq660)
  refine hK.out _ _ ⟨hSq658.1.below bq660 hSq658.1.lt, hSq658.2.1.below bq660 hSq658.2.1.lt, hSq658.2.2.1.below bq660 hSq658.2.2.1.lt, hSq658.2.2.2.trans (bq660.mono (Nat.zero_le _))⟩ (fun hSq663 => ?_)
  clear hK K hSq658 bq660
  refine wpAnyH_ready (rs := [3]) (by kernel_rfl) (by simp) ?_
  refine AllReadyH.cons rfl (fun K hK => ?_) AllReadyH.nil
  rw [if_pos (by rfl)]
  refine wp_bs32 23 26 (.tmp 23) rfl m HM.out (by rfl) Try.underlying23 (by kernel_rfl) ?_
  intro gq667 yq665 egq668 ezq669 bq664 hEq666
  have lgq670 : 0 ≤ gq667 := by rw [egq668]; exact Nat.zero_le _
  have lbq671 : w.heap.size < gq667 := by rw [egq668]; exact hSq663.1.lt
  have lbq672 : w.heap.size + 1 < gq667 := by rw [egq668]; exact hSq663.2.1.lt
  have lbq673 : G < gq667 := by rw [egq668]; exact hSq663.2.2.1.lt
  have hEq674 := hEq661.below bq664 hEq661.lt
  have hHq675 := Lib.hid (hHq662.out.below bq664)
  refine hK.out _ _ ⟨hSq663.1.below bq664 hSq663.1.lt, hSq663.2.1.below bq664 hSq663.2.1.lt, hSq663.2.2.1.below bq664 hSq663.2.2.1.lt, hSq663.2.2.2.trans (bq664.mono (Nat.zero_le _))⟩ (fun hSq676 => ?_)
  clear hK K hSq663 bq664 egq668 ezq669
  refine wpAnyH_take (i := 6) (v := .agg #[.slice (some ⟨gq667, 0, none⟩) 1 1, .slice (some ⟨gq650, 0, none⟩) 1 1]) rfl (by kernel_rfl) (by kernel_rfl) (by kernel_rfl) (fun _ _ _ h => h) (Or.inl ⟨by rfl, fun x hx => by go_simp⟩) hSq676 ?_
  simp only [Act.put, List.getElem_toArray, List.getElem_cons_zero, List.getElem_cons_succ, List.setIfInBounds_toArray, List.set_cons_zero, List.set_cons_succ]
  refine wpAnyH_ready (rs := [7]) (by kernel_rfl) (by simp) ?_
  refine AllReadyH.cons rfl (fun K hK => ?_) AllReadyH.nil
  go_simp
  go_wp2_with (go_at_call 26; refine (hHq675.out.note_calls HPV.out _ _ ⟨[m], [k]⟩ (fun w' f b => ⟨HashesAt.one (hEq666.frm f (by unfold NT; decide)) HM.out (by omega), HashesAt.one (hEq674.frm f (by unfold NT; decide)) HK.out (by omega)⟩) (FOk.of11 HM.out HK.out) (HRM.out.less (by omega))).mono ?_; rintro e wq677 ⟨rfl, hbkq678, fq679, bq680⟩)
  have hEq682 := hEq674.frm fq679 (by unfold NT; decide)
  have hEq683 := hEq666.frm fq679 (by unfold NT; decide)
  have HBKq684 := Lib.hid hbkq678
  refine hK.out _ _ ⟨hSq676.1.frm fq679 (by unfold NT; decide), hSq676.2.1.frm fq679 (by unfold NT; decide), hSq676.2.2.1.frm fq679 (by unfold NT; decide), hSq676.2.2.2.trans (bq680.mono (Nat.zero_le _))⟩ (fun hSq681 => ?_)
  clear hK K hSq676 hbkq678 fq679 bq680
  refine wpAnyH_done (by kernel_rfl) ?_ _
  have hO2 := hSq681.2.1
  have hK2 := hSq681.2.2.1
  have hz2 := hSq681.2.2.2
  have HRU2 := Lib.hid (HBKq684.out.chg HO1.out.symm)
  clear hSq681 HBKq684
  go_wp2_with (first | ((with_reducible show wpList _ _ _ (⟨some 30, _, _, _, _, _⟩ :: _) _ _); refine wpList_load_mid rfl 26 (.tmp 8) rfl ((w.heap.size + 1)) 0 (by rfl) (o.map bv) _ (blk_rangeP hO2) Try.underlying26 rfl (by rw [List.length_map, HO.out]; exact Try.sizeHash) ?_) | ((with_reducible show wpList _ _ _ (⟨some 31, _, _, _, _, _⟩ :: _) _ _); refine wpList_bsH rfl 23 26 (.tmp 30) rfl o HO.out (by rfl) Try.underlying23 Try.infoHash2 ?_; intro qq685 wq686 eqq687 szq688 bbq689 hNq690; have ltq691 : (w.heap.size + 1) < wq677.heap.size := hO2.lt; have ltq692 : G < wq677.heap.size := hK2.lt; have hCq693 := hO2.below bbq689 hO2.lt; have hCq694 := hK2.below bbq689 hK2.lt; have hCq695 := Lib.hid (HRU2.out.below bbq689); have hBq696 := hz2.trans (bbq689.mono (Nat.zero_le _)); clear hO2 hK2 HRU2 hz2; clear bbq689 eqq687 szq688) | ((with_reducible show wpList _ _ _ (⟨some 32, _, _, _, _, _⟩ :: _) _ _); refine wpList_load_mid rfl 26 (.tmp 13) rfl (G) 0 (by rfl) (k.map bv) _ (blk_rangeP hCq694) Try.underlying26 rfl (by rw [List.length_map, HK.out]; exact Try.sizeHash) ?_) | ((with_reducible show wpList _ _ _ (⟨some 33, _, _, _, _, _⟩ :: _) _ _); refine wpList_bsH rfl 23 26 (.tmp 32) rfl k HK.out (by rfl) Try.underlying23 Try.infoHash2 ?_; intro qq697 wq698 eqq699 szq700 bbq701 hNq702; have ltq703 : (w.heap.size + 1) < wq686.heap.size := hCq693.lt; have ltq704 : G < wq686.heap.size := hCq694.lt; have ltq705 : qq685 < wq686.heap.size := hNq690.lt; have hCq706 := hCq693.below bbq701 hCq693.lt; have hCq707 := hCq694.below bbq701 hCq694.lt; have hCq708 := Lib.hid (hCq695.out.below bbq701); have hCq709 := hNq690.below bbq701 hNq690.lt; have hBq710 := hBq696.trans (bbq701.mono (Nat.zero_le _)); clear hCq693 hCq694 hCq695 hNq690 hBq696; clear bbq701 eqq699 szq700) | ((with_reducible show wpList _ _ _ (⟨some 34, _, _, _, _, _⟩ :: _) _ _); refine wpList_buildCells rfl 68 #[(0, .tmp 31), (1, .tmp 33)] rfl (#[.slice (some ⟨qq685, 0, none⟩) 1 1, .slice (some ⟨qq697, 0, none⟩) 1 1]) (by kernel_rfl) ?_))
  refine (hCq708.out.note_calls HPV.out _ _ ⟨[o], [k]⟩ (fun w' f b => ⟨HashesAt.one (hCq709.frm f (by unfold NT; decide)) HO.out (by omega), HashesAt.one (hNq702.frm f (by unfold NT; decide)) HK.out (by omega)⟩) (FOk.of11 HO.out HK.out) (HRM1.out.less (by omega))).mono ?_
  rintro e w5 ⟨rfl, hbk5, f5, b5⟩
  have HRU5 := Lib.hid (hbk5.chg HO2.out.symm)
  have hO5 := hCq706.frm f5 (by unfold NT; decide)
  have hK5 := hCq707.frm f5 (by unfold NT; decide)
  have hz5 := hBq710.trans (b5.mono (Nat.zero_le _))
  clear hbk5 f5 b5 hCq709 hNq702 hCq708 hCq706 hCq707 hBq710
  go_wp2_with fail
  refine wp_region_held_drew (S := fun x => Blk x (w.heap.size + 1) (o.map bv).toArray 26 ∧ Blk x (G) (k.map bv).toArray 26 ∧ Below 0 w x) (by kernel_rfl) ⟨hO5.drew, hK5.drew, below_drewN hz5 1⟩ (fun hSq711 => ?_)
  have hHq712 := Lib.hid (HRU5.out.drew)
  refine wpAnyH_take (i := 0) (v := .slice (some ⟨w.heap.size + 1, 0, none⟩) 32 32) rfl (by kernel_rfl) (by kernel_rfl) (by kernel_rfl) (fun _ _ _ h => h) (Or.inl ⟨by rfl, fun x hx => by go_simp⟩) hSq711 ?_
  simp only [Act.put, List.getElem_toArray, List.getElem_cons_zero, List.getElem_cons_succ, List.setIfInBounds_toArray, List.set_cons_zero, List.set_cons_succ]
  refine wpAnyH_take (i := 1) (v := .string (str o)) rfl (by kernel_rfl) (by kernel_rfl) (by kernel_rfl) (fun _ _ _ h => h) (Or.inl ⟨by rfl, fun x hx => by have hcv := conv_blk HO.out hx.1; go_simp⟩) hSq711 ?_
  simp only [Act.put, List.getElem_toArray, List.getElem_cons_zero, List.getElem_cons_succ, List.setIfInBounds_toArray, List.set_cons_zero, List.set_cons_succ]
  refine wpAnyH_take (i := 2) (v := pv) rfl (by kernel_rfl) (by kernel_rfl) (by kernel_rfl) (fun _ _ _ h => h) (Or.inl ⟨by rfl, fun x hx => by go_simp⟩) hSq711 ?_
  simp only [Act.put, List.getElem_toArray, List.getElem_cons_zero, List.getElem_cons_succ, List.setIfInBounds_toArray, List.set_cons_zero, List.set_cons_succ]
  refine wpAnyH_take (i := 3) rfl (by kernel_rfl) (by kernel_rfl) (by kernel_rfl) (fun _ _ _ h => h) (yieldsIf_load_mid (by rfl) 26 (.tmp 13) rfl (G) 0 (by rfl) (k.map bv) _ (fun x hx => blk_rangeP hx.2.1) Try.underlying26 rfl (by rw [List.length_map, HK.out]; exact Try.sizeHash)) hSq711 ?_
  simp only [Act.put, List.getElem_toArray, List.getElem_cons_zero, List.getElem_cons_succ, List.setIfInBounds_toArray, List.set_cons_zero, List.set_cons_succ]
  refine wpAnyH_take (i := 4) (v := .string (str about)) rfl (by kernel_rfl) (by kernel_rfl) (by kernel_rfl) (fun _ _ _ h => h) (Or.inl ⟨by rfl, fun x hx => by go_simp⟩) hSq711 ?_
  simp only [Act.put, List.getElem_toArray, List.getElem_cons_zero, List.getElem_cons_succ, List.setIfInBounds_toArray, List.set_cons_zero, List.set_cons_succ]
  refine wpAnyH_take (i := 5) (v := .string (str s)) rfl (by kernel_rfl) (by kernel_rfl) (by kernel_rfl) (fun _ _ _ h => h) (Or.inl ⟨by rfl, fun x hx => by go_simp⟩) hSq711 ?_
  simp only [Act.put, List.getElem_toArray, List.getElem_cons_zero, List.getElem_cons_succ, List.setIfInBounds_toArray, List.set_cons_zero, List.set_cons_succ]
  refine wpAnyH_take (i := 6) (v := .slice sao L.length sc) rfl (by kernel_rfl) (by kernel_rfl) (by kernel_rfl) (fun _ _ _ h => h) (Or.inl ⟨by rfl, fun x hx => by go_simp⟩) hSq711 ?_
  simp only [Act.put, List.getElem_toArray, List.getElem_cons_zero, List.getElem_cons_succ, List.setIfInBounds_toArray, List.set_cons_zero, List.set_cons_succ]
  refine wpAnyH_ready (rs := [7]) (by kernel_rfl) (by simp) ?_
  refine AllReadyH.cons rfl (fun K hK => ?_) AllReadyH.nil
  go_simp
  go_wp2_with (go_at_call 11; refine (c3 _ hHq712.out).mono ?_; rintro e wq713 ⟨rfl, hbkq714, fq715, bq716⟩)
  have HBK7 := Lib.hid hbkq714
  refine hK.out _ _ ⟨hSq711.1.frm fq715 (by unfold NT; decide), hSq711.2.1.frm fq715 (by unfold NT; decide), hSq711.2.2.trans (bq716.mono (Nat.zero_le _))⟩ (fun hSq717 => ?_)
  clear hK K hSq711 hbkq714 fq715 bq716
  refine wpAnyH_take (i := 8) (v := .string (str (o ++ q))) rfl (by kernel_rfl) (by kernel_rfl) (by kernel_rfl) (fun _ _ _ h => h) (Or.inl ⟨by rfl, fun x hx => by have ho1 : o.length = 32 := HO.out; go_simp; try omega⟩) hSq717 ?_
  simp only [Act.put, List.getElem_toArray, List.getElem_cons_zero, List.getElem_cons_succ, List.setIfInBounds_toArray, List.set_cons_zero, List.set_cons_succ]
  refine wpAnyH_ready (rs := [9]) (by kernel_rfl) (by simp) ?_
  refine AllReadyH.cons rfl (fun K hK => ?_) AllReadyH.nil
  go_simp
  refine hK.out _ _ hSq717 (fun hSq718 => ?_)
  clear hK K hSq717
  refine wpAnyH_done (by kernel_rfl) ?_ _
  go_wp2_with fail
  go_returns
  rw [hfin.out]
  exact ⟨rfl, HBK7.out.done⟩
end Go.Proofs.Ytjlpdbaknhbgdaa
