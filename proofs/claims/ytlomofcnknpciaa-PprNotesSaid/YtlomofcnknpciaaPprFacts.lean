/-
  ppr: the document's facts of a place (Facts).
-/
import Derived.Test.YtlomofcnknpciaaPprDoc
import Derived.Test.YtlomofcnknpciaaPprFactLaw
import Derived.Test.YtlomofcnknpciaaBookRefNote
set_option linter.unusedSimpArgs false
set_option linter.unusedVariables false
namespace Go.Proofs.Ytlomofcnknpciaa
open Go.RowKit

theorem IntsA.drew {w : World} {v : Value} {tk : List Nat} (h : IntsA w v tk) : IntsA w.drew v tk := h.below (below_drewN (Below.refl _ _) 1)
theorem HashOwn.oneB {w : World} {base q : Nat} {e : TypeId} {h : HsT} (hg : Blk w q (h.map bv).toArray e) (hh : h.length = 32) (hb : base ≤ q) : HashOwn w base e (.slice (some ⟨q, 0, none⟩) 1 1) [h] :=
  ⟨fun x hx => by rw [List.mem_singleton.1 hx]; exact hh, by simp [hh], .inr ⟨q, 1, (h.map bv).toArray, rfl, hb, hg, Nat.le_refl _, by unfold maxLen; omega, by simp [hh], by rw [List.take_of_length_le (by simp [hh])]; simp⟩⟩
theorem HashOwn.twoB {w : World} {base q : Nat} {e : TypeId} {h k : HsT} (hg : Blk w q ((h ++ k).map bv).toArray e) (hh : h.length = 32) (hk : k.length = 32) (hb : base ≤ q) : HashOwn w base e (.slice (some ⟨q, 0, none⟩) 2 2) [h, k] :=
  ⟨fun x hx => by rcases List.mem_cons.1 hx with rfl | hx; exact hh; rw [List.mem_singleton.1 hx]; exact hk, by simp [hh, hk], .inr ⟨q, 2, ((h ++ k).map bv).toArray, rfl, hb, hg, Nat.le_refl _, by unfold maxLen; omega, by simp [hh, hk], by rw [List.take_of_length_le (by simp [hh, hk])]; simp⟩⟩
theorem wp_bs64n {P : Program} {o : Oper} {a : Act} {w : World} {K : Act → World → Prop} {Q : Exit → Act → World → Prop} (t e : TypeId) (x y : Operand) (ho : o.op = .buildSlice t 2 #[(0, x), (1, y)])
    (l r : List UInt8) (hl : l.length = 32) (hr : r.length = 32) (hx : a.eval x = .agg (l.map bv).toArray) (hy : a.eval y = .agg (r.map bv).toArray) (hu : P.underlying t = some (.slice e)) (hz : (P.info? e).map (fun i => (i.zero, i.size)) = some (some (.agg Z32), 32))
    (h : ∀ g w', g = w.heap.size → w'.heap.size = g + 1 → Below w.heap.size w w' → Blk w' g ((l ++ r).map bv).toArray e → K (a.put o.dst (.slice (some ⟨g, 0, none⟩) 2 2)) w') : o.wp P a w K Q :=
  wp_bs64 t e x y ho l r hl hr hx hy hu hz (h _ _ rfl (by simp) (below_alloc1 _ _) (Blk.new _ _ _))
/-- append of one fact to the row. -/
theorem wp_rfAppend {A : Nat → Prop} {P : Program} {w : World} {o : Oper} {a : Act} {K : Act → World → Prop} {Q : Exit → Act → World → Prop} (s x : Operand) (t : TypeId) (ho : o.op = .call { callee := .builtin .append, args := #[s, x], argTypes := #[t, t] }) (ht : P.underlying t = some (.slice 45))
    (hi : (P.info? 45).map (fun i => (i.zero, i.size, i.bytes)) = some (some (.agg #[.slice none 0 0, .slice none 0 0]), 2, 48)) (base : Nat) (fs : List FactT) (f : FactT) (v : Value) (hs : a.eval s = v) (hn : RFactsOwn A w base v fs) (v2 v3 : Value) (h2 : HashOwn w base 22 v2 f.ins) (h3 : HashOwn w base 22 v3 f.outs)
    (g c : Nat) (hx : a.eval x = .slice (some ⟨g, 0, none⟩) 1 c) (e2 : TypeId) (hg : Blk w g #[v2, v3] e2) (hlen : fs.length ≤ 10000000) (hbase : base ≤ w.heap.size) (hAw : ∀ q, A q → q < w.heap.size)
    (hK : ∀ v' w', RFactsOwn A w' base v' (fs ++ [f]) → w.grownBy w' v.ownBlock → Frm A (fun t => t = 45) (fun _ => False) w w' → (∀ q, v.ownBlock = some q → base ≤ q) → K (a.put o.dst v') w') : o.wp P a w K Q := by
  obtain ⟨cs, h4, h5, h7, h6⟩ := hn
  obtain ⟨i, hi1, hz, hsz, hby⟩ := info_parts hi
  refine wp_append_own3 s x t ho base 45 i _ 2 48 ht hi1 hz hsz hby rfl (by decide) v _ _ hs h4 ⟨g, 0, none⟩ 1 c [v2, v3] hx rfl (fun j u hj => ?_) (fun u hu => ?_) (by unfold maxLen; omega) (by omega) hbase fun v' w' g1 g2 g3 => ?_
  · rw [Addr.add_lit, Nat.zero_add]
    exact hg.cell j u (by rw [← List.getElem?_toArray] at hj; exact hj)
  · rcases List.mem_cons.1 hu with rfl | hu
    · exact own_one2 h2
    · rw [List.mem_singleton.1 hu]; exact own_one2 h3
  have hfr : Frm A (fun t => t = 45) (fun _ => False) w w' := Frm.grownOwn h4 g2 rfl h7
  have hTT : ¬ ((22 : TypeId) = 45) := by decide
  refine (hK v' w' ⟨cs ++ [(v2, v3)], ?_, by simp [h5], (fun q hq ha => (g3 q hq).elim (fun e => h7 q e ha) (fun e => by have := hAw q ha; omega)), fun i g p hi hp => ?_⟩ g2 hfr (fun q hq => (h4.lt q hq).1))
  · rw [List.flatMap_append, List.length_append]; exact g1
  · by_cases hlt : i < fs.length
    · rw [List.getElem?_append_left hlt] at hi
      rw [List.getElem?_append_left (by omega)] at hp
      obtain ⟨e1, e2⟩ := h6 i g p hi hp
      exact ⟨e1.frm hfr hTT, e2.frm hfr hTT⟩
    · have e : i = fs.length := by
        have := (List.getElem?_eq_some_iff.1 hi).1
        simp at this; omega
      subst e
      obtain rfl : f = g := by simpa using hi
      rw [← h5] at hp
      obtain rfl : (v2, v3) = p := by simpa using hp
      exact ⟨h2.frm hfr hTT, h3.frm hfr hTT⟩
set_option maxHeartbeats 16000000 in
set_option maxRecDepth 100000 in
theorem RFacts_calls {A : Nat → Prop} (root : List UInt8) (B : Nat) (v : Value) (tk : List Nat) (p : Nat) (w : World) (hh : root.length = 32) (hB : B ≤ 32) (hI : IntsA w v tk) (hn : tk.length ≤ 1000000) (ht : ∀ x ∈ tk, x < 4294967296) (hp : p < 4294967296) (hAw : ∀ q, A q → q < w.heap.size) :
    Calls Try.prog 21 #[.agg (rcells root B v).toArray, .int .i64 p] w fun e w' => ∃ v', e = .returned v' ∧ RFactsOwn A w' w.heap.size v' (factsT root B tk p) ∧ Below w.heap.size w w' := by
  have hb0 : Below w.heap.size w (w.alloc (.cells (rcells root B v).toArray 33)) := below_alloc1 _ _
  have hA0 : Blk (w.alloc (.cells (rcells root B v).toArray 33)) w.heap.size (rcells root B v).toArray 33 := Blk.new _ _ _
  obtain ⟨tao, tc, rfl⟩ := hI.slice
  have HI := Lib.hid hI
  have HH := Lib.hid hh
  have HT := Lib.hid ht
  have HAW := Lib.hid hAw
  have hrl : (rcells root B (.slice tao tk.length tc)).length = 34 := rcells_len root B _ hh
  have HRL := Lib.hid hrl
  have nR : ¬ ((33 : TypeId) = 45) := by decide
  have nH : ¬ ((22 : TypeId) = 45) := by decide
  have NR := Lib.hid nR
  have NH := Lib.hid nH
  obtain ⟨FK, hFK⟩ : ∃ f : Nat → List FactT, f = factsK root B tk p := ⟨_, rfl⟩
  have hF0 : FK 0 = [] := by rw [hFK]; rfl
  have HF0 : Hid (∀ x, RFactsOwn A x w.heap.size (.slice none 0 0) (FK 0)) := fun x => by rw [hF0]; exact RFactsOwn.nil A x _
  have HFK := Lib.hid hFK
  have HLN : Hid (∀ n, (FK n).length ≤ n) := fun n => by rw [hFK]; exact factsK_len root B tk p n
  clear hI hh ht hAw hrl nR nH hF0 hFK
  go_enter Try.func21, Try.ntmps21
  go_wp2_with fail
  generalize w.alloc (.cells (rcells root B (.slice tao tk.length tc)).toArray 33) = W0 at hb0 hA0 ⊢
  have HX0 := Lib.hid hA0
  have HB0 := Lib.hid hb0
  clear hA0 hb0
  go_loopw [5, 6] (fun vv lv wr => ∃ (n : Nat), n ≤ B + 1 ∧ lv = .int .i64 n ∧ Hid (RFactsOwn A wr w.heap.size vv (FK n)) ∧ Hid (Blk wr w.heap.size (rcells root B (.slice tao tk.length tc)).toArray 33) ∧ Hid (Below w.heap.size w wr)) (fun _ lv _ => B + 1 - (intOf lv).toNat)
  case atStart => exact ⟨0, by omega, rfl, Lib.hid (HF0.out _), HX0, HB0⟩
  case round =>
    obtain ⟨n, hn1, rfl, hR, hX, hBB⟩ := hrel
    clear HX0 HB0 HF0
    have hcb := hX.out.cell 32 _ (rcells_bits root B _ HH.out)
    by_cases hnB : n ≤ B
    · obtain ⟨P, hP⟩ : ∃ P, P = 2 ^ (B - n) := ⟨_, rfl⟩
      have c1 : ∀ z, Calls Try.prog 77 #[.int .i64 ((B : Int) - (n : Int))] z fun e w' => e = .returned (.int .i64 (P : Nat)) ∧ Below z.heap.size z w' := by
        rw [hP, show ((B : Int) - (n : Int)) = ((B - n : Nat) : Int) by omega]; exact fun z => power_calls (B - n) z (by omega)
      have hP1 : 1 ≤ P := by rw [hP]; exact Nat.one_le_two_pow
      have hP2 : P ≤ 4294967296 := by rw [hP]; exact Nat.pow_le_pow_right (n := 2) (by omega) (show B - n ≤ 32 by omega)
      obtain ⟨q, hq⟩ : ∃ q, q = p / P := ⟨_, rfl⟩
      have hqz : (p : Int) / (P : Int) = (q : Int) := by rw [hq]; simp
      have hqb : q ≤ p := by rw [hq]; exact Nat.div_le_self _ _
      have HQ : Hid (p / 2 ^ (B - n) = q) := by show _ = _; rw [hq, hP]
      clear hP hq
      have hle : (n : Int) ≤ (B : Int) := by omega
      have hXb := hX.out
      have hBb := hBB.out
      clear hX hBB
      go_wp2_with fail
      have ltq3 : w.heap.size < wr.heap.size := hXb.lt
      refine (c1 _).mono ?_
      rintro e wq1 ⟨rfl, bq2⟩
      have hCq4 := hXb.below bq2 hXb.lt
      have hCq5 := Lib.hid (hR.out.below bq2)
      have hBq6 := hBb.trans (bq2.mono (hBb.size))
      clear hXb hR hBb
      clear bq2
      by_cases hnl : n < B
      · have hlb : decide ((n : Int) < (B : Int)) = true := by simp; omega
        have hlt2 : (n : Int) < (B : Int) := by omega
        by_cases hw : wholeT B tk n q = true
        · have HWH := Lib.hid hw
          have c2 : ∀ z, IntsA z (.slice tao tk.length tc) tk → Calls Try.prog 78 #[.agg (rcells root B (.slice tao tk.length tc)).toArray, .int .i64 n, .int .i64 q] z fun e w' => e = .returned (.bool true) ∧ Below z.heap.size z w' := fun z hz => by rw [← HWH.out]; exact RWhole_calls root B _ tk n q z HH.out hB (by omega) hz hn HT.out
          clear hw
          have hcbq7 := hCq4.cell 32 _ (rcells_bits root B _ HH.out)
          go_wp2_with ((with_reducible show wpList _ _ _ (⟨some 27, _, _, _, _, _⟩ :: _) _ _); refine wpList_if (by rfl) (wp_load_mid 33 (.tmp 2) rfl (w.heap.size) 0 (by rfl) (rcells root B (.slice tao tk.length tc)) _ (blk_rangeR hCq4) Try.underlying33 rfl (by rw [HRL.out]; exact Try.sizeR6) ?_))
          have ltq10 : w.heap.size < wq1.heap.size := hCq4.lt
          refine (c2 _ (HI.out.below hBq6)).mono ?_
          rintro e wq8 ⟨rfl, bq9⟩
          have hCq11 := hCq4.below bq9 hCq4.lt
          have hCq12 := Lib.hid (hCq5.out.below bq9)
          have hBq13 := hBq6.trans (bq9.mono (hBq6.size))
          clear hCq4 hCq5 hBq6
          clear bq9
          clear c2
          obtain ⟨s, hs⟩ : ∃ s, s = atD q n root := ⟨_, rfl⟩
          have HS : Hid (s.length = 32) := by show _ = _; rw [hs]; exact atD_len _ _ _ HH.out
          have HSQ := Lib.hid hs
          have c3 : ∀ z, Calls Try.prog 79 #[.agg (rcells root B (.slice tao tk.length tc)).toArray, .int .i64 n, .int .i64 q] z fun e w' => e = .returned (.agg (s.map bv).toArray) ∧ Below z.heap.size z w' := by rw [hs]; exact fun z => at_calls root B _ n q z HH.out (by omega) (by omega)
          clear hs
          go_wp2_with ((with_reducible show wpList _ _ _ (⟨some 33, _, _, _, _, _⟩ :: _) _ _); refine wpList_load_mid rfl 33 (.tmp 2) rfl (w.heap.size) 0 (by rfl) (rcells root B (.slice tao tk.length tc)) _ (blk_rangeR hCq11) Try.underlying33 rfl (by rw [HRL.out]; exact Try.sizeR6) ?_)
          have ltq16 : w.heap.size < wq8.heap.size := hCq11.lt
          refine (c3 _).mono ?_
          rintro e wq14 ⟨rfl, bq15⟩
          have hCq17 := hCq11.below bq15 hCq11.lt
          have hCq18 := Lib.hid (hCq12.out.below bq15)
          have hBq19 := hBq13.trans (bq15.mono (hBq13.size))
          clear hCq11 hCq12 hBq13
          clear bq15
          clear c3
          have hcbq20 := hCq17.cell 32 _ (rcells_bits root B _ HH.out)
          have hdd : ¬ (n : Int) = (B : Int) := by omega
          go_wp2_with (first | ((with_reducible show wpList _ _ _ (⟨some 8, _, _, _, _, _⟩ :: _) _ _); refine wpList_allocZ rfl 22 rfl _ Try.zeroA32 ?_; intro wq21 hsq22 baq23 hNq24) | ((with_reducible show wpList _ _ _ (⟨none, Op.store _ (.tmp 8) _, _, _, _, _⟩ :: _) _ _); refine wpList_storeBlk rfl 22 (.tmp 8) (.tmp 36) rfl (wq14.heap.size) ((s.map bv).toArray) (by rfl) (by rfl) _ _ hNq24 (by rw [bv_size, HS.out]; exact Try.sizeA32) (by rw [bv_size, HS.out, Z32_size]) (bv_all _) ?_; intro wq25 hKq26 gq27; have bbq28 := below_new baq23 gq27 (Nat.le_refl _) baq23.size; have ltq29 : w.heap.size < wq14.heap.size := hCq17.lt; have hCq30 := hCq17.below bbq28 hCq17.lt; have hCq31 := Lib.hid (hCq18.out.below bbq28); have hBq32 := hBq19.trans (bbq28.mono (hBq19.size)); clear hCq17 hCq18 hBq19; clear bbq28 baq23 hNq24 gq27 hsq22; have hcb8 := hCq30.cell 32 _ (rcells_bits root B _ HH.out)))
          have ltq33 : w.heap.size < wq25.heap.size := hCq30.lt
          have ltq34 : wq14.heap.size < wq25.heap.size := hKq26.lt
          obtain ⟨d0, hd0⟩ : ∃ k, k = downT false s := ⟨_, rfl⟩
          obtain ⟨d1, hd1⟩ : ∃ k, k = downT true s := ⟨_, rfl⟩
          have HD0 : Hid (d0.length = 32) := by show _ = _; rw [hd0]; exact downT_len _ _
          have HD1 : Hid (d1.length = 32) := by show _ = _; rw [hd1]; exact downT_len _ _
          have c4 : ∀ z, Calls Try.prog 81 #[.agg (s.map bv).toArray, .bool false] z fun e w' => e = .returned (.agg (d0.map bv).toArray) ∧ Below z.heap.size z w' := by rw [hd0]; exact fun z => down_calls s false z HS.out
          have c5 : ∀ z, Calls Try.prog 81 #[.agg (s.map bv).toArray, .bool true] z fun e w' => e = .returned (.agg (d1.map bv).toArray) ∧ Below z.heap.size z w' := by rw [hd1]; exact fun z => down_calls s true z HS.out
          have HFN : Hid (FK (n + 1) = FK n ++ [⟨[s], [d0, d1]⟩]) := by
            show _ = _
            rw [HFK.out, factsK, if_neg (by rw [skipT, HQ.out, HWH.out]; simp), factAt, if_neg (by omega), HQ.out, ← HSQ.out, hd0, hd1]
          clear hd0 hd1
          refine wp_region_held_drew (S := fun x => Blk x (wq14.heap.size) (s.map bv).toArray 22 ∧ Blk x (w.heap.size) (rcells root B (.slice tao tk.length tc)).toArray 33 ∧ Below w.heap.size w x) (by kernel_rfl) ⟨hKq26.drew, hCq30.drew, below_drewN hBq32 1⟩ (fun hSq35 => ?_)
          have hHq36 := Lib.hid (hCq31.out.drew)
          refine wpAnyH_take (i := 0) (v := u5) rfl (by kernel_rfl) (by kernel_rfl) (by kernel_rfl) (fun _ _ _ h => h) (Or.inl ⟨by rfl, fun x hx => by go_simp⟩) hSq35 ?_
          simp only [Act.put, List.getElem_toArray, List.getElem_cons_zero, List.getElem_cons_succ, List.setIfInBounds_toArray, List.set_cons_zero, List.set_cons_succ]
          refine wpAnyH_take (i := 1) rfl (by kernel_rfl) (by kernel_rfl) (by kernel_rfl) (fun _ _ _ h => h) (yieldsIf_load_mid (by rfl) 22 (.tmp 8) rfl (wq14.heap.size) 0 (by rfl) (s.map bv) _ (fun x hx => blk_rangeP hx.1) Try.underlying22 rfl (by rw [List.length_map, HS.out]; exact Try.sizeA32)) hSq35 ?_
          simp only [Act.put, List.getElem_toArray, List.getElem_cons_zero, List.getElem_cons_succ, List.setIfInBounds_toArray, List.set_cons_zero, List.set_cons_succ]
          refine wpAnyH_take (i := 3) rfl (by kernel_rfl) (by kernel_rfl) (by kernel_rfl) (fun _ _ _ h => h) (yieldsIf_load_mid (by rfl) 22 (.tmp 8) rfl (wq14.heap.size) 0 (by rfl) (s.map bv) _ (fun x hx => blk_rangeP hx.1) Try.underlying22 rfl (by rw [List.length_map, HS.out]; exact Try.sizeA32)) hSq35 ?_
          simp only [Act.put, List.getElem_toArray, List.getElem_cons_zero, List.getElem_cons_succ, List.setIfInBounds_toArray, List.set_cons_zero, List.set_cons_succ]
          refine wpAnyH_take (i := 5) rfl (by kernel_rfl) (by kernel_rfl) (by kernel_rfl) (fun _ _ _ h => h) (yieldsIf_load_mid (by rfl) 22 (.tmp 8) rfl (wq14.heap.size) 0 (by rfl) (s.map bv) _ (fun x hx => blk_rangeP hx.1) Try.underlying22 rfl (by rw [List.length_map, HS.out]; exact Try.sizeA32)) hSq35 ?_
          simp only [Act.put, List.getElem_toArray, List.getElem_cons_zero, List.getElem_cons_succ, List.setIfInBounds_toArray, List.set_cons_zero, List.set_cons_succ]
          refine wpAnyH_ready (rs := [2, 4]) (by kernel_rfl) (by simp) ?_
          refine AllReadyH.cons rfl (fun K hK => ?_) ?_
          · rw [if_pos (by rfl)]
            refine wp_bs32 43 22 (.tmp 52) rfl s HS.out (by rfl) Try.underlying43 Try.infoH2 ?_
            intro gq40 yq38 egq41 ezq42 bq37 hEq39
            have lgq43 : w.heap.size ≤ gq40 := by rw [egq41]; exact hSq35.2.2.size
            have lbq44 : wq14.heap.size < gq40 := by rw [egq41]; exact hSq35.1.lt
            have lbq45 : w.heap.size < gq40 := by rw [egq41]; exact hSq35.2.1.lt
            have hHq46 := Lib.hid (hHq36.out.below bq37)
            refine hK.out _ _ ⟨hSq35.1.below bq37 hSq35.1.lt, hSq35.2.1.below bq37 hSq35.2.1.lt, hSq35.2.2.trans (bq37.mono (hSq35.2.2.size))⟩ (fun hSq47 => ?_)
            clear hK K hSq35 bq37 egq41 ezq42
            refine wpAnyH_ready (rs := [4]) (by kernel_rfl) (by simp) ?_
            refine AllReadyH.cons rfl (fun K hK => ?_) AllReadyH.nil
            go_simp
            go_wp2_with (go_at_call 81; refine (c4 _).mono ?_; rintro e yq48 ⟨rfl, bq49⟩)
            have hEq50 := hEq39.below bq49 hEq39.lt
            have hHq51 := Lib.hid (hHq46.out.below bq49)
            refine hK.out _ _ ⟨hSq47.1.below bq49 hSq47.1.lt, hSq47.2.1.below bq49 hSq47.2.1.lt, hSq47.2.2.trans (bq49.mono (hSq47.2.2.size))⟩ (fun hSq52 => ?_)
            clear hK K hSq47 bq49
            refine wpAnyH_ready (rs := [6]) (by kernel_rfl) (by simp) ?_
            refine AllReadyH.cons rfl (fun K hK => ?_) AllReadyH.nil
            go_simp
            go_wp2_with (go_at_call 81; refine (c5 _).mono ?_; rintro e yq53 ⟨rfl, bq54⟩)
            have hEq55 := hEq50.below bq54 hEq50.lt
            have hHq56 := Lib.hid (hHq51.out.below bq54)
            refine hK.out _ _ ⟨hSq52.1.below bq54 hSq52.1.lt, hSq52.2.1.below bq54 hSq52.2.1.lt, hSq52.2.2.trans (bq54.mono (hSq52.2.2.size))⟩ (fun hSq57 => ?_)
            clear hK K hSq52 bq54
            refine wpAnyH_ready (rs := [7]) (by kernel_rfl) (by simp) ?_
            refine AllReadyH.cons rfl (fun K hK => ?_) AllReadyH.nil
            rw [if_pos (by rfl)]
            refine wp_bs64n 43 22 (.tmp 55) (.tmp 57) rfl d0 d1 HD0.out HD1.out (by rfl) (by rfl) Try.underlying43 Try.infoH2 ?_
            intro gq61 yq59 egq62 ezq63 bq58 hEq60
            have lgq64 : w.heap.size ≤ gq61 := by rw [egq62]; exact hSq57.2.2.size
            have lbq65 : wq14.heap.size < gq61 := by rw [egq62]; exact hSq57.1.lt
            have lbq66 : w.heap.size < gq61 := by rw [egq62]; exact hSq57.2.1.lt
            have hEq67 := hEq55.below bq58 hEq55.lt
            have hHq68 := Lib.hid (hHq56.out.below bq58)
            refine hK.out _ _ ⟨hSq57.1.below bq58 hSq57.1.lt, hSq57.2.1.below bq58 hSq57.2.1.lt, hSq57.2.2.trans (bq58.mono (hSq57.2.2.size))⟩ (fun hSq69 => ?_)
            clear hK K hSq57 bq58 egq62 ezq63
            refine wpAnyH_take (i := 8) (v := .agg #[.slice (some ⟨gq40, 0, none⟩) 1 1, .slice (some ⟨gq61, 0, none⟩) 2 2]) rfl (by kernel_rfl) (by kernel_rfl) (by kernel_rfl) (fun _ _ _ h => h) (Or.inl ⟨by rfl, fun x hx => by go_simp⟩) hSq69 ?_
            simp only [Act.put, List.getElem_toArray, List.getElem_cons_zero, List.getElem_cons_succ, List.setIfInBounds_toArray, List.set_cons_zero, List.set_cons_succ]
            refine wpAnyH_ready (rs := [9]) (by kernel_rfl) (by simp) ?_
            refine AllReadyH.cons rfl (fun K hK => ?_) AllReadyH.nil
            rw [if_pos (by rfl)]
            refine wp_bs2 39 45 (.tmp 59) rfl #[.slice (some ⟨gq40, 0, none⟩) 1 1, .slice (some ⟨gq61, 0, none⟩) 2 2] (by rfl) Try.underlying39 _ 2 Try.infoRF2 rfl (by omega) (by omega) ?_
            intro gq73 yq71 egq74 ezq75 bq70 hEq72
            have lgq76 : w.heap.size ≤ gq73 := by rw [egq74]; exact hSq69.2.2.size
            have lbq77 : wq14.heap.size < gq73 := by rw [egq74]; exact hSq69.1.lt
            have lbq78 : w.heap.size < gq73 := by rw [egq74]; exact hSq69.2.1.lt
            have hEq79 := hEq67.below bq70 hEq67.lt
            have hEq80 := hEq60.below bq70 hEq60.lt
            have hHq81 := Lib.hid (hHq68.out.below bq70)
            refine hK.out _ _ ⟨hSq69.1.below bq70 hSq69.1.lt, hSq69.2.1.below bq70 hSq69.2.1.lt, hSq69.2.2.trans (bq70.mono (hSq69.2.2.size))⟩ (fun hSq82 => ?_)
            clear hK K hSq69 bq70 egq74 ezq75
            refine wpAnyH_ready (rs := [10]) (by kernel_rfl) (by simp) ?_
            refine AllReadyH.cons rfl (fun K hK => ?_) AllReadyH.nil
            rw [if_pos (by rfl)]
            refine wp_rfAppend (.tmp 51) (.tmp 60) 39 rfl Try.underlying39 Try.infoRF3 w.heap.size (FK n) ⟨[s], [d0, d1]⟩ _ (by rfl) hHq81.out _ _ (HashOwn.oneB hEq79 HS.out lgq43) (HashOwn.twoB hEq80 HD0.out HD1.out lgq64) gq73 1 (by rfl) 45 hEq72 (Nat.le_trans (HLN.out n) (by omega)) hSq82.2.2.size (fun q h => Nat.lt_of_lt_of_le (HAW.out q h) hSq82.2.2.size) ?_
            intro vq83 wq84 hvq85 gq86 frq87 hqq88
            refine hK.out _ _ ⟨hSq82.1.frm frq87 NH.out, hSq82.2.1.frm frq87 NR.out, hSq82.2.2.grown gq86 hSq82.2.2.size (fun q e => hqq88 q e)⟩ (fun hSq89 => ?_)
            clear hK K hSq82 gq86 frq87 hqq88
            have Hvq83 := Lib.hid hvq85
            clear hvq85
            refine wpAnyH_ready (rs := [11]) (by kernel_rfl) (by simp) ?_
            refine AllReadyH.cons rfl (fun K hK => ?_) AllReadyH.nil
            go_simp
            refine hK.out _ _ hSq89 (fun hSq90 => ?_)
            clear hK K hSq89
            refine wpAnyH_done (by kernel_rfl) ?_ _
            go_wp2_with fail
            go_roundw
            case rel => exact ⟨n + 1, by omega, by go_num, Lib.hid (by rw [HFN.out]; exact Hvq83.out), Lib.hid hSq90.2.1, Lib.hid hSq90.2.2⟩
            case measure => simp [intOf]; omega
          refine AllReadyH.cons rfl (fun K hK => ?_) AllReadyH.nil
          go_simp
          go_wp2_with (go_at_call 81; refine (c4 _).mono ?_; rintro e yq91 ⟨rfl, bq92⟩)
          have hHq93 := Lib.hid (hHq36.out.below bq92)
          refine hK.out _ _ ⟨hSq35.1.below bq92 hSq35.1.lt, hSq35.2.1.below bq92 hSq35.2.1.lt, hSq35.2.2.trans (bq92.mono (hSq35.2.2.size))⟩ (fun hSq94 => ?_)
          clear hK K hSq35 bq92
          refine wpAnyH_ready (rs := [2, 6]) (by kernel_rfl) (by simp) ?_
          refine AllReadyH.cons rfl (fun K hK => ?_) ?_
          · rw [if_pos (by rfl)]
            refine wp_bs32 43 22 (.tmp 52) rfl s HS.out (by rfl) Try.underlying43 Try.infoH2 ?_
            intro gq98 yq96 egq99 ezq100 bq95 hEq97
            have lgq101 : w.heap.size ≤ gq98 := by rw [egq99]; exact hSq94.2.2.size
            have lbq102 : wq14.heap.size < gq98 := by rw [egq99]; exact hSq94.1.lt
            have lbq103 : w.heap.size < gq98 := by rw [egq99]; exact hSq94.2.1.lt
            have hHq104 := Lib.hid (hHq93.out.below bq95)
            refine hK.out _ _ ⟨hSq94.1.below bq95 hSq94.1.lt, hSq94.2.1.below bq95 hSq94.2.1.lt, hSq94.2.2.trans (bq95.mono (hSq94.2.2.size))⟩ (fun hSq105 => ?_)
            clear hK K hSq94 bq95 egq99 ezq100
            refine wpAnyH_ready (rs := [6]) (by kernel_rfl) (by simp) ?_
            refine AllReadyH.cons rfl (fun K hK => ?_) AllReadyH.nil
            go_simp
            go_wp2_with (go_at_call 81; refine (c5 _).mono ?_; rintro e yq106 ⟨rfl, bq107⟩)
            have hEq108 := hEq97.below bq107 hEq97.lt
            have hHq109 := Lib.hid (hHq104.out.below bq107)
            refine hK.out _ _ ⟨hSq105.1.below bq107 hSq105.1.lt, hSq105.2.1.below bq107 hSq105.2.1.lt, hSq105.2.2.trans (bq107.mono (hSq105.2.2.size))⟩ (fun hSq110 => ?_)
            clear hK K hSq105 bq107
            refine wpAnyH_ready (rs := [7]) (by kernel_rfl) (by simp) ?_
            refine AllReadyH.cons rfl (fun K hK => ?_) AllReadyH.nil
            rw [if_pos (by rfl)]
            refine wp_bs64n 43 22 (.tmp 55) (.tmp 57) rfl d0 d1 HD0.out HD1.out (by rfl) (by rfl) Try.underlying43 Try.infoH2 ?_
            intro gq114 yq112 egq115 ezq116 bq111 hEq113
            have lgq117 : w.heap.size ≤ gq114 := by rw [egq115]; exact hSq110.2.2.size
            have lbq118 : wq14.heap.size < gq114 := by rw [egq115]; exact hSq110.1.lt
            have lbq119 : w.heap.size < gq114 := by rw [egq115]; exact hSq110.2.1.lt
            have hEq120 := hEq108.below bq111 hEq108.lt
            have hHq121 := Lib.hid (hHq109.out.below bq111)
            refine hK.out _ _ ⟨hSq110.1.below bq111 hSq110.1.lt, hSq110.2.1.below bq111 hSq110.2.1.lt, hSq110.2.2.trans (bq111.mono (hSq110.2.2.size))⟩ (fun hSq122 => ?_)
            clear hK K hSq110 bq111 egq115 ezq116
            refine wpAnyH_take (i := 8) (v := .agg #[.slice (some ⟨gq98, 0, none⟩) 1 1, .slice (some ⟨gq114, 0, none⟩) 2 2]) rfl (by kernel_rfl) (by kernel_rfl) (by kernel_rfl) (fun _ _ _ h => h) (Or.inl ⟨by rfl, fun x hx => by go_simp⟩) hSq122 ?_
            simp only [Act.put, List.getElem_toArray, List.getElem_cons_zero, List.getElem_cons_succ, List.setIfInBounds_toArray, List.set_cons_zero, List.set_cons_succ]
            refine wpAnyH_ready (rs := [9]) (by kernel_rfl) (by simp) ?_
            refine AllReadyH.cons rfl (fun K hK => ?_) AllReadyH.nil
            rw [if_pos (by rfl)]
            refine wp_bs2 39 45 (.tmp 59) rfl #[.slice (some ⟨gq98, 0, none⟩) 1 1, .slice (some ⟨gq114, 0, none⟩) 2 2] (by rfl) Try.underlying39 _ 2 Try.infoRF2 rfl (by omega) (by omega) ?_
            intro gq126 yq124 egq127 ezq128 bq123 hEq125
            have lgq129 : w.heap.size ≤ gq126 := by rw [egq127]; exact hSq122.2.2.size
            have lbq130 : wq14.heap.size < gq126 := by rw [egq127]; exact hSq122.1.lt
            have lbq131 : w.heap.size < gq126 := by rw [egq127]; exact hSq122.2.1.lt
            have hEq132 := hEq120.below bq123 hEq120.lt
            have hEq133 := hEq113.below bq123 hEq113.lt
            have hHq134 := Lib.hid (hHq121.out.below bq123)
            refine hK.out _ _ ⟨hSq122.1.below bq123 hSq122.1.lt, hSq122.2.1.below bq123 hSq122.2.1.lt, hSq122.2.2.trans (bq123.mono (hSq122.2.2.size))⟩ (fun hSq135 => ?_)
            clear hK K hSq122 bq123 egq127 ezq128
            refine wpAnyH_ready (rs := [10]) (by kernel_rfl) (by simp) ?_
            refine AllReadyH.cons rfl (fun K hK => ?_) AllReadyH.nil
            rw [if_pos (by rfl)]
            refine wp_rfAppend (.tmp 51) (.tmp 60) 39 rfl Try.underlying39 Try.infoRF3 w.heap.size (FK n) ⟨[s], [d0, d1]⟩ _ (by rfl) hHq134.out _ _ (HashOwn.oneB hEq132 HS.out lgq101) (HashOwn.twoB hEq133 HD0.out HD1.out lgq117) gq126 1 (by rfl) 45 hEq125 (Nat.le_trans (HLN.out n) (by omega)) hSq135.2.2.size (fun q h => Nat.lt_of_lt_of_le (HAW.out q h) hSq135.2.2.size) ?_
            intro vq136 wq137 hvq138 gq139 frq140 hqq141
            refine hK.out _ _ ⟨hSq135.1.frm frq140 NH.out, hSq135.2.1.frm frq140 NR.out, hSq135.2.2.grown gq139 hSq135.2.2.size (fun q e => hqq141 q e)⟩ (fun hSq142 => ?_)
            clear hK K hSq135 gq139 frq140 hqq141
            have Hvq136 := Lib.hid hvq138
            clear hvq138
            refine wpAnyH_ready (rs := [11]) (by kernel_rfl) (by simp) ?_
            refine AllReadyH.cons rfl (fun K hK => ?_) AllReadyH.nil
            go_simp
            refine hK.out _ _ hSq142 (fun hSq143 => ?_)
            clear hK K hSq142
            refine wpAnyH_done (by kernel_rfl) ?_ _
            go_wp2_with fail
            go_roundw
            case rel => exact ⟨n + 1, by omega, by go_num, Lib.hid (by rw [HFN.out]; exact Hvq136.out), Lib.hid hSq143.2.1, Lib.hid hSq143.2.2⟩
            case measure => simp [intOf]; omega
          refine AllReadyH.cons rfl (fun K hK => ?_) AllReadyH.nil
          go_simp
          go_wp2_with (go_at_call 81; refine (c5 _).mono ?_; rintro e yq144 ⟨rfl, bq145⟩)
          have hHq146 := Lib.hid (hHq93.out.below bq145)
          refine hK.out _ _ ⟨hSq94.1.below bq145 hSq94.1.lt, hSq94.2.1.below bq145 hSq94.2.1.lt, hSq94.2.2.trans (bq145.mono (hSq94.2.2.size))⟩ (fun hSq147 => ?_)
          clear hK K hSq94 bq145
          refine wpAnyH_ready (rs := [2, 7]) (by kernel_rfl) (by simp) ?_
          refine AllReadyH.cons rfl (fun K hK => ?_) ?_
          · rw [if_pos (by rfl)]
            refine wp_bs32 43 22 (.tmp 52) rfl s HS.out (by rfl) Try.underlying43 Try.infoH2 ?_
            intro gq151 yq149 egq152 ezq153 bq148 hEq150
            have lgq154 : w.heap.size ≤ gq151 := by rw [egq152]; exact hSq147.2.2.size
            have lbq155 : wq14.heap.size < gq151 := by rw [egq152]; exact hSq147.1.lt
            have lbq156 : w.heap.size < gq151 := by rw [egq152]; exact hSq147.2.1.lt
            have hHq157 := Lib.hid (hHq146.out.below bq148)
            refine hK.out _ _ ⟨hSq147.1.below bq148 hSq147.1.lt, hSq147.2.1.below bq148 hSq147.2.1.lt, hSq147.2.2.trans (bq148.mono (hSq147.2.2.size))⟩ (fun hSq158 => ?_)
            clear hK K hSq147 bq148 egq152 ezq153
            refine wpAnyH_ready (rs := [7]) (by kernel_rfl) (by simp) ?_
            refine AllReadyH.cons rfl (fun K hK => ?_) AllReadyH.nil
            rw [if_pos (by rfl)]
            refine wp_bs64n 43 22 (.tmp 55) (.tmp 57) rfl d0 d1 HD0.out HD1.out (by rfl) (by rfl) Try.underlying43 Try.infoH2 ?_
            intro gq162 yq160 egq163 ezq164 bq159 hEq161
            have lgq165 : w.heap.size ≤ gq162 := by rw [egq163]; exact hSq158.2.2.size
            have lbq166 : wq14.heap.size < gq162 := by rw [egq163]; exact hSq158.1.lt
            have lbq167 : w.heap.size < gq162 := by rw [egq163]; exact hSq158.2.1.lt
            have hEq168 := hEq150.below bq159 hEq150.lt
            have hHq169 := Lib.hid (hHq157.out.below bq159)
            refine hK.out _ _ ⟨hSq158.1.below bq159 hSq158.1.lt, hSq158.2.1.below bq159 hSq158.2.1.lt, hSq158.2.2.trans (bq159.mono (hSq158.2.2.size))⟩ (fun hSq170 => ?_)
            clear hK K hSq158 bq159 egq163 ezq164
            refine wpAnyH_take (i := 8) (v := .agg #[.slice (some ⟨gq151, 0, none⟩) 1 1, .slice (some ⟨gq162, 0, none⟩) 2 2]) rfl (by kernel_rfl) (by kernel_rfl) (by kernel_rfl) (fun _ _ _ h => h) (Or.inl ⟨by rfl, fun x hx => by go_simp⟩) hSq170 ?_
            simp only [Act.put, List.getElem_toArray, List.getElem_cons_zero, List.getElem_cons_succ, List.setIfInBounds_toArray, List.set_cons_zero, List.set_cons_succ]
            refine wpAnyH_ready (rs := [9]) (by kernel_rfl) (by simp) ?_
            refine AllReadyH.cons rfl (fun K hK => ?_) AllReadyH.nil
            rw [if_pos (by rfl)]
            refine wp_bs2 39 45 (.tmp 59) rfl #[.slice (some ⟨gq151, 0, none⟩) 1 1, .slice (some ⟨gq162, 0, none⟩) 2 2] (by rfl) Try.underlying39 _ 2 Try.infoRF2 rfl (by omega) (by omega) ?_
            intro gq174 yq172 egq175 ezq176 bq171 hEq173
            have lgq177 : w.heap.size ≤ gq174 := by rw [egq175]; exact hSq170.2.2.size
            have lbq178 : wq14.heap.size < gq174 := by rw [egq175]; exact hSq170.1.lt
            have lbq179 : w.heap.size < gq174 := by rw [egq175]; exact hSq170.2.1.lt
            have hEq180 := hEq168.below bq171 hEq168.lt
            have hEq181 := hEq161.below bq171 hEq161.lt
            have hHq182 := Lib.hid (hHq169.out.below bq171)
            refine hK.out _ _ ⟨hSq170.1.below bq171 hSq170.1.lt, hSq170.2.1.below bq171 hSq170.2.1.lt, hSq170.2.2.trans (bq171.mono (hSq170.2.2.size))⟩ (fun hSq183 => ?_)
            clear hK K hSq170 bq171 egq175 ezq176
            refine wpAnyH_ready (rs := [10]) (by kernel_rfl) (by simp) ?_
            refine AllReadyH.cons rfl (fun K hK => ?_) AllReadyH.nil
            rw [if_pos (by rfl)]
            refine wp_rfAppend (.tmp 51) (.tmp 60) 39 rfl Try.underlying39 Try.infoRF3 w.heap.size (FK n) ⟨[s], [d0, d1]⟩ _ (by rfl) hHq182.out _ _ (HashOwn.oneB hEq180 HS.out lgq154) (HashOwn.twoB hEq181 HD0.out HD1.out lgq165) gq174 1 (by rfl) 45 hEq173 (Nat.le_trans (HLN.out n) (by omega)) hSq183.2.2.size (fun q h => Nat.lt_of_lt_of_le (HAW.out q h) hSq183.2.2.size) ?_
            intro vq184 wq185 hvq186 gq187 frq188 hqq189
            refine hK.out _ _ ⟨hSq183.1.frm frq188 NH.out, hSq183.2.1.frm frq188 NR.out, hSq183.2.2.grown gq187 hSq183.2.2.size (fun q e => hqq189 q e)⟩ (fun hSq190 => ?_)
            clear hK K hSq183 gq187 frq188 hqq189
            have Hvq184 := Lib.hid hvq186
            clear hvq186
            refine wpAnyH_ready (rs := [11]) (by kernel_rfl) (by simp) ?_
            refine AllReadyH.cons rfl (fun K hK => ?_) AllReadyH.nil
            go_simp
            refine hK.out _ _ hSq190 (fun hSq191 => ?_)
            clear hK K hSq190
            refine wpAnyH_done (by kernel_rfl) ?_ _
            go_wp2_with fail
            go_roundw
            case rel => exact ⟨n + 1, by omega, by go_num, Lib.hid (by rw [HFN.out]; exact Hvq184.out), Lib.hid hSq191.2.1, Lib.hid hSq191.2.2⟩
            case measure => simp [intOf]; omega
          refine AllReadyH.cons rfl (fun K hK => ?_) AllReadyH.nil
          rw [if_pos (by rfl)]
          refine wp_bs64n 43 22 (.tmp 55) (.tmp 57) rfl d0 d1 HD0.out HD1.out (by rfl) (by rfl) Try.underlying43 Try.infoH2 ?_
          intro gq195 yq193 egq196 ezq197 bq192 hEq194
          have lgq198 : w.heap.size ≤ gq195 := by rw [egq196]; exact hSq147.2.2.size
          have lbq199 : wq14.heap.size < gq195 := by rw [egq196]; exact hSq147.1.lt
          have lbq200 : w.heap.size < gq195 := by rw [egq196]; exact hSq147.2.1.lt
          have hHq201 := Lib.hid (hHq146.out.below bq192)
          refine hK.out _ _ ⟨hSq147.1.below bq192 hSq147.1.lt, hSq147.2.1.below bq192 hSq147.2.1.lt, hSq147.2.2.trans (bq192.mono (hSq147.2.2.size))⟩ (fun hSq202 => ?_)
          clear hK K hSq147 bq192 egq196 ezq197
          refine wpAnyH_ready (rs := [2]) (by kernel_rfl) (by simp) ?_
          refine AllReadyH.cons rfl (fun K hK => ?_) AllReadyH.nil
          rw [if_pos (by rfl)]
          refine wp_bs32 43 22 (.tmp 52) rfl s HS.out (by rfl) Try.underlying43 Try.infoH2 ?_
          intro gq206 yq204 egq207 ezq208 bq203 hEq205
          have lgq209 : w.heap.size ≤ gq206 := by rw [egq207]; exact hSq202.2.2.size
          have lbq210 : wq14.heap.size < gq206 := by rw [egq207]; exact hSq202.1.lt
          have lbq211 : w.heap.size < gq206 := by rw [egq207]; exact hSq202.2.1.lt
          have hEq212 := hEq194.below bq203 hEq194.lt
          have hHq213 := Lib.hid (hHq201.out.below bq203)
          refine hK.out _ _ ⟨hSq202.1.below bq203 hSq202.1.lt, hSq202.2.1.below bq203 hSq202.2.1.lt, hSq202.2.2.trans (bq203.mono (hSq202.2.2.size))⟩ (fun hSq214 => ?_)
          clear hK K hSq202 bq203 egq207 ezq208
          refine wpAnyH_take (i := 8) (v := .agg #[.slice (some ⟨gq206, 0, none⟩) 1 1, .slice (some ⟨gq195, 0, none⟩) 2 2]) rfl (by kernel_rfl) (by kernel_rfl) (by kernel_rfl) (fun _ _ _ h => h) (Or.inl ⟨by rfl, fun x hx => by go_simp⟩) hSq214 ?_
          simp only [Act.put, List.getElem_toArray, List.getElem_cons_zero, List.getElem_cons_succ, List.setIfInBounds_toArray, List.set_cons_zero, List.set_cons_succ]
          refine wpAnyH_ready (rs := [9]) (by kernel_rfl) (by simp) ?_
          refine AllReadyH.cons rfl (fun K hK => ?_) AllReadyH.nil
          rw [if_pos (by rfl)]
          refine wp_bs2 39 45 (.tmp 59) rfl #[.slice (some ⟨gq206, 0, none⟩) 1 1, .slice (some ⟨gq195, 0, none⟩) 2 2] (by rfl) Try.underlying39 _ 2 Try.infoRF2 rfl (by omega) (by omega) ?_
          intro gq218 yq216 egq219 ezq220 bq215 hEq217
          have lgq221 : w.heap.size ≤ gq218 := by rw [egq219]; exact hSq214.2.2.size
          have lbq222 : wq14.heap.size < gq218 := by rw [egq219]; exact hSq214.1.lt
          have lbq223 : w.heap.size < gq218 := by rw [egq219]; exact hSq214.2.1.lt
          have hEq224 := hEq212.below bq215 hEq212.lt
          have hEq225 := hEq205.below bq215 hEq205.lt
          have hHq226 := Lib.hid (hHq213.out.below bq215)
          refine hK.out _ _ ⟨hSq214.1.below bq215 hSq214.1.lt, hSq214.2.1.below bq215 hSq214.2.1.lt, hSq214.2.2.trans (bq215.mono (hSq214.2.2.size))⟩ (fun hSq227 => ?_)
          clear hK K hSq214 bq215 egq219 ezq220
          refine wpAnyH_ready (rs := [10]) (by kernel_rfl) (by simp) ?_
          refine AllReadyH.cons rfl (fun K hK => ?_) AllReadyH.nil
          rw [if_pos (by rfl)]
          refine wp_rfAppend (.tmp 51) (.tmp 60) 39 rfl Try.underlying39 Try.infoRF3 w.heap.size (FK n) ⟨[s], [d0, d1]⟩ _ (by rfl) hHq226.out _ _ (HashOwn.oneB hEq225 HS.out lgq209) (HashOwn.twoB hEq224 HD0.out HD1.out lgq198) gq218 1 (by rfl) 45 hEq217 (Nat.le_trans (HLN.out n) (by omega)) hSq227.2.2.size (fun q h => Nat.lt_of_lt_of_le (HAW.out q h) hSq227.2.2.size) ?_
          intro vq228 wq229 hvq230 gq231 frq232 hqq233
          refine hK.out _ _ ⟨hSq227.1.frm frq232 NH.out, hSq227.2.1.frm frq232 NR.out, hSq227.2.2.grown gq231 hSq227.2.2.size (fun q e => hqq233 q e)⟩ (fun hSq234 => ?_)
          clear hK K hSq227 gq231 frq232 hqq233
          have Hvq228 := Lib.hid hvq230
          clear hvq230
          refine wpAnyH_ready (rs := [11]) (by kernel_rfl) (by simp) ?_
          refine AllReadyH.cons rfl (fun K hK => ?_) AllReadyH.nil
          go_simp
          refine hK.out _ _ hSq234 (fun hSq235 => ?_)
          clear hK K hSq234
          refine wpAnyH_done (by kernel_rfl) ?_ _
          go_wp2_with fail
          go_roundw
          case rel => exact ⟨n + 1, by omega, by go_num, Lib.hid (by rw [HFN.out]; exact Hvq228.out), Lib.hid hSq235.2.1, Lib.hid hSq235.2.2⟩
          case measure => simp [intOf]; omega
        · have hw0 : wholeT B tk n q = false := by simpa using hw
          have HWH := Lib.hid hw0
          clear hw0
          have c2 : ∀ z, IntsA z (.slice tao tk.length tc) tk → Calls Try.prog 78 #[.agg (rcells root B (.slice tao tk.length tc)).toArray, .int .i64 n, .int .i64 q] z fun e w' => e = .returned (.bool false) ∧ Below z.heap.size z w' := fun z hz => by rw [← HWH.out]; exact RWhole_calls root B _ tk n q z HH.out hB (by omega) hz hn HT.out
          clear hw
          have hcbq236 := hCq4.cell 32 _ (rcells_bits root B _ HH.out)
          go_wp2_with ((with_reducible show wpList _ _ _ (⟨some 27, _, _, _, _, _⟩ :: _) _ _); refine wpList_if (by rfl) (wp_load_mid 33 (.tmp 2) rfl (w.heap.size) 0 (by rfl) (rcells root B (.slice tao tk.length tc)) _ (blk_rangeR hCq4) Try.underlying33 rfl (by rw [HRL.out]; exact Try.sizeR6) ?_))
          have ltq239 : w.heap.size < wq1.heap.size := hCq4.lt
          refine (c2 _ (HI.out.below hBq6)).mono ?_
          rintro e wq237 ⟨rfl, bq238⟩
          have hCq240 := hCq4.below bq238 hCq4.lt
          have hCq241 := Lib.hid (hCq5.out.below bq238)
          have hBq242 := hBq6.trans (bq238.mono (hBq6.size))
          clear hCq4 hCq5 hBq6
          clear bq238
          clear c2
          go_wp2_with fail
          have HFN : Hid (FK (n + 1) = FK n) := by
            show _ = _
            rw [HFK.out, factsK, if_pos (by rw [skipT, HQ.out, HWH.out]; simp; omega)]
          go_roundw
          case rel => exact ⟨n + 1, by omega, by go_num, Lib.hid (by rw [HFN.out]; exact hCq241.out), Lib.hid hCq240, Lib.hid hBq242⟩
          case measure => simp [intOf]; omega
      · have hlb : decide ((n : Int) < (B : Int)) = false := by simp; omega
        have hlt2 : ¬ (n : Int) < (B : Int) := by omega
        have hcbq243 := hCq4.cell 32 _ (rcells_bits root B _ HH.out)
        obtain ⟨s, hs⟩ : ∃ s, s = atD q n root := ⟨_, rfl⟩
        have HS : Hid (s.length = 32) := by show _ = _; rw [hs]; exact atD_len _ _ _ HH.out
        have HSQ := Lib.hid hs
        have c3 : ∀ z, Calls Try.prog 79 #[.agg (rcells root B (.slice tao tk.length tc)).toArray, .int .i64 n, .int .i64 q] z fun e w' => e = .returned (.agg (s.map bv).toArray) ∧ Below z.heap.size z w' := by rw [hs]; exact fun z => at_calls root B _ n q z HH.out (by omega) (by omega)
        clear hs
        go_wp2_with ((with_reducible show wpList _ _ _ (⟨some 33, _, _, _, _, _⟩ :: _) _ _); refine wpList_load_mid rfl 33 (.tmp 2) rfl (w.heap.size) 0 (by rfl) (rcells root B (.slice tao tk.length tc)) _ (blk_rangeR hCq4) Try.underlying33 rfl (by rw [HRL.out]; exact Try.sizeR6) ?_)
        have ltq246 : w.heap.size < wq1.heap.size := hCq4.lt
        refine (c3 _).mono ?_
        rintro e wq244 ⟨rfl, bq245⟩
        have hCq247 := hCq4.below bq245 hCq4.lt
        have hCq248 := Lib.hid (hCq5.out.below bq245)
        have hBq249 := hBq6.trans (bq245.mono (hBq6.size))
        clear hCq4 hCq5 hBq6
        clear bq245
        clear c3
        have hcbq250 := hCq247.cell 32 _ (rcells_bits root B _ HH.out)
        have hdd : (n : Int) = (B : Int) := by omega
        go_wp2_with (first | ((with_reducible show wpList _ _ _ (⟨some 8, _, _, _, _, _⟩ :: _) _ _); refine wpList_allocZ rfl 22 rfl _ Try.zeroA32 ?_; intro wq251 hsq252 baq253 hNq254) | ((with_reducible show wpList _ _ _ (⟨none, Op.store _ (.tmp 8) _, _, _, _, _⟩ :: _) _ _); refine wpList_storeBlk rfl 22 (.tmp 8) (.tmp 36) rfl (wq244.heap.size) ((s.map bv).toArray) (by rfl) (by rfl) _ _ hNq254 (by rw [bv_size, HS.out]; exact Try.sizeA32) (by rw [bv_size, HS.out, Z32_size]) (bv_all _) ?_; intro wq255 hKq256 gq257; have bbq258 := below_new baq253 gq257 (Nat.le_refl _) baq253.size; have ltq259 : w.heap.size < wq244.heap.size := hCq247.lt; have hCq260 := hCq247.below bbq258 hCq247.lt; have hCq261 := Lib.hid (hCq248.out.below bbq258); have hBq262 := hBq249.trans (bbq258.mono (hBq249.size)); clear hCq247 hCq248 hBq249; clear bbq258 baq253 hNq254 gq257 hsq252; have hcb8 := hCq260.cell 32 _ (rcells_bits root B _ HH.out)))
        have ltq263 : w.heap.size < wq255.heap.size := hCq260.lt
        have ltq264 : wq244.heap.size < wq255.heap.size := hKq256.lt
        obtain ⟨k, hk⟩ : ∃ k, k = keyT (atD p B root) := ⟨_, rfl⟩
        have HK : Hid (k.length = 32) := by show _ = _; rw [hk]; exact keyT_len _
        have c4 : ∀ z, Calls Try.prog 80 #[.agg (rcells root B (.slice tao tk.length tc)).toArray, .int .i64 p] z fun e w' => e = .returned (.agg (k.map bv).toArray) ∧ Below z.heap.size z w' := by rw [hk]; exact fun z => RKey_calls root B _ p z HH.out (by omega) (by omega)
        have HFN : Hid (FK (n + 1) = FK n ++ [⟨[s], [k]⟩]) := by
          show _ = _
          obtain rfl : n = B := by omega
          rw [HFK.out, factsK, if_neg (by simp [skipT]), factAt, if_pos rfl, HQ.out, ← HSQ.out, hk]
        clear hk
        refine wp_region_held_drew (S := fun x => Blk x (wq244.heap.size) (s.map bv).toArray 22 ∧ Blk x (w.heap.size) (rcells root B (.slice tao tk.length tc)).toArray 33 ∧ Below w.heap.size w x) (by kernel_rfl) ⟨hKq256.drew, hCq260.drew, below_drewN hBq262 1⟩ (fun hSq265 => ?_)
        have hHq266 := Lib.hid (hCq261.out.drew)
        refine wpAnyH_take (i := 0) (v := u5) rfl (by kernel_rfl) (by kernel_rfl) (by kernel_rfl) (fun _ _ _ h => h) (Or.inl ⟨by rfl, fun x hx => by go_simp⟩) hSq265 ?_
        simp only [Act.put, List.getElem_toArray, List.getElem_cons_zero, List.getElem_cons_succ, List.setIfInBounds_toArray, List.set_cons_zero, List.set_cons_succ]
        refine wpAnyH_take (i := 1) rfl (by kernel_rfl) (by kernel_rfl) (by kernel_rfl) (fun _ _ _ h => h) (yieldsIf_load_mid (by rfl) 22 (.tmp 8) rfl (wq244.heap.size) 0 (by rfl) (s.map bv) _ (fun x hx => blk_rangeP hx.1) Try.underlying22 rfl (by rw [List.length_map, HS.out]; exact Try.sizeA32)) hSq265 ?_
        simp only [Act.put, List.getElem_toArray, List.getElem_cons_zero, List.getElem_cons_succ, List.setIfInBounds_toArray, List.set_cons_zero, List.set_cons_succ]
        refine wpAnyH_take (i := 3) rfl (by kernel_rfl) (by kernel_rfl) (by kernel_rfl) (fun _ _ _ h => h) (yieldsIf_load_mid (by rfl) 33 (.tmp 2) rfl (w.heap.size) 0 (by rfl) (rcells root B (.slice tao tk.length tc)) _ (fun x hx => blk_rangeR hx.2.1) Try.underlying33 rfl (by rw [HRL.out]; exact Try.sizeR6)) hSq265 ?_
        simp only [Act.put, List.getElem_toArray, List.getElem_cons_zero, List.getElem_cons_succ, List.setIfInBounds_toArray, List.set_cons_zero, List.set_cons_succ]
        refine wpAnyH_take (i := 4) (v := .int .i64 p) rfl (by kernel_rfl) (by kernel_rfl) (by kernel_rfl) (fun _ _ _ h => h) (Or.inl ⟨by rfl, fun x hx => by go_simp⟩) hSq265 ?_
        simp only [Act.put, List.getElem_toArray, List.getElem_cons_zero, List.getElem_cons_succ, List.setIfInBounds_toArray, List.set_cons_zero, List.set_cons_succ]
        refine wpAnyH_ready (rs := [2, 5]) (by kernel_rfl) (by simp) ?_
        refine AllReadyH.cons rfl (fun K hK => ?_) ?_
        · rw [if_pos (by rfl)]
          refine wp_bs32 43 22 (.tmp 42) rfl s HS.out (by rfl) Try.underlying43 Try.infoH2 ?_
          intro gq270 yq268 egq271 ezq272 bq267 hEq269
          have lgq273 : w.heap.size ≤ gq270 := by rw [egq271]; exact hSq265.2.2.size
          have lbq274 : wq244.heap.size < gq270 := by rw [egq271]; exact hSq265.1.lt
          have lbq275 : w.heap.size < gq270 := by rw [egq271]; exact hSq265.2.1.lt
          have hHq276 := Lib.hid (hHq266.out.below bq267)
          refine hK.out _ _ ⟨hSq265.1.below bq267 hSq265.1.lt, hSq265.2.1.below bq267 hSq265.2.1.lt, hSq265.2.2.trans (bq267.mono (hSq265.2.2.size))⟩ (fun hSq277 => ?_)
          clear hK K hSq265 bq267 egq271 ezq272
          refine wpAnyH_ready (rs := [5]) (by kernel_rfl) (by simp) ?_
          refine AllReadyH.cons rfl (fun K hK => ?_) AllReadyH.nil
          go_simp
          go_wp2_with (go_at_call 80; refine (c4 _).mono ?_; rintro e yq278 ⟨rfl, bq279⟩)
          have hEq280 := hEq269.below bq279 hEq269.lt
          have hHq281 := Lib.hid (hHq276.out.below bq279)
          refine hK.out _ _ ⟨hSq277.1.below bq279 hSq277.1.lt, hSq277.2.1.below bq279 hSq277.2.1.lt, hSq277.2.2.trans (bq279.mono (hSq277.2.2.size))⟩ (fun hSq282 => ?_)
          clear hK K hSq277 bq279
          refine wpAnyH_ready (rs := [6]) (by kernel_rfl) (by simp) ?_
          refine AllReadyH.cons rfl (fun K hK => ?_) AllReadyH.nil
          rw [if_pos (by rfl)]
          refine wp_bs32 43 22 (.tmp 46) rfl k HK.out (by rfl) Try.underlying43 Try.infoH2 ?_
          intro gq286 yq284 egq287 ezq288 bq283 hEq285
          have lgq289 : w.heap.size ≤ gq286 := by rw [egq287]; exact hSq282.2.2.size
          have lbq290 : wq244.heap.size < gq286 := by rw [egq287]; exact hSq282.1.lt
          have lbq291 : w.heap.size < gq286 := by rw [egq287]; exact hSq282.2.1.lt
          have hEq292 := hEq280.below bq283 hEq280.lt
          have hHq293 := Lib.hid (hHq281.out.below bq283)
          refine hK.out _ _ ⟨hSq282.1.below bq283 hSq282.1.lt, hSq282.2.1.below bq283 hSq282.2.1.lt, hSq282.2.2.trans (bq283.mono (hSq282.2.2.size))⟩ (fun hSq294 => ?_)
          clear hK K hSq282 bq283 egq287 ezq288
          refine wpAnyH_take (i := 7) (v := .agg #[.slice (some ⟨gq270, 0, none⟩) 1 1, .slice (some ⟨gq286, 0, none⟩) 1 1]) rfl (by kernel_rfl) (by kernel_rfl) (by kernel_rfl) (fun _ _ _ h => h) (Or.inl ⟨by rfl, fun x hx => by go_simp⟩) hSq294 ?_
          simp only [Act.put, List.getElem_toArray, List.getElem_cons_zero, List.getElem_cons_succ, List.setIfInBounds_toArray, List.set_cons_zero, List.set_cons_succ]
          refine wpAnyH_ready (rs := [8]) (by kernel_rfl) (by simp) ?_
          refine AllReadyH.cons rfl (fun K hK => ?_) AllReadyH.nil
          rw [if_pos (by rfl)]
          refine wp_bs2 39 45 (.tmp 48) rfl #[.slice (some ⟨gq270, 0, none⟩) 1 1, .slice (some ⟨gq286, 0, none⟩) 1 1] (by rfl) Try.underlying39 _ 2 Try.infoRF2 rfl (by omega) (by omega) ?_
          intro gq298 yq296 egq299 ezq300 bq295 hEq297
          have lgq301 : w.heap.size ≤ gq298 := by rw [egq299]; exact hSq294.2.2.size
          have lbq302 : wq244.heap.size < gq298 := by rw [egq299]; exact hSq294.1.lt
          have lbq303 : w.heap.size < gq298 := by rw [egq299]; exact hSq294.2.1.lt
          have hEq304 := hEq292.below bq295 hEq292.lt
          have hEq305 := hEq285.below bq295 hEq285.lt
          have hHq306 := Lib.hid (hHq293.out.below bq295)
          refine hK.out _ _ ⟨hSq294.1.below bq295 hSq294.1.lt, hSq294.2.1.below bq295 hSq294.2.1.lt, hSq294.2.2.trans (bq295.mono (hSq294.2.2.size))⟩ (fun hSq307 => ?_)
          clear hK K hSq294 bq295 egq299 ezq300
          refine wpAnyH_ready (rs := [9]) (by kernel_rfl) (by simp) ?_
          refine AllReadyH.cons rfl (fun K hK => ?_) AllReadyH.nil
          rw [if_pos (by rfl)]
          refine wp_rfAppend (.tmp 41) (.tmp 49) 39 rfl Try.underlying39 Try.infoRF3 w.heap.size (FK n) ⟨[s], [k]⟩ _ (by rfl) hHq306.out _ _ (HashOwn.oneB hEq304 HS.out lgq273) (HashOwn.oneB hEq305 HK.out lgq289) gq298 1 (by rfl) 45 hEq297 (Nat.le_trans (HLN.out n) (by omega)) hSq307.2.2.size (fun q h => Nat.lt_of_lt_of_le (HAW.out q h) hSq307.2.2.size) ?_
          intro vq308 wq309 hvq310 gq311 frq312 hqq313
          refine hK.out _ _ ⟨hSq307.1.frm frq312 NH.out, hSq307.2.1.frm frq312 NR.out, hSq307.2.2.grown gq311 hSq307.2.2.size (fun q e => hqq313 q e)⟩ (fun hSq314 => ?_)
          clear hK K hSq307 gq311 frq312 hqq313
          have Hvq308 := Lib.hid hvq310
          clear hvq310
          refine wpAnyH_ready (rs := [10]) (by kernel_rfl) (by simp) ?_
          refine AllReadyH.cons rfl (fun K hK => ?_) AllReadyH.nil
          go_simp
          refine hK.out _ _ hSq314 (fun hSq315 => ?_)
          clear hK K hSq314
          refine wpAnyH_done (by kernel_rfl) ?_ _
          go_wp2_with fail
          go_roundw
          case rel => exact ⟨n + 1, by omega, by go_num, Lib.hid (by rw [HFN.out]; exact Hvq308.out), Lib.hid hSq315.2.1, Lib.hid hSq315.2.2⟩
          case measure => simp [intOf]; omega
        refine AllReadyH.cons rfl (fun K hK => ?_) AllReadyH.nil
        go_simp
        go_wp2_with (go_at_call 80; refine (c4 _).mono ?_; rintro e yq316 ⟨rfl, bq317⟩)
        have hHq318 := Lib.hid (hHq266.out.below bq317)
        refine hK.out _ _ ⟨hSq265.1.below bq317 hSq265.1.lt, hSq265.2.1.below bq317 hSq265.2.1.lt, hSq265.2.2.trans (bq317.mono (hSq265.2.2.size))⟩ (fun hSq319 => ?_)
        clear hK K hSq265 bq317
        refine wpAnyH_ready (rs := [2, 6]) (by kernel_rfl) (by simp) ?_
        refine AllReadyH.cons rfl (fun K hK => ?_) ?_
        · rw [if_pos (by rfl)]
          refine wp_bs32 43 22 (.tmp 42) rfl s HS.out (by rfl) Try.underlying43 Try.infoH2 ?_
          intro gq323 yq321 egq324 ezq325 bq320 hEq322
          have lgq326 : w.heap.size ≤ gq323 := by rw [egq324]; exact hSq319.2.2.size
          have lbq327 : wq244.heap.size < gq323 := by rw [egq324]; exact hSq319.1.lt
          have lbq328 : w.heap.size < gq323 := by rw [egq324]; exact hSq319.2.1.lt
          have hHq329 := Lib.hid (hHq318.out.below bq320)
          refine hK.out _ _ ⟨hSq319.1.below bq320 hSq319.1.lt, hSq319.2.1.below bq320 hSq319.2.1.lt, hSq319.2.2.trans (bq320.mono (hSq319.2.2.size))⟩ (fun hSq330 => ?_)
          clear hK K hSq319 bq320 egq324 ezq325
          refine wpAnyH_ready (rs := [6]) (by kernel_rfl) (by simp) ?_
          refine AllReadyH.cons rfl (fun K hK => ?_) AllReadyH.nil
          rw [if_pos (by rfl)]
          refine wp_bs32 43 22 (.tmp 46) rfl k HK.out (by rfl) Try.underlying43 Try.infoH2 ?_
          intro gq334 yq332 egq335 ezq336 bq331 hEq333
          have lgq337 : w.heap.size ≤ gq334 := by rw [egq335]; exact hSq330.2.2.size
          have lbq338 : wq244.heap.size < gq334 := by rw [egq335]; exact hSq330.1.lt
          have lbq339 : w.heap.size < gq334 := by rw [egq335]; exact hSq330.2.1.lt
          have hEq340 := hEq322.below bq331 hEq322.lt
          have hHq341 := Lib.hid (hHq329.out.below bq331)
          refine hK.out _ _ ⟨hSq330.1.below bq331 hSq330.1.lt, hSq330.2.1.below bq331 hSq330.2.1.lt, hSq330.2.2.trans (bq331.mono (hSq330.2.2.size))⟩ (fun hSq342 => ?_)
          clear hK K hSq330 bq331 egq335 ezq336
          refine wpAnyH_take (i := 7) (v := .agg #[.slice (some ⟨gq323, 0, none⟩) 1 1, .slice (some ⟨gq334, 0, none⟩) 1 1]) rfl (by kernel_rfl) (by kernel_rfl) (by kernel_rfl) (fun _ _ _ h => h) (Or.inl ⟨by rfl, fun x hx => by go_simp⟩) hSq342 ?_
          simp only [Act.put, List.getElem_toArray, List.getElem_cons_zero, List.getElem_cons_succ, List.setIfInBounds_toArray, List.set_cons_zero, List.set_cons_succ]
          refine wpAnyH_ready (rs := [8]) (by kernel_rfl) (by simp) ?_
          refine AllReadyH.cons rfl (fun K hK => ?_) AllReadyH.nil
          rw [if_pos (by rfl)]
          refine wp_bs2 39 45 (.tmp 48) rfl #[.slice (some ⟨gq323, 0, none⟩) 1 1, .slice (some ⟨gq334, 0, none⟩) 1 1] (by rfl) Try.underlying39 _ 2 Try.infoRF2 rfl (by omega) (by omega) ?_
          intro gq346 yq344 egq347 ezq348 bq343 hEq345
          have lgq349 : w.heap.size ≤ gq346 := by rw [egq347]; exact hSq342.2.2.size
          have lbq350 : wq244.heap.size < gq346 := by rw [egq347]; exact hSq342.1.lt
          have lbq351 : w.heap.size < gq346 := by rw [egq347]; exact hSq342.2.1.lt
          have hEq352 := hEq340.below bq343 hEq340.lt
          have hEq353 := hEq333.below bq343 hEq333.lt
          have hHq354 := Lib.hid (hHq341.out.below bq343)
          refine hK.out _ _ ⟨hSq342.1.below bq343 hSq342.1.lt, hSq342.2.1.below bq343 hSq342.2.1.lt, hSq342.2.2.trans (bq343.mono (hSq342.2.2.size))⟩ (fun hSq355 => ?_)
          clear hK K hSq342 bq343 egq347 ezq348
          refine wpAnyH_ready (rs := [9]) (by kernel_rfl) (by simp) ?_
          refine AllReadyH.cons rfl (fun K hK => ?_) AllReadyH.nil
          rw [if_pos (by rfl)]
          refine wp_rfAppend (.tmp 41) (.tmp 49) 39 rfl Try.underlying39 Try.infoRF3 w.heap.size (FK n) ⟨[s], [k]⟩ _ (by rfl) hHq354.out _ _ (HashOwn.oneB hEq352 HS.out lgq326) (HashOwn.oneB hEq353 HK.out lgq337) gq346 1 (by rfl) 45 hEq345 (Nat.le_trans (HLN.out n) (by omega)) hSq355.2.2.size (fun q h => Nat.lt_of_lt_of_le (HAW.out q h) hSq355.2.2.size) ?_
          intro vq356 wq357 hvq358 gq359 frq360 hqq361
          refine hK.out _ _ ⟨hSq355.1.frm frq360 NH.out, hSq355.2.1.frm frq360 NR.out, hSq355.2.2.grown gq359 hSq355.2.2.size (fun q e => hqq361 q e)⟩ (fun hSq362 => ?_)
          clear hK K hSq355 gq359 frq360 hqq361
          have Hvq356 := Lib.hid hvq358
          clear hvq358
          refine wpAnyH_ready (rs := [10]) (by kernel_rfl) (by simp) ?_
          refine AllReadyH.cons rfl (fun K hK => ?_) AllReadyH.nil
          go_simp
          refine hK.out _ _ hSq362 (fun hSq363 => ?_)
          clear hK K hSq362
          refine wpAnyH_done (by kernel_rfl) ?_ _
          go_wp2_with fail
          go_roundw
          case rel => exact ⟨n + 1, by omega, by go_num, Lib.hid (by rw [HFN.out]; exact Hvq356.out), Lib.hid hSq363.2.1, Lib.hid hSq363.2.2⟩
          case measure => simp [intOf]; omega
        refine AllReadyH.cons rfl (fun K hK => ?_) AllReadyH.nil
        rw [if_pos (by rfl)]
        refine wp_bs32 43 22 (.tmp 46) rfl k HK.out (by rfl) Try.underlying43 Try.infoH2 ?_
        intro gq367 yq365 egq368 ezq369 bq364 hEq366
        have lgq370 : w.heap.size ≤ gq367 := by rw [egq368]; exact hSq319.2.2.size
        have lbq371 : wq244.heap.size < gq367 := by rw [egq368]; exact hSq319.1.lt
        have lbq372 : w.heap.size < gq367 := by rw [egq368]; exact hSq319.2.1.lt
        have hHq373 := Lib.hid (hHq318.out.below bq364)
        refine hK.out _ _ ⟨hSq319.1.below bq364 hSq319.1.lt, hSq319.2.1.below bq364 hSq319.2.1.lt, hSq319.2.2.trans (bq364.mono (hSq319.2.2.size))⟩ (fun hSq374 => ?_)
        clear hK K hSq319 bq364 egq368 ezq369
        refine wpAnyH_ready (rs := [2]) (by kernel_rfl) (by simp) ?_
        refine AllReadyH.cons rfl (fun K hK => ?_) AllReadyH.nil
        rw [if_pos (by rfl)]
        refine wp_bs32 43 22 (.tmp 42) rfl s HS.out (by rfl) Try.underlying43 Try.infoH2 ?_
        intro gq378 yq376 egq379 ezq380 bq375 hEq377
        have lgq381 : w.heap.size ≤ gq378 := by rw [egq379]; exact hSq374.2.2.size
        have lbq382 : wq244.heap.size < gq378 := by rw [egq379]; exact hSq374.1.lt
        have lbq383 : w.heap.size < gq378 := by rw [egq379]; exact hSq374.2.1.lt
        have hEq384 := hEq366.below bq375 hEq366.lt
        have hHq385 := Lib.hid (hHq373.out.below bq375)
        refine hK.out _ _ ⟨hSq374.1.below bq375 hSq374.1.lt, hSq374.2.1.below bq375 hSq374.2.1.lt, hSq374.2.2.trans (bq375.mono (hSq374.2.2.size))⟩ (fun hSq386 => ?_)
        clear hK K hSq374 bq375 egq379 ezq380
        refine wpAnyH_take (i := 7) (v := .agg #[.slice (some ⟨gq378, 0, none⟩) 1 1, .slice (some ⟨gq367, 0, none⟩) 1 1]) rfl (by kernel_rfl) (by kernel_rfl) (by kernel_rfl) (fun _ _ _ h => h) (Or.inl ⟨by rfl, fun x hx => by go_simp⟩) hSq386 ?_
        simp only [Act.put, List.getElem_toArray, List.getElem_cons_zero, List.getElem_cons_succ, List.setIfInBounds_toArray, List.set_cons_zero, List.set_cons_succ]
        refine wpAnyH_ready (rs := [8]) (by kernel_rfl) (by simp) ?_
        refine AllReadyH.cons rfl (fun K hK => ?_) AllReadyH.nil
        rw [if_pos (by rfl)]
        refine wp_bs2 39 45 (.tmp 48) rfl #[.slice (some ⟨gq378, 0, none⟩) 1 1, .slice (some ⟨gq367, 0, none⟩) 1 1] (by rfl) Try.underlying39 _ 2 Try.infoRF2 rfl (by omega) (by omega) ?_
        intro gq390 yq388 egq391 ezq392 bq387 hEq389
        have lgq393 : w.heap.size ≤ gq390 := by rw [egq391]; exact hSq386.2.2.size
        have lbq394 : wq244.heap.size < gq390 := by rw [egq391]; exact hSq386.1.lt
        have lbq395 : w.heap.size < gq390 := by rw [egq391]; exact hSq386.2.1.lt
        have hEq396 := hEq384.below bq387 hEq384.lt
        have hEq397 := hEq377.below bq387 hEq377.lt
        have hHq398 := Lib.hid (hHq385.out.below bq387)
        refine hK.out _ _ ⟨hSq386.1.below bq387 hSq386.1.lt, hSq386.2.1.below bq387 hSq386.2.1.lt, hSq386.2.2.trans (bq387.mono (hSq386.2.2.size))⟩ (fun hSq399 => ?_)
        clear hK K hSq386 bq387 egq391 ezq392
        refine wpAnyH_ready (rs := [9]) (by kernel_rfl) (by simp) ?_
        refine AllReadyH.cons rfl (fun K hK => ?_) AllReadyH.nil
        rw [if_pos (by rfl)]
        refine wp_rfAppend (.tmp 41) (.tmp 49) 39 rfl Try.underlying39 Try.infoRF3 w.heap.size (FK n) ⟨[s], [k]⟩ _ (by rfl) hHq398.out _ _ (HashOwn.oneB hEq397 HS.out lgq381) (HashOwn.oneB hEq396 HK.out lgq370) gq390 1 (by rfl) 45 hEq389 (Nat.le_trans (HLN.out n) (by omega)) hSq399.2.2.size (fun q h => Nat.lt_of_lt_of_le (HAW.out q h) hSq399.2.2.size) ?_
        intro vq400 wq401 hvq402 gq403 frq404 hqq405
        refine hK.out _ _ ⟨hSq399.1.frm frq404 NH.out, hSq399.2.1.frm frq404 NR.out, hSq399.2.2.grown gq403 hSq399.2.2.size (fun q e => hqq405 q e)⟩ (fun hSq406 => ?_)
        clear hK K hSq399 gq403 frq404 hqq405
        have Hvq400 := Lib.hid hvq402
        clear hvq402
        refine wpAnyH_ready (rs := [10]) (by kernel_rfl) (by simp) ?_
        refine AllReadyH.cons rfl (fun K hK => ?_) AllReadyH.nil
        go_simp
        refine hK.out _ _ hSq406 (fun hSq407 => ?_)
        clear hK K hSq406
        refine wpAnyH_done (by kernel_rfl) ?_ _
        go_wp2_with fail
        go_roundw
        case rel => exact ⟨n + 1, by omega, by go_num, Lib.hid (by rw [HFN.out]; exact Hvq400.out), Lib.hid hSq407.2.1, Lib.hid hSq407.2.2⟩
        case measure => simp [intOf]; omega
    · have hle : ¬ (n : Int) ≤ (B : Int) := by omega
      obtain rfl : n = B + 1 := by omega
      go_wp2_with fail
      go_returns
      exact ⟨_, rfl, by rw [factsT, ← HFK.out]; exact hR.out, hBB.out⟩
end Go.Proofs.Ytlomofcnknpciaa
