/-
  BookMore: the walk.
-/
import Derived.Test.YtjjmcogdohnhjaaBookFollowsWalk
import Derived.WalkLawsBesides
import Derived.Outline
import Derived.Handy
import Derived.IntWalk
import Derived.Laws.AppendOwnNone
set_option linter.unusedSimpArgs false
set_option linter.unusedVariables false
namespace Go.Proofs.Ytjjmcogdohnhjaa
open Go.RowKit

/-- (*Book).Knows of a book that was noted. -/
theorem Knows_noted (v : Value) (a : List HsT) (B b sm nm dm : Nat) (fs : List FactT) (names : List UInt8 → Option Value) (w : World) (h : HsT) (hh : h.length = 32) (hA : HashesAt w v a) (hB : BookIs w B b sm nm dm (bookT fs) names) (hf : Fews fs) (ha : a.length ≤ 100000) (D : Bool) (hD : D = true ↔ Fol (bookT fs) a h) :
    Calls Try.prog 15 #[.pointer (some ⟨b, 0, none⟩), .agg (h.map bv).toArray, v] w fun e w' => e = .returned (.bool D) ∧ Below w.heap.size w w' :=
  Knows_calls _ v h a (bookT fs) w hh (fun w' bl => known_post v a b (bookT fs) w' (hA.below bl) (hB.below bl).rd (Nat.le_trans (hf.book.univ ha) (by omega)) (Nat.le_trans hf.book.len (by omega)) (Nat.le_trans hf.book.sum (by omega))) D hD
theorem u64_nat (p : Int) : ∃ u : Nat, IntKind.u64.wrap p = (u : Int) ∧ u < 18446744073709551616 := by
  refine ⟨(p % 18446744073709551616).toNat, ?_, by omega⟩
  unfold IntKind.wrap
  simp [IntKind.bits, IntKind.signed]
  omega
theorem FactsAt.cut {w : World} {ao : Option Addr} {n c k : Nat} {fs : List FactT} (h : FactsAt w (.slice ao n c) fs) (hk : k ≤ n) (hn : n = fs.length) : FactsAt w (.slice ao k c) (fs.take k) := by
  rcases h with ⟨rfl, ao', he⟩ | ⟨g, o, c', he, hc, hlt, hcell⟩
  · simp only [Value.slice.injEq] at he
    obtain ⟨rfl, rfl, rfl⟩ := he
    obtain rfl : k = 0 := by simpa using hk
    exact .inl ⟨by simp, _, rfl⟩
  · simp only [Value.slice.injEq] at he
    obtain ⟨rfl, rfl, rfl⟩ := he
    refine .inr ⟨g, o, c, by rw [List.length_take, Nat.min_eq_left (by omega)], by rw [List.length_take]; omega, hlt, fun i f hf => hcell i f ?_⟩
    have hi : i < k := by have := (List.getElem?_eq_some_iff.1 hf).1; rw [List.length_take] at this; omega
    rwa [List.getElem?_take_of_lt hi] at hf
/-- append of a whole slice of digests. -/
theorem wpList_append_hs {P : Program} {ops : Array Oper} {rest : List Oper} {o : Oper} {a : Act} {w : World} {Q : Exit → Act → World → Prop} (hgd : o.guard = none) (s x : Operand) (t : TypeId)
    (ho : o.op = .call { callee := .builtin .append, args := #[s, x], argTypes := #[t, t] }) (base : Nat) (e : TypeId) (ht : P.underlying t = some (.slice e)) (hi : P.info? e = P.info? e ∧ (P.info? e).map (fun i => (i.zero, i.size, i.bytes)) = some (some (.agg Z32), 32, 32))
    (v : Value) (L L2 : List (List UInt8)) (hs : a.eval s = v) (hown : HashOwn w base e v L) (v2 : Value) (hx : a.eval x = v2) (h2 : HashesAt w v2 L2) (hn : L.length + L2.length ≤ 1000000) (hbase : base ≤ w.heap.size)
    (hK : ∀ v' w', HashOwn w' base e v' (L ++ L2) → w.grownBy w' v.ownBlock → wpList P ops Q rest (a.put o.dst v') w') : wpList P ops Q (o :: rest) a w := by
  obtain ⟨i, hi1, hz, hsz, hby⟩ := info_parts hi.2
  have e1 : (L ++ L2).flatMap (·.map bv) = L.flatMap (·.map bv) ++ L2.flatMap (·.map bv) := by simp
  have hfl : ∀ l : List (List UInt8), (∀ h ∈ l, h.length = 32) → (l.flatMap (·.map bv)).length = l.length * 32 := fun l hl => by
    induction l with
    | nil => rfl
    | cons q l ih => rw [List.flatMap_cons, List.length_append, List.length_map, hl q List.mem_cons_self, ih (fun h hh => hl h (List.mem_cons_of_mem _ hh)), List.length_cons]; omega
  have hone : ∀ u ∈ L2.flatMap (·.map bv), u.oneCell' = true := fun u hu => by
    obtain ⟨q, _, hq⟩ := List.mem_flatMap.1 hu
    exact bs_one q u hq
  have h32 : ∀ q ∈ L ++ L2, q.length = 32 := fun q hq => by
    rcases List.mem_append.1 hq with hq | hq
    · exact hown.1 q hq
    · exact h2.1 q hq
  rcases h2.2 with ⟨rfl, ao, rfl⟩ | ⟨g, o', c, rfl, hc, hlt, hcell⟩
  · cases ao with
    | none =>
      refine wpList_append_own_none hgd s x t ho base e i 32 ht hi1 v _ _ hs hown.2 hx (hK v w (by rw [List.append_nil]; exact hown) (World.grownBy.refl _ _))
    | some ad =>
      refine wpList_plain hgd fun K hk => wp_append_own w s x t ho base e i (.agg Z32) 32 32 ht hi1 hz hsz hby rfl (by decide) v _ _ hs hown.2 ad 0 0 [] hx (by simp) (fun j u hj => by simp at hj) (fun u hu => by cases hu) (by unfold maxLen; omega) (by omega) hbase fun v' w' g2 g3 _ => hk _ _ (hK v' w' ⟨h32, ?_⟩ g3)
      rw [List.append_nil] at g2 ⊢
      exact g2
  · refine wpList_plain hgd fun K hk => wp_append_own w s x t ho base e i (.agg Z32) 32 32 ht hi1 hz hsz hby rfl (by decide) v _ _ hs hown.2 ⟨g, o', none⟩ L2.length c (L2.flatMap (·.map bv)) hx (hfl L2 h2.1) (fun j u hj => by rw [Addr.add_mid]; exact hcell j u hj) hone (by unfold maxLen; omega) (by omega) hbase fun v' w' g2 g3 _ => hk _ _ (hK v' w' ⟨h32, ?_⟩ g3)
    rw [e1, List.length_append]
    exact g2
theorem wpList_bs0 {P : Program} {ops : Array Oper} {rest : List Oper} {o : Oper} {a : Act} {w : World} {Q : Exit → Act → World → Prop} (hgd : o.guard = none) (t e : TypeId) (ho : o.op = .buildSlice t 0 #[]) (hu : P.underlying t = some (.slice e)) (z : Value) (n : Nat) (hz : (P.info? e).map (fun i => (i.zero, i.size)) = some (some z, n))
    (hK : ∀ g w', g = w.heap.size → w'.heap.size = g + 1 → Below w.heap.size w w' → Blk w' g #[] e → wpList P ops Q rest (a.put o.dst (.slice (some ⟨g, 0, none⟩) 0 0)) w') : wpList P ops Q (o :: rest) a w := by
  refine wpList_plain hgd fun K hk => ?_
  cases hi : P.info? e with
  | none => simp [hi] at hz
  | some ie =>
    have hr : (Instr.buildSlice t 0 #[]).run P w = .ok (.slice (some ⟨w.heap.size, 0, none⟩) 0 0) (w.alloc (.cells #[] e)) := by
      simp [Instr.buildSlice, run_underlying hu, sizeOf, typeInfo, hi, newRow, Instr.fill]
      rw [show Array.range 0 = #[] by kernel_rfl, Array.map_empty]
    unfold Oper.wp execOp
    simp only [ho, List.map_toArray, List.map_nil, Sem.run_bind, hr, Result.andThen_ok]
    exact hk _ _ (hK _ _ rfl (by simp) (below_alloc1 _ _) (Blk.new _ _ _))
theorem Cmp_below (a b : HsT) (ha : a.length = 32) (hb : b.length = 32) (w : World) :
    Calls Try.prog 16 #[.agg (a.map bv).toArray, .agg (b.map bv).toArray] w fun e w' => e = .returned (.int .i64 (cmpT a b)) ∧ Below w.heap.size w w' :=
  (Cmp_calls a b ha hb w).mono fun e w' ⟨h1, q, os, h2⟩ => ⟨h1, by
    rw [h2]
    exact ⟨rfl, rfl, rfl, by simp [Sort.grow, World.drewN], fun k hk => by simp [Sort.grow, World.drewN, Array.getElem?_append_left hk]⟩⟩
theorem HashOwn.empty0 {w : World} {g : Nat} {e : TypeId} (h : Blk w g #[] e) {base : Nat} (hb : base ≤ g) : HashOwn w base e (.slice (some ⟨g, 0, none⟩) 0 0) [] :=
  ⟨fun h hh => (by cases hh), rfl, .inr ⟨g, 0, #[], rfl, hb, h, Nat.le_refl _, by simp, by simp, by simp⟩⟩
theorem Fews.univS {fs : List FactT} (h : Fews fs) (a : List HsT) : (Proofs.Ytjjmcogdohnhjaa.univ fs a).length ≤ a.length + 3600 := by
  have h1 := outs_sum fs h.outs
  have h2 := Nat.mul_le_mul_left 60 h.len
  unfold Proofs.Ytjjmcogdohnhjaa.univ
  rw [List.length_append]; omega
theorem fol_idem {fs : List FactT} {a R : List HsT} (hm : ∀ h, h ∈ R ↔ Fol fs a h) (h : HsT) : h ∈ R ↔ Fol fs R h :=
  ⟨fun hh => .base hh, fun hh => (hm h).2 (hh.mono (fun f hf => hf) (fun x hx => (hm x).1 hx))⟩
theorem HashesAt.row {w : World} {ao : Option Addr} {n c : Nat} {l : List HsT} (h : HashesAt w (.slice ao n c) l) : n = l.length := by
  obtain ⟨a2, c2, e, -⟩ := h.slice
  simp only [Value.slice.injEq] at e
  exact e.2.1
set_option maxHeartbeats 32000000 in
set_option maxRecDepth 100000 in
theorem walkBookMore {w0 : World} (v : Value) (fs : List FactT) (hF : FactsAt w0 v fs) (hn : fs.length ≤ maxLen) (hb : ∀ f ∈ fs, FBound f) (v1 : Value) (a : List HsT) (hA : HashesAt w0 v1 a) (ha : a.length ≤ maxLen) (v2 : Value) (mo : List HsT) (hMo : HashesAt w0 v2 mo) (hmo : mo.length ≤ maxLen) (cut : Int) (hcut : (Lit.int .i64 cut).wf = true) (w : World) (hw : w0 = w := by rfl) :
    Calls Try.prog 4 #[v, v1, v2, .int .i64 cut] w fun e w' => e = .returned (.bool true) ∧ Below w.heap.size w w' := by
  subst hw
  obtain ⟨w, rfl⟩ : ∃ w : World, w = w0 := ⟨_, rfl⟩
  obtain ⟨base, hbase⟩ : ∃ base, base = w.heap.size := ⟨_, rfl⟩
  have HBS : Hid (base = w.heap.size) := hbase
  obtain ⟨ao, m, c, rfl, hm⟩ := hA.sliceM
  obtain ⟨mao, p, mc, rfl, hp⟩ := hMo.sliceM
  obtain ⟨vao, vc, rfl, hvc⟩ := hF.slice
  obtain ⟨n, hnn⟩ : ∃ n, n = fs.length := ⟨_, rfl⟩
  rw [← hnn] at hF hvc hn ⊢
  unfold maxLen at ha hn hmo
  rw [← hm] at ha
  rw [← hp] at hmo
  have HM := Lib.hid hm
  have HP := Lib.hid hp
  have HN := Lib.hid hnn
  have HF := Lib.hid hF
  have HA := Lib.hid hA
  have HMO := Lib.hid hMo
  have HFB : Hid (fs.length ≤ maxLen ∧ ∀ f ∈ fs, FBound f) := ⟨by unfold maxLen; rw [← hnn]; exact hn, hb⟩
  clear hF hb hA hm hp hMo hnn
  rw [← hbase]
  have hB0 := Below.refl base w
  by_cases hf : fewB fs = true
  · have HFEW := Lib.hid hf
    have HWS : Hid (Fews fs) := Fews.of HF.out hf
    have hn60 : n ≤ 60 := by rw [HN.out]; exact HWS.out.len
    clear hf
    by_cases hl : m ≤ 60
    · have hlb : decide ((m : Int) > 60) = false := by rw [decide_eq_false_iff_not]; omega
      have HAL : Hid (a.length ≤ 60) := by show _ ≤ _; rw [← HM.out]; omega
      by_cases hl2 : p ≤ 60
      · have hlb2 : decide ((p : Int) > 60) = false := by rw [decide_eq_false_iff_not]; omega
        have HPL : Hid (mo.length ≤ 60) := by show _ ≤ _; rw [← HP.out]; omega
        obtain ⟨u, hu, hu2⟩ := u64_nat cut
        obtain ⟨k0, hk0⟩ : ∃ k0 : Nat, k0 = u % (n + 1) := ⟨_, rfl⟩
        have hkn : k0 ≤ n := by rw [hk0]; have := Nat.mod_lt u (show 0 < n + 1 by omega); omega
        have hmod : (u : Int) % ((n : Int) + 1) = (k0 : Int) := by rw [hk0]; simp
        clear hk0
        go_enter Try.func4, Try.ntmps4
        go_wp2_with fail
        refine (awake_calls _).mono ?_
        rintro e wq401 ⟨rfl, bq402⟩
        have hCq403 := Lib.hid (HF.out.below bq402)
        have hCq404 := Lib.hid (HA.out.below bq402)
        have hCq405 := Lib.hid (HMO.out.below bq402)
        have hBq406 := hB0.trans (bq402.mono (Nat.le_trans (Nat.le_of_eq HBS.out) hB0.size))
        clear HF HA HMO hB0
        clear bq402
        go_wp2_with fail
        refine (few_calls _ fs _ hCq403.out HFB.out).mono ?_
        rintro e ww ⟨rfl, hww⟩
        subst hww
        rw [HFEW.out]
        go_wp2_with fail
        clear hu hmod
        refine (noted_calls _ (fs.take k0) _ (hCq403.out.cut hkn HN.out) (HWS.out.take k0)).mono ?_
        rintro e wq407 ⟨b0, sm0, nm0, dm0, B0, mv0, rfl, hbi0, hrf0, hbB0, hBw0, bq408⟩
        have hCq409 := Lib.hid (hCq403.out.below bq408)
        have hCq410 := Lib.hid (hCq404.out.below bq408)
        have hCq411 := Lib.hid (hCq405.out.below bq408)
        have hBq412 := hBq406.trans (bq408.mono (Nat.le_trans (Nat.le_of_eq HBS.out) hBq406.size))
        clear hCq403 hCq404 hCq405 hBq406
        clear bq408
        have hHq413 := Lib.hid hbi0
        clear hbi0
        clear hrf0 hbB0 hBw0
        go_wp2_with fail
        refine (noted_calls _ fs _ hCq409.out HWS.out).mono ?_
        rintro e wq414 ⟨b, sm, nm, dm, B, mv, rfl, hbi, hrf, hbB, hBw, bq415⟩
        have hCq416 := Lib.hid (hCq409.out.below bq415)
        have hCq417 := Lib.hid (hCq410.out.below bq415)
        have hCq418 := Lib.hid (hCq411.out.below bq415)
        have hCq419 := Lib.hid (hHq413.out.below bq415)
        have hBq420 := hBq412.trans (bq415.mono (Nat.le_trans (Nat.le_of_eq HBS.out) hBq412.size))
        clear hCq409 hCq410 hCq411 hHq413 hBq412
        clear bq415
        have hHq421 := Lib.hid hbi
        clear hbi
        clear hbB hBw hrf
        go_wp2_with fail
        refine (Follows_noted _ a B0 b0 sm0 nm0 dm0 (fs.take k0) _ _ hCq417.out hCq419.out (HWS.out.take k0) (Nat.le_trans HAL.out (by omega))).mono ?_
        rintro e wq422 ⟨v5, X, rfl, hX, hXi, hXm, hXl, bq423⟩
        have hCq424 := Lib.hid (hCq416.out.below bq423)
        have hCq425 := Lib.hid (hCq417.out.below bq423)
        have hCq426 := Lib.hid (hCq418.out.below bq423)
        have hCq427 := Lib.hid (hCq419.out.below bq423)
        have hCq428 := Lib.hid (hHq421.out.below bq423)
        have hBq429 := hBq420.trans (bq423.mono (Nat.le_trans (Nat.le_of_eq HBS.out) hBq420.size))
        clear hCq416 hCq417 hCq418 hCq419 hHq421 hBq420
        clear bq423
        have hHq430 := Lib.hid hX
        clear hX
        have HXI := Lib.hid hXi
        have HXM := Lib.hid hXm
        have HXL := Lib.hid hXl
        clear hXi hXm hXl
        go_wp2_with (first | ((with_reducible show wpList _ _ _ (⟨some 65, _, _, _, _, _⟩ :: _) _ _); refine wpList_bs0 rfl 23 39 rfl Try.underlying23 _ 32 Try.infoHash2 ?_; intro qq431 wq432 eqq433 szq434 bbq435 hNq436; have HO0 := Lib.hid (HashOwn.empty0 hNq436 (Nat.le_refl qq431)); have hq3 : qq431 ≤ wq432.heap.size := Nat.le_of_lt hNq436.lt; have HQE := Lib.hid eqq433; clear hNq436 szq434 eqq433) | ((with_reducible show wpList _ _ _ (⟨some 67, _, _, _, _, _⟩ :: _) _ _); refine wpList_append_hs rfl (.tmp 65) (.tmp 66) 23 rfl qq431 39 Try.underlying23 ⟨rfl, Try.infoHash3⟩ _ [] mo (by rfl) HO0.out _ (by rfl) (hCq426.out.below bbq435) (by simp only [List.length_nil]; exact Nat.le_trans (Nat.add_le_add_left HPL.out 0) (by omega)) hq3 ?_; intro vq437 wq438 hOq439 gq440; have hbq441 := bbq435.grown gq440 (by rw [← HQE.out]; exact hq3) (fun z e => by rw [← HQE.out]; exact (HO0.out.lt z e).1); have HO1 := Lib.hid hOq439; have hq4 := Nat.le_trans hq3 gq440.size; clear hOq439 gq440) | ((with_reducible show wpList _ _ _ (⟨some 69, _, _, _, _, _⟩ :: _) _ _); refine wpList_append_hs rfl (.tmp 67) (.tmp 68) 23 rfl qq431 39 Try.underlying23 ⟨rfl, Try.infoHash3⟩ _ _ a (by rfl) HO1.out _ (by rfl) (hCq425.out.below hbq441) (by rw [List.nil_append]; exact Nat.le_trans (Nat.add_le_add HPL.out HAL.out) (by omega)) hq4 ?_; intro vq442 wq443 hOq444 gq445; have hbq446 := hbq441.grown gq445 (by rw [← HQE.out]; exact hq4) (fun z e => by rw [← HQE.out]; exact (HO1.out.lt z e).1); have HO2 := Lib.hid hOq444; clear hOq444 gq445))
        have hCq447 := Lib.hid (hCq424.out.below hbq446)
        have hCq448 := Lib.hid (hCq425.out.below hbq446)
        have hCq449 := Lib.hid (hCq426.out.below hbq446)
        have hCq450 := Lib.hid (hCq427.out.below hbq446)
        have hCq451 := Lib.hid (hCq428.out.below hbq446)
        have hCq452 := Lib.hid (hHq430.out.below hbq446)
        have hBq453 := hBq429.trans (hbq446.mono (Nat.le_trans (Nat.le_of_eq HBS.out) hBq429.size))
        clear hCq424 hCq425 hCq426 hCq427 hCq428 hHq430 hBq429
        obtain ⟨al, hal⟩ : ∃ al, al = mo ++ a := ⟨_, rfl⟩
        have HALT := Lib.hid hal
        have HAA : Hid (HashesAt wq443 vq442 al) := by show HashesAt _ _ _; rw [hal]; have := HO2.out.at; rwa [List.nil_append] at this
        have HALS : Hid (al.length ≤ 120) := by show _ ≤ _; rw [hal, List.length_append]; exact Nat.le_trans (Nat.add_le_add HPL.out HAL.out) (by omega)
        have HALL : Hid (al.length ≤ 100000) := by show _ ≤ _; rw [hal, List.length_append]; exact Nat.le_trans (Nat.add_le_add HPL.out HAL.out) (by omega)
        clear hal HO0 HO1 HO2 hq3 hq4 HQE bbq435 hbq441 hbq446
        -- y
        refine (Follows_noted _ al B b sm nm dm fs _ _ HAA.out hCq451.out HWS.out HALL.out).mono ?_
        rintro e wq454 ⟨v7, Y, rfl, hY, hYi, hYm, hYl, bq455⟩
        have hCq456 := Lib.hid (hCq447.out.below bq455)
        have hCq457 := Lib.hid (hCq448.out.below bq455)
        have hCq458 := Lib.hid (hCq449.out.below bq455)
        have hCq459 := Lib.hid (hCq450.out.below bq455)
        have hCq460 := Lib.hid (hCq451.out.below bq455)
        have hCq461 := Lib.hid (hCq452.out.below bq455)
        have hCq462 := Lib.hid (HAA.out.below bq455)
        have hBq463 := hBq453.trans (bq455.mono (Nat.le_trans (Nat.le_of_eq HBS.out) hBq453.size))
        clear hCq447 hCq448 hCq449 hCq450 hCq451 hCq452 HAA hBq453
        clear bq455
        have hHq464 := Lib.hid hY
        clear hY
        have HYI := Lib.hid hYi
        have HYM := Lib.hid hYm
        have HYL : Hid (Y.length ≤ 100000) := by show _ ≤ _; have e1 := nodup_len hYi.nodup (fun x hx => ((hYm x).1 hx).univ); have e2 := HWS.out.univS al; have e3 := HALS.out; omega
        clear hYi hYm hYl
        go_wp2_with fail
        obtain ⟨xao, xn, xc, rfl, hxn⟩ := hCq461.out.sliceM
        obtain ⟨yao, yn, yc, rfl, hyn⟩ := hHq464.out.sliceM
        have HXN := Lib.hid hxn
        have HYN := Lib.hid hyn
        have HW1 : Hid (base ≤ wq454.heap.size) := Nat.le_trans (Nat.le_of_eq HBS.out) hBq463.size
        have HB1 := Lib.hid hBq463
        have HPX : Hid (∀ x, Below wq454.heap.size wq454 x → HashesAt x (.slice xao xn xc) X) := fun x bx => hCq461.out.below bx
        have HPY : Hid (∀ x, Below wq454.heap.size wq454 x → HashesAt x (.slice yao yn yc) Y) := fun x bx => hHq464.out.below bx
        have HPA : Hid (∀ x, Below wq454.heap.size wq454 x → HashesAt x vq442 al) := fun x bx => hCq462.out.below bx
        have HBK : Hid (∀ x, Below wq454.heap.size wq454 x → BookIs x B b sm nm dm (bookT fs) (fun _ => none)) := fun x bx => hCq460.out.below bx
        obtain ⟨W1, hW1⟩ : ∃ x, x = wq454 := ⟨_, rfl⟩
        obtain ⟨B1, hB1⟩ : ∃ x, x = wq454.heap.size := ⟨_, rfl⟩
        rw [← hB1, ← hW1] at HPX HPY HPA HBK
        rw [← hW1] at HW1 HB1
        rw [← hW1]
        have HB1S : Hid (B1 = W1.heap.size) := by show _ = _; rw [hB1, hW1]
        have HBW : Hid (∀ x, Below B1 W1 x → Below base w x) := fun x bx => HB1.out.trans (bx.mono (by rw [HB1S.out]; exact HW1.out))
        have HGO : Hid (∀ x y, Below B1 W1 x → Below x.heap.size x y → Below B1 W1 y) := fun x y b1 b2 => b1.trans (b2.mono (by rw [HB1S.out]; exact HB1S.out ▸ b1.size))
        have HXL2 : Hid (xn ≤ 1000000) := by show _ ≤ _; rw [HXN.out]; exact Nat.le_trans HXL.out (by omega)
        have hxnl := HXL2.out
        have HYL2 : Hid (yn ≤ 1000000) := by show _ ≤ _; rw [HYN.out]; exact Nat.le_trans HYL.out (by omega)
        have hynl := HYL2.out
        clear hxn hyn hB1 hW1 HB1 hBq463 hCq456 hCq457 hCq458 hCq459 hCq460 hCq461 hCq462 hHq464
        go_loopw [19] (fun i wr => ∃ (k : Nat), k ≤ xn ∧ i = .int .i64 (k : Nat) ∧ Hid (Below B1 W1 wr)) (fun i _ => xn - (intOf i).toNat)
        case atStart => exact ⟨0, by omega, rfl, Lib.hid (Below.refl _ _)⟩
        case round =>
          obtain ⟨k, hk, rfl, HB⟩ := hrel
          have hB := HB.out
          by_cases hlt : k < xn
          · obtain ⟨s, hs⟩ : ∃ s, X[k]? = some s := ⟨X[k]'(by rw [← HXN.out]; exact hlt), List.getElem?_eq_getElem _⟩
            have HS : Hid (s.length = 32) := (HPX.out _ hB).1 s (List.mem_of_getElem? hs)
            have HKN : Hid (Fol (bookT fs) al s) := bookT_fol.2 (Fol.mono (fun f hf => List.mem_of_mem_take hf) (fun x hx => .base (by rw [HALT.out]; exact List.mem_append_right _ hx)) ((HXM.out s).1 (List.mem_of_getElem? hs)))
            obtain ⟨g, o, rfl, -⟩ := (HPX.out _ hB).range k s hs
            have HRK : Hid (∀ x, Below B1 W1 x → x.rangeAt g (o + k * 32) (s.map bv)) := fun x bx => (HPX.out x bx).range' k s hs
            rcases Nat.eq_zero_or_pos k with h0 | h0
            · obtain rfl : 0 = k := h0.symm
              have HRZ : Hid (∀ x, Below B1 W1 x → x.rangeAt g o (s.map bv)) := fun x bx => by
                have e1 := HRK.out x bx
                rwa [Nat.zero_mul, Nat.add_zero] at e1
              simp only [Int.natCast_zero] at *
              clear hs
              go_wp2_with fail
              refine wp_region_held_drew (S := fun x => Below B1 W1 x) (by kernel_rfl) (below_drewN hB 1) (fun hSq465 => ?_)
              refine wpAnyH_take (i := 0) (v := Value.pointer (some ⟨b, 0, none⟩)) rfl (by kernel_rfl) (by kernel_rfl) (by kernel_rfl) (fun _ _ _ h => h) (Or.inl ⟨by rfl, fun x hx => by go_simp⟩) hSq465 ?_
              simp only [Act.put, List.getElem_toArray, List.getElem_cons_zero, List.getElem_cons_succ, List.setIfInBounds_toArray, List.set_cons_zero, List.set_cons_succ]
              refine wpAnyH_take (i := 1) (v := Value.slice (some ⟨g, o, none⟩) xn xc) rfl (by kernel_rfl) (by kernel_rfl) (by kernel_rfl) (fun _ _ _ h => h) (Or.inl ⟨by rfl, fun x hx => by go_simp⟩) hSq465 ?_
              simp only [Act.put, List.getElem_toArray, List.getElem_cons_zero, List.getElem_cons_succ, List.setIfInBounds_toArray, List.set_cons_zero, List.set_cons_succ]
              refine wpAnyH_take (i := 2) (v := Value.int .i64 0) rfl (by kernel_rfl) (by kernel_rfl) (by kernel_rfl) (fun _ _ _ h => h) (Or.inl ⟨by rfl, fun x hx => by go_simp⟩) hSq465 ?_
              simp only [Act.put, List.getElem_toArray, List.getElem_cons_zero, List.getElem_cons_succ, List.setIfInBounds_toArray, List.set_cons_zero, List.set_cons_succ]
              refine wpAnyH_take (i := 3) (v := Value.pointer (some ⟨g, o, none⟩)) rfl (by kernel_rfl) (by kernel_rfl) (by kernel_rfl) (fun _ _ _ h => h) (Or.inl ⟨by rfl, fun x hx => by go_simp⟩) hSq465 ?_
              simp only [Act.put, List.getElem_toArray, List.getElem_cons_zero, List.getElem_cons_succ, List.setIfInBounds_toArray, List.set_cons_zero, List.set_cons_succ]
              refine wpAnyH_take (i := 4) rfl (by kernel_rfl) (by kernel_rfl) (by kernel_rfl) (fun _ _ _ h => h) (yieldsIf_load_mid (by rfl) 39 (.tmp 82) rfl (g) (o) (by rfl) (s.map bv) _ (fun x hx => HRZ.out _ hx) Try.underlying39 rfl (by rw [List.length_map, HS.out]; exact Try.sizeHash)) hSq465 ?_
              simp only [Act.put, List.getElem_toArray, List.getElem_cons_zero, List.getElem_cons_succ, List.setIfInBounds_toArray, List.set_cons_zero, List.set_cons_succ]
              refine wpAnyH_take (i := 5) (v := vq442) rfl (by kernel_rfl) (by kernel_rfl) (by kernel_rfl) (fun _ _ _ h => h) (Or.inl ⟨by rfl, fun x hx => by go_simp⟩) hSq465 ?_
              simp only [Act.put, List.getElem_toArray, List.getElem_cons_zero, List.getElem_cons_succ, List.setIfInBounds_toArray, List.set_cons_zero, List.set_cons_succ]
              refine wpAnyH_ready (rs := [6]) (by kernel_rfl) (by simp) ?_
              refine AllReadyH.cons rfl (fun K hK => ?_) AllReadyH.nil
              go_simp
              go_wp2_with (go_at_call 15; refine (Knows_noted _ al B b sm nm dm fs _ _ s HS.out (HPA.out _ hSq465) (HBK.out _ hSq465) HWS.out HALL.out true ⟨fun _ => HKN.out, fun _ => rfl⟩).mono ?_; rintro e yq466 ⟨rfl, bq467⟩)
              refine hK.out _ _ (HGO.out _ _ hSq465 bq467) (fun hSq468 => ?_)
              clear hK K hSq465 bq467
              refine wpAnyH_take (i := 7) (v := Value.bool false) rfl (by kernel_rfl) (by kernel_rfl) (by kernel_rfl) (fun _ _ _ h => h) (Or.inl ⟨by rfl, fun x hx => by go_simp⟩) hSq468 ?_
              simp only [Act.put, List.getElem_toArray, List.getElem_cons_zero, List.getElem_cons_succ, List.setIfInBounds_toArray, List.set_cons_zero, List.set_cons_succ]
              refine wpAnyH_take (i := 8) (v := Value.bool false) rfl (by kernel_rfl) (by kernel_rfl) (by kernel_rfl) (fun _ _ _ h => h) (Or.inl ⟨by rfl, fun x hx => by go_simp⟩) hSq468 ?_
              simp only [Act.put, List.getElem_toArray, List.getElem_cons_zero, List.getElem_cons_succ, List.setIfInBounds_toArray, List.set_cons_zero, List.set_cons_succ]
              refine wpAnyH_take (i := 9) (v := Value.int .i64 0) rfl (by kernel_rfl) (by kernel_rfl) (by kernel_rfl) (fun _ _ _ h => h) (Or.inl ⟨by rfl, fun x hx => by go_simp⟩) hSq468 ?_
              simp only [Act.put, List.getElem_toArray, List.getElem_cons_zero, List.getElem_cons_succ, List.setIfInBounds_toArray, List.set_cons_zero, List.set_cons_succ]
              refine wpAnyH_take (i := 10) (v := Value.bool false) rfl (by kernel_rfl) (by kernel_rfl) (by kernel_rfl) (fun _ _ _ h => h) (Or.inl ⟨by rfl, fun x hx => by go_simp⟩) hSq468 ?_
              simp only [Act.put, List.getElem_toArray, List.getElem_cons_zero, List.getElem_cons_succ, List.setIfInBounds_toArray, List.set_cons_zero, List.set_cons_succ]
              refine wpAnyH_take (i := 11) (v := Value.bool false) rfl (by kernel_rfl) (by kernel_rfl) (by kernel_rfl) (fun _ _ _ h => h) (Or.inl ⟨by rfl, fun x hx => by go_simp⟩) hSq468 ?_
              simp only [Act.put, List.getElem_toArray, List.getElem_cons_zero, List.getElem_cons_succ, List.setIfInBounds_toArray, List.set_cons_zero, List.set_cons_succ]
              refine wpAnyH_take (i := 12) (v := undef) rfl (by kernel_rfl) (by kernel_rfl) (by kernel_rfl) (fun _ _ _ h => h) (Or.inr ⟨by rfl, rfl⟩) hSq468 ?_
              simp only [Act.put, List.getElem_toArray, List.getElem_cons_zero, List.getElem_cons_succ, List.setIfInBounds_toArray, List.set_cons_zero, List.set_cons_succ]
              refine wpAnyH_take (i := 13) (v := undef) rfl (by kernel_rfl) (by kernel_rfl) (by kernel_rfl) (fun _ _ _ h => h) (Or.inr ⟨by rfl, rfl⟩) hSq468 ?_
              simp only [Act.put, List.getElem_toArray, List.getElem_cons_zero, List.getElem_cons_succ, List.setIfInBounds_toArray, List.set_cons_zero, List.set_cons_succ]
              refine wpAnyH_take (i := 14) (v := undef) rfl (by kernel_rfl) (by kernel_rfl) (by kernel_rfl) (fun _ _ _ h => h) (Or.inr ⟨by rfl, rfl⟩) hSq468 ?_
              simp only [Act.put, List.getElem_toArray, List.getElem_cons_zero, List.getElem_cons_succ, List.setIfInBounds_toArray, List.set_cons_zero, List.set_cons_succ]
              refine wpAnyH_take (i := 15) (v := undef) rfl (by kernel_rfl) (by kernel_rfl) (by kernel_rfl) (fun _ _ _ h => h) (Or.inr ⟨by rfl, rfl⟩) hSq468 ?_
              simp only [Act.put, List.getElem_toArray, List.getElem_cons_zero, List.getElem_cons_succ, List.setIfInBounds_toArray, List.set_cons_zero, List.set_cons_succ]
              refine wpAnyH_take (i := 16) (v := undef) rfl (by kernel_rfl) (by kernel_rfl) (by kernel_rfl) (fun _ _ _ h => h) (Or.inr ⟨by rfl, rfl⟩) hSq468 ?_
              simp only [Act.put, List.getElem_toArray, List.getElem_cons_zero, List.getElem_cons_succ, List.setIfInBounds_toArray, List.set_cons_zero, List.set_cons_succ]
              refine wpAnyH_take (i := 17) (v := undef) rfl (by kernel_rfl) (by kernel_rfl) (by kernel_rfl) (fun _ _ _ h => h) (Or.inr ⟨by rfl, rfl⟩) hSq468 ?_
              simp only [Act.put, List.getElem_toArray, List.getElem_cons_zero, List.getElem_cons_succ, List.setIfInBounds_toArray, List.set_cons_zero, List.set_cons_succ]
              refine wpAnyH_take (i := 18) (v := undef) rfl (by kernel_rfl) (by kernel_rfl) (by kernel_rfl) (fun _ _ _ h => h) (Or.inr ⟨by rfl, rfl⟩) hSq468 ?_
              simp only [Act.put, List.getElem_toArray, List.getElem_cons_zero, List.getElem_cons_succ, List.setIfInBounds_toArray, List.set_cons_zero, List.set_cons_succ]
              refine wpAnyH_take (i := 19) (v := undef) rfl (by kernel_rfl) (by kernel_rfl) (by kernel_rfl) (fun _ _ _ h => h) (Or.inr ⟨by rfl, rfl⟩) hSq468 ?_
              simp only [Act.put, List.getElem_toArray, List.getElem_cons_zero, List.getElem_cons_succ, List.setIfInBounds_toArray, List.set_cons_zero, List.set_cons_succ]
              refine wpAnyH_take (i := 20) (v := undef) rfl (by kernel_rfl) (by kernel_rfl) (by kernel_rfl) (fun _ _ _ h => h) (Or.inr ⟨by rfl, rfl⟩) hSq468 ?_
              simp only [Act.put, List.getElem_toArray, List.getElem_cons_zero, List.getElem_cons_succ, List.setIfInBounds_toArray, List.set_cons_zero, List.set_cons_succ]
              refine wpAnyH_take (i := 21) (v := undef) rfl (by kernel_rfl) (by kernel_rfl) (by kernel_rfl) (fun _ _ _ h => h) (Or.inr ⟨by rfl, rfl⟩) hSq468 ?_
              simp only [Act.put, List.getElem_toArray, List.getElem_cons_zero, List.getElem_cons_succ, List.setIfInBounds_toArray, List.set_cons_zero, List.set_cons_succ]
              refine wpAnyH_take (i := 22) (v := undef) rfl (by kernel_rfl) (by kernel_rfl) (by kernel_rfl) (fun _ _ _ h => h) (Or.inr ⟨by rfl, rfl⟩) hSq468 ?_
              simp only [Act.put, List.getElem_toArray, List.getElem_cons_zero, List.getElem_cons_succ, List.setIfInBounds_toArray, List.set_cons_zero, List.set_cons_succ]
              refine wpAnyH_take (i := 23) (v := Value.bool false) rfl (by kernel_rfl) (by kernel_rfl) (by kernel_rfl) (fun _ _ _ h => h) (Or.inl ⟨by rfl, fun x hx => by go_simp⟩) hSq468 ?_
              simp only [Act.put, List.getElem_toArray, List.getElem_cons_zero, List.getElem_cons_succ, List.setIfInBounds_toArray, List.set_cons_zero, List.set_cons_succ]
              refine wpAnyH_take (i := 24) (v := Value.bool false) rfl (by kernel_rfl) (by kernel_rfl) (by kernel_rfl) (fun _ _ _ h => h) (Or.inl ⟨by rfl, fun x hx => by go_simp⟩) hSq468 ?_
              simp only [Act.put, List.getElem_toArray, List.getElem_cons_zero, List.getElem_cons_succ, List.setIfInBounds_toArray, List.set_cons_zero, List.set_cons_succ]
              refine wpAnyH_done (by kernel_rfl) ?_ _
              have HB3 := Lib.hid hSq468
              clear hSq468
              go_wp2_with fail
              go_roundw
              case rel => exact ⟨0 + 1, by omega, by go_num, HB3⟩
              case measure => simp [intOf]; omega
            · obtain ⟨j, rfl⟩ : ∃ j, k = j + 1 := ⟨k - 1, by omega⟩
              obtain ⟨s0, hs0⟩ : ∃ s, X[j]? = some s := ⟨X[j]'(by rw [← HXN.out]; omega), List.getElem?_eq_getElem _⟩
              have HS0 : Hid (s0.length = 32) := (HPX.out _ hB).1 s0 (List.mem_of_getElem? hs0)
              have HRJ : Hid (∀ x, Below B1 W1 x → x.rangeAt g (o + j * 32) (s0.map bv)) := fun x bx => (HPX.out x bx).range' j s0 hs0
              have HLT : Hid (cmpT s0 s = -1) := by
                show _ = _
                obtain ⟨q1, q2⟩ := List.getElem?_eq_some_iff.1 hs0
                obtain ⟨q3, q4⟩ := List.getElem?_eq_some_iff.1 hs
                have e1 := (List.pairwise_iff_getElem.1 HXI.out) j (j + 1) q1 q3 (by omega)
                rw [q2, q4] at e1
                rcases cmpT_range s0 s with e | e | e <;> omega
              obtain ⟨kk, hkk⟩ : ∃ kk, kk = j + 1 := ⟨_, rfl⟩
              rw [← hkk] at hs HRK hlt hk
              rw [← hkk]
              have hkp0 : 0 < kk := by omega
              have hkp : decide ((kk : Int) > 0) = true := by rw [decide_eq_true_eq]; omega
              have hkj : IntKind.i64.wrap ((kk : Int) - 1) = (j : Int) := by rw [hkk, IntWalk.i64_in _ (by omega)]; omega
              have hj0 : (0 : Int) ≤ (j : Int) := by omega
              have hjn : (j : Int) < (xn : Int) := by omega
              have HKK := Lib.hid hkk
              clear hs hs0 hkk
              go_wp2_with fail
              refine wp_region_held_drew (S := fun x => Below B1 W1 x) (by kernel_rfl) (below_drewN hB 1) (fun hSq469 => ?_)
              refine wpAnyH_take (i := 0) (v := Value.pointer (some ⟨b, 0, none⟩)) rfl (by kernel_rfl) (by kernel_rfl) (by kernel_rfl) (fun _ _ _ h => h) (Or.inl ⟨by rfl, fun x hx => by go_simp⟩) hSq469 ?_
              simp only [Act.put, List.getElem_toArray, List.getElem_cons_zero, List.getElem_cons_succ, List.setIfInBounds_toArray, List.set_cons_zero, List.set_cons_succ]
              refine wpAnyH_take (i := 1) (v := Value.slice (some ⟨g, o, none⟩) xn xc) rfl (by kernel_rfl) (by kernel_rfl) (by kernel_rfl) (fun _ _ _ h => h) (Or.inl ⟨by rfl, fun x hx => by go_simp⟩) hSq469 ?_
              simp only [Act.put, List.getElem_toArray, List.getElem_cons_zero, List.getElem_cons_succ, List.setIfInBounds_toArray, List.set_cons_zero, List.set_cons_succ]
              refine wpAnyH_take (i := 2) (v := Value.int .i64 (kk : Nat)) rfl (by kernel_rfl) (by kernel_rfl) (by kernel_rfl) (fun _ _ _ h => h) (Or.inl ⟨by rfl, fun x hx => by go_simp⟩) hSq469 ?_
              simp only [Act.put, List.getElem_toArray, List.getElem_cons_zero, List.getElem_cons_succ, List.setIfInBounds_toArray, List.set_cons_zero, List.set_cons_succ]
              refine wpAnyH_take (i := 3) (v := Value.pointer (some ⟨g, o + kk * 32, none⟩)) rfl (by kernel_rfl) (by kernel_rfl) (by kernel_rfl) (fun _ _ _ h => h) (Or.inl ⟨by rfl, fun x hx => by go_simp⟩) hSq469 ?_
              simp only [Act.put, List.getElem_toArray, List.getElem_cons_zero, List.getElem_cons_succ, List.setIfInBounds_toArray, List.set_cons_zero, List.set_cons_succ]
              refine wpAnyH_take (i := 4) rfl (by kernel_rfl) (by kernel_rfl) (by kernel_rfl) (fun _ _ _ h => h) (yieldsIf_load_mid (by rfl) 39 (.tmp 82) rfl (g) (o + kk * 32) (by rfl) (s.map bv) _ (fun x hx => HRK.out _ hx) Try.underlying39 rfl (by rw [List.length_map, HS.out]; exact Try.sizeHash)) hSq469 ?_
              simp only [Act.put, List.getElem_toArray, List.getElem_cons_zero, List.getElem_cons_succ, List.setIfInBounds_toArray, List.set_cons_zero, List.set_cons_succ]
              refine wpAnyH_take (i := 5) (v := vq442) rfl (by kernel_rfl) (by kernel_rfl) (by kernel_rfl) (fun _ _ _ h => h) (Or.inl ⟨by rfl, fun x hx => by go_simp⟩) hSq469 ?_
              simp only [Act.put, List.getElem_toArray, List.getElem_cons_zero, List.getElem_cons_succ, List.setIfInBounds_toArray, List.set_cons_zero, List.set_cons_succ]
              refine wpAnyH_ready (rs := [6]) (by kernel_rfl) (by simp) ?_
              refine AllReadyH.cons rfl (fun K hK => ?_) AllReadyH.nil
              go_simp
              go_wp2_with (go_at_call 15; refine (Knows_noted _ al B b sm nm dm fs _ _ s HS.out (HPA.out _ hSq469) (HBK.out _ hSq469) HWS.out HALL.out true ⟨fun _ => HKN.out, fun _ => rfl⟩).mono ?_; rintro e yq470 ⟨rfl, bq471⟩)
              refine hK.out _ _ (HGO.out _ _ hSq469 bq471) (fun hSq472 => ?_)
              clear hK K hSq469 bq471
              refine wpAnyH_take (i := 7) (v := Value.bool false) rfl (by kernel_rfl) (by kernel_rfl) (by kernel_rfl) (fun _ _ _ h => h) (Or.inl ⟨by rfl, fun x hx => by go_simp⟩) hSq472 ?_
              simp only [Act.put, List.getElem_toArray, List.getElem_cons_zero, List.getElem_cons_succ, List.setIfInBounds_toArray, List.set_cons_zero, List.set_cons_succ]
              refine wpAnyH_take (i := 8) (v := Value.bool false) rfl (by kernel_rfl) (by kernel_rfl) (by kernel_rfl) (fun _ _ _ h => h) (Or.inl ⟨by rfl, fun x hx => by go_simp⟩) hSq472 ?_
              simp only [Act.put, List.getElem_toArray, List.getElem_cons_zero, List.getElem_cons_succ, List.setIfInBounds_toArray, List.set_cons_zero, List.set_cons_succ]
              refine wpAnyH_take (i := 9) (v := Value.int .i64 (kk : Nat)) rfl (by kernel_rfl) (by kernel_rfl) (by kernel_rfl) (fun _ _ _ h => h) (Or.inl ⟨by rfl, fun x hx => by go_simp⟩) hSq472 ?_
              simp only [Act.put, List.getElem_toArray, List.getElem_cons_zero, List.getElem_cons_succ, List.setIfInBounds_toArray, List.set_cons_zero, List.set_cons_succ]
              refine wpAnyH_take (i := 10) (v := Value.bool true) rfl (by kernel_rfl) (by kernel_rfl) (by kernel_rfl) (fun _ _ _ h => h) (Or.inl ⟨by rfl, fun x hx => by go_simp⟩) hSq472 ?_
              simp only [Act.put, List.getElem_toArray, List.getElem_cons_zero, List.getElem_cons_succ, List.setIfInBounds_toArray, List.set_cons_zero, List.set_cons_succ]
              refine wpAnyH_take (i := 11) (v := Value.bool true) rfl (by kernel_rfl) (by kernel_rfl) (by kernel_rfl) (fun _ _ _ h => h) (Or.inl ⟨by rfl, fun x hx => by go_simp⟩) hSq472 ?_
              simp only [Act.put, List.getElem_toArray, List.getElem_cons_zero, List.getElem_cons_succ, List.setIfInBounds_toArray, List.set_cons_zero, List.set_cons_succ]
              refine wpAnyH_take (i := 12) (v := Value.slice (some ⟨g, o, none⟩) xn xc) rfl (by kernel_rfl) (by kernel_rfl) (by kernel_rfl) (fun _ _ _ h => h) (Or.inl ⟨by rfl, fun x hx => by go_simp⟩) hSq472 ?_
              simp only [Act.put, List.getElem_toArray, List.getElem_cons_zero, List.getElem_cons_succ, List.setIfInBounds_toArray, List.set_cons_zero, List.set_cons_succ]
              refine wpAnyH_take (i := 13) (v := Value.int .i64 (kk : Nat)) rfl (by kernel_rfl) (by kernel_rfl) (by kernel_rfl) (fun _ _ _ h => h) (Or.inl ⟨by rfl, fun x hx => by go_simp⟩) hSq472 ?_
              simp only [Act.put, List.getElem_toArray, List.getElem_cons_zero, List.getElem_cons_succ, List.setIfInBounds_toArray, List.set_cons_zero, List.set_cons_succ]
              refine wpAnyH_take (i := 14) (v := Value.int .i64 (j : Nat)) rfl (by kernel_rfl) (by kernel_rfl) (by kernel_rfl) (fun _ _ _ h => h) (Or.inl ⟨by rfl, fun x hx => by go_simp⟩) hSq472 ?_
              simp only [Act.put, List.getElem_toArray, List.getElem_cons_zero, List.getElem_cons_succ, List.setIfInBounds_toArray, List.set_cons_zero, List.set_cons_succ]
              refine wpAnyH_take (i := 15) (v := Value.pointer (some ⟨g, o + j * 32, none⟩)) rfl (by kernel_rfl) (by kernel_rfl) (by kernel_rfl) (fun _ _ _ h => h) (Or.inl ⟨by rfl, fun x hx => by go_simp⟩) hSq472 ?_
              simp only [Act.put, List.getElem_toArray, List.getElem_cons_zero, List.getElem_cons_succ, List.setIfInBounds_toArray, List.set_cons_zero, List.set_cons_succ]
              refine wpAnyH_take (i := 16) rfl (by kernel_rfl) (by kernel_rfl) (by kernel_rfl) (fun _ _ _ h => h) (yieldsIf_load_mid (by rfl) 39 (.tmp 94) rfl (g) (o + j * 32) (by rfl) (s0.map bv) _ (fun x hx => HRJ.out _ hx) Try.underlying39 rfl (by rw [List.length_map, HS0.out]; exact Try.sizeHash)) hSq472 ?_
              simp only [Act.put, List.getElem_toArray, List.getElem_cons_zero, List.getElem_cons_succ, List.setIfInBounds_toArray, List.set_cons_zero, List.set_cons_succ]
              refine wpAnyH_take (i := 17) (v := Value.slice (some ⟨g, o, none⟩) xn xc) rfl (by kernel_rfl) (by kernel_rfl) (by kernel_rfl) (fun _ _ _ h => h) (Or.inl ⟨by rfl, fun x hx => by go_simp⟩) hSq472 ?_
              simp only [Act.put, List.getElem_toArray, List.getElem_cons_zero, List.getElem_cons_succ, List.setIfInBounds_toArray, List.set_cons_zero, List.set_cons_succ]
              refine wpAnyH_take (i := 18) (v := Value.int .i64 (kk : Nat)) rfl (by kernel_rfl) (by kernel_rfl) (by kernel_rfl) (fun _ _ _ h => h) (Or.inl ⟨by rfl, fun x hx => by go_simp⟩) hSq472 ?_
              simp only [Act.put, List.getElem_toArray, List.getElem_cons_zero, List.getElem_cons_succ, List.setIfInBounds_toArray, List.set_cons_zero, List.set_cons_succ]
              refine wpAnyH_take (i := 19) (v := Value.pointer (some ⟨g, o + kk * 32, none⟩)) rfl (by kernel_rfl) (by kernel_rfl) (by kernel_rfl) (fun _ _ _ h => h) (Or.inl ⟨by rfl, fun x hx => by go_simp⟩) hSq472 ?_
              simp only [Act.put, List.getElem_toArray, List.getElem_cons_zero, List.getElem_cons_succ, List.setIfInBounds_toArray, List.set_cons_zero, List.set_cons_succ]
              refine wpAnyH_take (i := 20) rfl (by kernel_rfl) (by kernel_rfl) (by kernel_rfl) (fun _ _ _ h => h) (yieldsIf_load_mid (by rfl) 39 (.tmp 98) rfl (g) (o + kk * 32) (by rfl) (s.map bv) _ (fun x hx => HRK.out _ hx) Try.underlying39 rfl (by rw [List.length_map, HS.out]; exact Try.sizeHash)) hSq472 ?_
              simp only [Act.put, List.getElem_toArray, List.getElem_cons_zero, List.getElem_cons_succ, List.setIfInBounds_toArray, List.set_cons_zero, List.set_cons_succ]
              refine wpAnyH_ready (rs := [21]) (by kernel_rfl) (by simp) ?_
              refine AllReadyH.cons rfl (fun K hK => ?_) AllReadyH.nil
              go_simp
              go_wp2_with (go_at_call 16; refine (Cmp_below s0 s HS0.out HS.out _).mono ?_; rintro e yq473 ⟨rfl, bq474⟩; rw [HLT.out])
              refine hK.out _ _ (HGO.out _ _ hSq472 bq474) (fun hSq475 => ?_)
              clear hK K hSq472 bq474
              refine wpAnyH_take (i := 22) (v := Value.bool false) rfl (by kernel_rfl) (by kernel_rfl) (by kernel_rfl) (fun _ _ _ h => h) (Or.inl ⟨by rfl, fun x hx => by go_simp⟩) hSq475 ?_
              simp only [Act.put, List.getElem_toArray, List.getElem_cons_zero, List.getElem_cons_succ, List.setIfInBounds_toArray, List.set_cons_zero, List.set_cons_succ]
              refine wpAnyH_take (i := 23) (v := Value.bool false) rfl (by kernel_rfl) (by kernel_rfl) (by kernel_rfl) (fun _ _ _ h => h) (Or.inl ⟨by rfl, fun x hx => by go_simp⟩) hSq475 ?_
              simp only [Act.put, List.getElem_toArray, List.getElem_cons_zero, List.getElem_cons_succ, List.setIfInBounds_toArray, List.set_cons_zero, List.set_cons_succ]
              refine wpAnyH_take (i := 24) (v := Value.bool false) rfl (by kernel_rfl) (by kernel_rfl) (by kernel_rfl) (fun _ _ _ h => h) (Or.inl ⟨by rfl, fun x hx => by go_simp⟩) hSq475 ?_
              simp only [Act.put, List.getElem_toArray, List.getElem_cons_zero, List.getElem_cons_succ, List.setIfInBounds_toArray, List.set_cons_zero, List.set_cons_succ]
              refine wpAnyH_done (by kernel_rfl) ?_ _
              have HB3 := Lib.hid hSq475
              clear hSq475
              go_wp2_with fail
              go_roundw
              case rel => exact ⟨kk + 1, by omega, by go_num, HB3⟩
              case measure => simp [intOf]; omega
          · obtain rfl : xn = k := by omega
            go_wp2_with fail
            refine (Follows_noted _ Y B b sm nm dm fs _ _ (HPY.out _ hB) (HBK.out _ hB) HWS.out HYL.out).mono ?_
            rintro e w2 ⟨v9, Z, rfl, hZ, hZi, hZm, hZl, b9⟩
            obtain rfl : Z = Y := fol_same hZi HYI.out hZ.1 (HPY.out _ hB).1 hZm (fol_idem HYM.out)
            obtain ⟨zao, zn, zc, rfl, hzn⟩ := hZ.sliceM
            obtain rfl : zn = yn := by rw [hzn, HYN.out]
            have HB2 := Lib.hid (HGO.out _ _ hB b9)
            have HPZ : Hid (∀ x, Below w2.heap.size w2 x → HashesAt x (.slice zao zn zc) Z) := fun x bx => hZ.below bx
            clear hZ hZi hZm hZl b9 hzn
            go_wp2_with fail
            go_loopw [21] (fun i wx => ∃ (k : Nat), k ≤ zn ∧ i = .int .i64 (k : Nat) ∧ Hid (Below w2.heap.size w2 wx)) (fun i _ => zn - (intOf i).toNat)
            case atStart => exact ⟨0, by omega, rfl, Lib.hid (Below.refl _ _)⟩
            case round =>
              obtain ⟨k, hk, rfl, HBX⟩ := hrel
              have HBY := Lib.hid (HGO.out _ _ HB2.out HBX.out)
              by_cases hlt2 : k < zn
              · obtain ⟨s, hs⟩ : ∃ s, Z[k]? = some s := ⟨Z[k]'(by rw [← HYN.out]; exact hlt2), List.getElem?_eq_getElem _⟩
                have HS : Hid (s.length = 32) := (HPY.out _ hB).1 s (List.mem_of_getElem? hs)
                obtain ⟨g, o, rfl, hr1⟩ := (HPZ.out _ HBX.out).range k s hs
                obtain ⟨g2, o2, rfl, hr2⟩ := (HPY.out _ HBY.out).range k s hs
                have HR1 := Lib.hid hr1
                have HR2 := Lib.hid hr2
                have heq : ∀ x, (Op.equalIn 10000 39 (.agg (s.map bv).toArray) (.agg (s.map bv).toArray)).run Try.prog x = .ok true x := fun x => by rw [run_eq_hash x s s HS.out HS.out]; simp
                clear hs hr1 hr2
                go_wp2_with fail
                refine wp_region_quiet_lit (by kernel_rfl) (by kernel_rfl) ?_
                repeat (first | ((with_reducible show wpQuiet _ _ _ _ (⟨some 121, _, _, _, _, _⟩ :: _) _); refine wpQuiet_loadMid (by rfl) 39 (.tmp 120) rfl g (o + k * 32) (by rfl) (s.map bv) _ (fun w' hw' => range_drewN HR1.out _ hw') Try.underlying39 rfl (by rw [List.length_map, HS.out]; exact Try.sizeHash) ?_; simp only [Act.put, List.setIfInBounds_toArray, List.set_cons_succ, List.set_cons_zero]) | ((with_reducible show wpQuiet _ _ _ _ (⟨some 125, _, _, _, _, _⟩ :: _) _); refine wpQuiet_loadMid (by rfl) 39 (.tmp 124) rfl g2 (o2 + k * 32) (by rfl) (s.map bv) _ (fun w' hw' => range_drewN HR2.out _ hw') Try.underlying39 rfl (by rw [List.length_map, HS.out]; exact Try.sizeHash) ?_; simp only [Act.put, List.setIfInBounds_toArray, List.set_cons_succ, List.set_cons_zero]) | go_big_quiet_step (fail))
                refine wpQuiet_nil ?_
                intro _ hw'
                obtain ⟨nq, hw''⟩ := hw'
                subst hw''
                clear heq
                go_wp2_with fail
                go_roundw
                case rel => exact ⟨k + 1, by omega, by go_num, Lib.hid (below_drewN HBX.out _)⟩
                case measure => simp [intOf]; omega
              · obtain rfl : zn = k := by omega
                go_wp2_with fail
                go_returns
                exact ⟨rfl, HBW.out _ HBY.out⟩
      · have hlb2 : decide ((p : Int) > 60) = true := by rw [decide_eq_true_eq]; omega
        go_enter Try.func4, Try.ntmps4
        go_wp2_with fail
        refine (awake_calls _).mono ?_
        rintro e wq377 ⟨rfl, bq378⟩
        have hCq379 := Lib.hid (HF.out.below bq378)
        have hCq380 := Lib.hid (HA.out.below bq378)
        have hCq381 := Lib.hid (HMO.out.below bq378)
        have hBq382 := hB0.trans (bq378.mono (Nat.le_trans (Nat.le_of_eq HBS.out) hB0.size))
        clear HF HA HMO hB0
        clear bq378
        go_wp2_with fail
        refine (few_calls _ fs _ hCq379.out HFB.out).mono ?_
        rintro e ww ⟨rfl, hww⟩
        subst hww
        rw [HFEW.out]
        go_wp2_with fail
        refine (awake_calls _).mono ?_
        rintro e wq383 ⟨rfl, bq384⟩
        have hCq385 := Lib.hid (hCq379.out.below bq384)
        have hCq386 := Lib.hid (hCq380.out.below bq384)
        have hCq387 := Lib.hid (hCq381.out.below bq384)
        have hBq388 := hBq382.trans (bq384.mono (Nat.le_trans (Nat.le_of_eq HBS.out) hBq382.size))
        clear hCq379 hCq380 hCq381 hBq382
        clear bq384
        go_wp2_with fail
        go_returns
        exact ⟨rfl, hBq388⟩
    · have hlb : decide ((m : Int) > 60) = true := by rw [decide_eq_true_eq]; omega
      go_enter Try.func4, Try.ntmps4
      go_wp2_with fail
      refine (awake_calls _).mono ?_
      rintro e wq365 ⟨rfl, bq366⟩
      have hCq367 := Lib.hid (HF.out.below bq366)
      have hCq368 := Lib.hid (HA.out.below bq366)
      have hCq369 := Lib.hid (HMO.out.below bq366)
      have hBq370 := hB0.trans (bq366.mono (Nat.le_trans (Nat.le_of_eq HBS.out) hB0.size))
      clear HF HA HMO hB0
      clear bq366
      go_wp2_with fail
      refine (few_calls _ fs _ hCq367.out HFB.out).mono ?_
      rintro e ww ⟨rfl, hww⟩
      subst hww
      rw [HFEW.out]
      go_wp2_with fail
      refine (awake_calls _).mono ?_
      rintro e wq371 ⟨rfl, bq372⟩
      have hCq373 := Lib.hid (hCq367.out.below bq372)
      have hCq374 := Lib.hid (hCq368.out.below bq372)
      have hCq375 := Lib.hid (hCq369.out.below bq372)
      have hBq376 := hBq370.trans (bq372.mono (Nat.le_trans (Nat.le_of_eq HBS.out) hBq370.size))
      clear hCq367 hCq368 hCq369 hBq370
      clear bq372
      go_wp2_with fail
      go_returns
      exact ⟨rfl, hBq376⟩
  · have HFEW : Hid (fewB fs = false) := by show _ = _; simpa using hf
    clear hf
    go_enter Try.func4, Try.ntmps4
    go_wp2_with fail
    refine (awake_calls _).mono ?_
    rintro e wq389 ⟨rfl, bq390⟩
    have hCq391 := Lib.hid (HF.out.below bq390)
    have hCq392 := Lib.hid (HA.out.below bq390)
    have hCq393 := Lib.hid (HMO.out.below bq390)
    have hBq394 := hB0.trans (bq390.mono (Nat.le_trans (Nat.le_of_eq HBS.out) hB0.size))
    clear HF HA HMO hB0
    clear bq390
    go_wp2_with fail
    refine (few_calls _ fs _ hCq391.out HFB.out).mono ?_
    rintro e ww ⟨rfl, hww⟩
    subst hww
    rw [HFEW.out]
    go_wp2_with fail
    refine (awake_calls _).mono ?_
    rintro e wq395 ⟨rfl, bq396⟩
    have hCq397 := Lib.hid (hCq391.out.below bq396)
    have hCq398 := Lib.hid (hCq392.out.below bq396)
    have hCq399 := Lib.hid (hCq393.out.below bq396)
    have hBq400 := hBq394.trans (bq396.mono (Nat.le_trans (Nat.le_of_eq HBS.out) hBq394.size))
    clear hCq391 hCq392 hCq393 hBq394
    clear bq396
    go_wp2_with fail
    go_returns
    exact ⟨rfl, hBq400⟩
end Go.Proofs.Ytjjmcogdohnhjaa
