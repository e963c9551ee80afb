/-
  bevyref04.Note.
-/
import Derived.Test.YtjlpdbaknhbgdaaBookRefPut
import Derived.Test.YtjlpdbaknhbgdaaBookClone
import Derived.WalkLawsBesides
import Derived.Outline
import Derived.Handy
import Derived.Deep.RegionHeld
set_option linter.unusedSimpArgs false
set_option linter.unusedVariables false
namespace Go.Proofs.Ytjlpdbaknhbgdaa
open Go.RowKit

/-- A cell, told with its block's place. -/
def CellIs (w : World) (g o : Nat) (v : Value) : Prop := w.cell? ⟨g, o, none⟩ = some v ∧ g < w.heap.size
theorem CellIs.below {w w' : World} {g o : Nat} {v : Value} (h : CellIs w g o v) (b : Below w.heap.size w w') : CellIs w' g o v :=
  ⟨(b.cell (p := ⟨g, o, none⟩) h.2).trans h.1, Nat.lt_of_lt_of_le h.2 b.size⟩
/-- The document's facts in a row of one's own. -/
def RFactsOwn (A : Nat → Prop) (w : World) (base : Nat) (v : Value) (fs : List FactT) : Prop :=
  ∃ cs : List (Value × Value), w.ownsRow base 35 2 v fs.length (cs.flatMap fun p => [p.1, p.2]) ∧ cs.length = fs.length ∧ NotIn A v ∧ ∀ (i : Nat) (f : FactT) (p : Value × Value), fs[i]? = some f → cs[i]? = some p → HashOwn w base 25 p.1 f.ins ∧ HashOwn w base 25 p.2 f.outs
theorem RFactsOwn.frm {A A' : Nat → Prop} {T : TypeId → Prop} {M : Nat → Prop} {w w' : World} {base : Nat} {v : Value} {fs : List FactT} (h : RFactsOwn A w base v fs) (f : Frm A' T M w w') (h1 : ¬ T 35) (h2 : ¬ T 25) : RFactsOwn A w' base v fs := by
  obtain ⟨cs, ho, hl, hA, hc⟩ := h
  exact ⟨cs, own_frm ho f h1, hl, hA, fun i g p hi hp => ⟨(hc i g p hi hp).1.frm f h2, (hc i g p hi hp).2.frm f h2⟩⟩
theorem RFactsOwn.below {A : Nat → Prop} {w w' : World} {base : Nat} {v : Value} {fs : List FactT} (h : RFactsOwn A w base v fs) (b : Below w.heap.size w w') : RFactsOwn A w' base v fs := h.frm (A' := fun _ => False) (T := fun _ => False) (M := fun _ => False) (Frm.ofBelow b) id id
theorem RFactsOwn.drew {A : Nat → Prop} {w : World} {base : Nat} {v : Value} {fs : List FactT} (h : RFactsOwn A w base v fs) : RFactsOwn A w.drew base v fs := h.below (below_drewN (Below.refl _ _) 1)
theorem RFactsOwn.narrow {A A' : Nat → Prop} {w : World} {base : Nat} {v : Value} {fs : List FactT} (h : RFactsOwn A w base v fs) (hA : ∀ q, A' q → A q) : RFactsOwn A' w base v fs := by
  obtain ⟨cs, ho, hl, h0, hc⟩ := h
  exact ⟨cs, ho, hl, h0.narrow hA, hc⟩
theorem RFactsOwn.widen {A A' : Nat → Prop} {w : World} {base : Nat} {v : Value} {fs : List FactT} (h : RFactsOwn A w base v fs) (hA : ∀ q, A' q → A q ∨ w.heap.size ≤ q) : RFactsOwn A' w base v fs := by
  obtain ⟨cs, ho, hl, h0, hc⟩ := h
  exact ⟨cs, ho, hl, fun q hq ha => (hA q ha).elim (h0 q hq) (fun e => by have := (ho.lt q hq).2; omega), hc⟩
theorem RFactsOwn.nil (A : Nat → Prop) (w : World) (base : Nat) : RFactsOwn A w base (.slice none 0 0) [] := ⟨[], World.ownsRow_nil _ _ _ _, rfl, NotIn.nil A, fun i f p hi => by simp at hi⟩
theorem RFactsOwn.at {A : Nat → Prop} {w : World} {base : Nat} {v : Value} {fs : List FactT} (h : RFactsOwn A w base v fs) : FactsAt w v fs := by
  obtain ⟨cs, ho, hl, -, hc⟩ := h
  rcases ho.2 with ⟨h0, h1⟩ | ⟨g, cap, cur, rfl, hb, hg, h1, h2, h3, h4⟩
  · exact .inl ⟨List.eq_nil_of_length_eq_zero h1, none, h0⟩
  · refine .inr ⟨g, 0, cap, rfl, h1, lt_of_block hg, fun i f hi => ?_⟩
    have hlt : i < fs.length := (List.getElem?_eq_some_iff.1 hi).1
    obtain ⟨p, hp⟩ : ∃ p, cs[i]? = some p := ⟨cs[i]'(by omega), List.getElem?_eq_getElem _⟩
    obtain ⟨e1, e2⟩ := pair_at cs i p hp
    have hcell : ∀ j u, (cs.flatMap fun p => [p.1, p.2])[j]? = some u → w.cell? ⟨g, 0 + j, none⟩ = some u := fun j u hj => by
      have hj2 : j < fs.length * 2 := by rw [← ho.1]; exact (List.getElem?_eq_some_iff.1 hj).1
      rw [← h4, List.getElem?_take_of_lt hj2] at hj
      have : cur[j]? = some u := by simpa using hj
      simp [World.cell?, hg, this]
    obtain ⟨h5, h6⟩ := hc i f p hi hp
    exact ⟨p.1, p.2, hcell _ _ e1, hcell _ _ e2, h5.at, h6.at⟩
theorem Try.infoRF3 : (Try.prog.info? 35).map (fun i => (i.zero, i.size, i.bytes)) = some (some (.agg #[.slice none 0 0, .slice none 0 0]), 2, 48) := by kernel_rfl
theorem Try.sizeRF : (Try.prog.info? 35).map (·.size) = some 2 := by kernel_rfl
theorem Try.infoRF2 : (Try.prog.info? 35).map (fun i => (i.zero, i.size)) = some (some (.agg #[.slice none 0 0, .slice none 0 0]), 2) := by kernel_rfl
theorem wpList_bs2 {P : Program} {ops : Array Oper} {rest : List Oper} {o : Oper} {a : Act} {w : World} {Q : Exit → Act → World → Prop} (hgd : o.guard = none) (t e : TypeId) (x : Operand) (ho : o.op = .buildSlice t 1 #[(0, x)])
    (cs : Array Value) (hx : a.eval x = .agg cs) (hu : P.underlying t = some (.slice e)) (z : Value) (n : Nat) (hz : (P.info? e).map (fun i => (i.zero, i.size)) = some (some z, n)) (hn : cs.size = n) (h0 : 0 < n) (h1 : n ≤ 16777216)
    (hK : ∀ g w', g = w.heap.size → w'.heap.size = g + 1 → Below w.heap.size w w' → Blk w' g cs e → wpList P ops Q rest (a.put o.dst (.slice (some ⟨g, 0, none⟩) 1 1)) w') : wpList P ops Q (o :: rest) a w :=
  wpList_plain hgd fun _ hk => wp_bs2 t e x ho cs hx hu z n hz hn h0 h1 fun g w' h1 h2 h3 h4 => hk _ _ (hK g w' h1 h2 h3 h4)
theorem own_one2 {w : World} {base : Nat} {e : TypeId} {v : Value} {l : List HsT} (h : HashOwn w base e v l) : v.oneCell' = true := by
  obtain ⟨ao, c, rfl⟩ := h.slice
  rfl
/-- append of one fact to the row. -/
theorem wpList_rfAppend {A : Nat → Prop} {P : Program} {w : World} {ops : Array Oper} {rest : List Oper} {o : Oper} {a : Act} {Q : Exit → Act → World → Prop} (hgd : o.guard = none) (s x : Operand) (t : TypeId) (ho : o.op = .call { callee := .builtin .append, args := #[s, x], argTypes := #[t, t] }) (ht : P.underlying t = some (.slice 35))
    (hi : (P.info? 35).map (fun i => (i.zero, i.size, i.bytes)) = some (some (.agg #[.slice none 0 0, .slice none 0 0]), 2, 48)) (base : Nat) (fs : List FactT) (f : FactT) (v : Value) (hs : a.eval s = v) (hn : RFactsOwn A w base v fs) (v2 v3 : Value) (h2 : HashOwn w base 25 v2 f.ins) (h3 : HashOwn w base 25 v3 f.outs)
    (g c : Nat) (hx : a.eval x = .slice (some ⟨g, 0, none⟩) 1 c) (e2 : TypeId) (hg : Blk w g #[v2, v3] e2) (hlen : fs.length ≤ 10000000) (hbase : base ≤ w.heap.size) (hAw : ∀ q, A q → q < w.heap.size)
    (hK : ∀ v' w', RFactsOwn A w' base v' (fs ++ [f]) → w.grownBy w' v.ownBlock → Frm A (fun t => t = 35) (fun _ => False) w w' → (∀ q, v.ownBlock = some q → base ≤ q) → wpList P ops Q rest (a.put o.dst v') w') : wpList P ops Q (o :: rest) a w := by
  refine wpList_plain hgd fun K hKK => ?_
  obtain ⟨cs, h4, h5, h7, h6⟩ := hn
  obtain ⟨i, hi1, hz, hsz, hby⟩ := info_parts hi
  refine wp_append_own3 s x t ho base 35 i _ 2 48 ht hi1 hz hsz hby rfl (by decide) v _ _ hs h4 ⟨g, 0, none⟩ 1 c [v2, v3] hx rfl (fun j u hj => ?_) (fun u hu => ?_) (by unfold maxLen; omega) (by omega) hbase fun v' w' g1 g2 g3 => ?_
  · rw [Addr.add_lit, Nat.zero_add]
    exact hg.cell j u (by rw [← List.getElem?_toArray] at hj; exact hj)
  · rcases List.mem_cons.1 hu with rfl | hu
    · exact own_one2 h2
    · rw [List.mem_singleton.1 hu]; exact own_one2 h3
  have hfr : Frm A (fun t => t = 35) (fun _ => False) w w' := Frm.grownOwn h4 g2 rfl h7
  have hTT : ¬ ((25 : TypeId) = 35) := by decide
  refine hKK _ _ (hK v' w' ⟨cs ++ [(v2, v3)], ?_, by simp [h5], (fun q hq ha => (g3 q hq).elim (fun e => h7 q e ha) (fun e => by have := hAw q ha; omega)), fun i g p hi hp => ?_⟩ g2 hfr (fun q hq => (h4.lt q hq).1))
  · rw [List.flatMap_append, List.length_append]; exact g1
  · by_cases hlt : i < fs.length
    · rw [List.getElem?_append_left hlt] at hi
      rw [List.getElem?_append_left (by omega)] at hp
      obtain ⟨e1, e2⟩ := h6 i g p hi hp
      exact ⟨e1.frm hfr hTT, e2.frm hfr hTT⟩
    · have e : i = fs.length := by
        have := (List.getElem?_eq_some_iff.1 hi).1
        simp at this; omega
      subst e
      obtain rfl : f = g := by simpa using hi
      rw [← h5] at hp
      obtain rfl : (v2, v3) = p := by simpa using hp
      exact ⟨h2.frm hfr hTT, h3.frm hfr hTT⟩
theorem ret_tup {a b : Int} {v : Value} (h : a = b) : Ending.returned (.tuple #[v, .int .i64 a]) = .returned (.tuple #[v, .int .i64 b]) := by rw [h]
set_option maxHeartbeats 16000000 in
set_option maxRecDepth 100000 in
theorem RefNote_calls {A : Nat → Prop} (v x y : Value) (f : FactT) (fs : List FactT) (base : Nat) (w : World) (hv : RFactsOwn A w base v fs) (hx : HashOwn w base 25 x f.ins) (hy : HashOwn w base 25 y f.outs) (hf : FOk f) (hfs : ∀ g ∈ fs, FOk g) (hn : fs.length ≤ 10000000) (hbw : base ≤ w.heap.size) (hAw : ∀ q, A q → q < w.heap.size) :
    Calls Try.prog 16 #[v, .agg #[x, y]] w fun e w' => ∃ v', e = .returned (.tuple #[v', .int .i64 (noteE f)]) ∧ RFactsOwn A w' base v' (noteT fs f) ∧ Frm A (fun t => t = 35) (fun _ => False) w w' ∧ Below base w w' := by
  obtain ⟨xa, xc, rfl⟩ := hx.slice
  obtain ⟨ya, yc, rfl⟩ := hy.slice
  obtain ⟨p, hp⟩ : ∃ p, p = f.ins.length := ⟨_, rfl⟩
  obtain ⟨m, hm⟩ : ∃ m, m = f.outs.length := ⟨_, rfl⟩
  have hpl := hf.li
  have hml := hf.lo
  rw [← hp] at hx hpl ⊢
  rw [← hm] at hy hml ⊢
  obtain ⟨cs0, ho0, -, -⟩ := id hv
  obtain ⟨vao, vc, rfl⟩ := own_slice ho0
  have hvc : fs.length ≤ vc := by
    obtain ⟨ao, c, e, hc⟩ := hv.at.slice
    simp only [Value.slice.injEq] at e
    rw [e.2.2]; exact hc
  obtain ⟨n, hnn⟩ : ∃ n, n = fs.length := ⟨_, rfl⟩
  rw [← hnn] at hv hn ho0 hvc ⊢
  have HP := Lib.hid hp
  have HM := Lib.hid hm
  have HN := Lib.hid hnn
  have HF := Lib.hid hf
  have HFS := Lib.hid hfs
  have HAW := Lib.hid hAw
  clear hAw
  have HV0 := Lib.hid hv
  have HX0 := Lib.hid hx
  have HY0 := Lib.hid hy
  have HVL : Hid (∀ q, (Value.slice vao n vc).ownBlock = some q → base ≤ q ∧ q < w.heap.size) := fun q hq => ho0.lt q hq
  have HNL : Hid (fs.length ≤ 10000000) := by show _ ≤ _; rw [← hnn]; exact hn
  clear hp hm hnn hf hfs hv hx hy ho0
  have hB0 := Below.refl w.heap.size w
  by_cases hm0 : m = 0
  · obtain rfl : 0 = m := hm0.symm
    have HT : Hid (noteT fs f = fs ∧ noteE f = 1) := noteT_empty fs f (List.eq_nil_of_length_eq_zero HM.out.symm)
    go_enter Try.func16, Try.ntmps16
    go_wp2_with (first | ((with_reducible show wpList _ _ _ (⟨some 3, _, _, _, _, _⟩ :: _) _ _); refine wpList_boxA rfl 35 (.tmp 1) rfl #[.slice xa p xc, .slice ya 0 yc] (by rfl) ?_; intro wq1 bq2 nq3; have hCq4 := Lib.hid (HV0.out.below bq2); have hCq5 := Lib.hid (HX0.out.below bq2); have hCq6 := Lib.hid (HY0.out.below bq2); have hBq7 := hB0.trans (bq2.mono (hB0.size)); clear HV0 HX0 HY0 hB0; clear bq2) | ((with_reducible show wpList _ _ _ (⟨some 8, _, _, _, _, _⟩ :: _) _ _); refine wpList_load1 rfl 33 (.tmp 7) rfl (w.heap.size) 1 (by rfl) _ _ (nq3.cell 1 _ rfl) Try.underlying33 rfl ?_))
    go_returns
    exact ⟨_, ret_tup HT.out.2.symm, by rw [HT.out.1]; exact hCq4.out, Frm.ofBelow hBq7, hBq7.mono hbw⟩
  have HO0 : Hid (f.outs ≠ []) := fun e => hm0 (by rw [HM.out, e]; rfl)
  have hm1 : 0 < m := by omega
  have hmb : ((m : Int) == 0) = false := by rw [beq_eq_false_iff_ne]; omega
  go_enter Try.func16, Try.ntmps16
  go_wp2_with (first | ((with_reducible show wpList _ _ _ (⟨some 3, _, _, _, _, _⟩ :: _) _ _); refine wpList_boxA rfl 35 (.tmp 1) rfl #[.slice xa p xc, .slice ya m yc] (by rfl) ?_; intro wq8 bq9 nq10; have hCq11 := Lib.hid (HV0.out.below bq9); have hCq12 := Lib.hid (HX0.out.below bq9); have hCq13 := Lib.hid (HY0.out.below bq9); have hBq14 := hB0.trans (bq9.mono (hB0.size)); clear HV0 HX0 HY0 hB0; clear bq9) | ((with_reducible show wpList _ _ _ (⟨some 8, _, _, _, _, _⟩ :: _) _ _); refine wpList_load1 rfl 33 (.tmp 7) rfl (w.heap.size) 1 (by rfl) _ _ (nq10.cell 1 _ rfl) Try.underlying33 rfl ?_))
  obtain ⟨hb, hhb⟩ : ∃ x, x = w.heap.size := ⟨_, rfl⟩
  have HFB : Hid (Blk wq8 hb #[.slice xa p xc, .slice ya m yc] 35) := by show Blk _ _ _ _; rw [hhb]; exact nq10
  have HHB := Lib.hid hhb
  have HV1 := hCq11
  have HX1 := hCq12
  have HY1 := hCq13
  have HB1 := Lib.hid hBq14
  rw [← hhb]
  clear hBq14 nq10 hhb
  go_loopw [6] (fun i wr => ∃ (k : Nat), k ≤ n ∧ i = .int .i64 (k : Nat) ∧ Hid (f ∉ fs.take k) ∧ Hid (Below wq8.heap.size wq8 wr)) (fun i _ => n - (intOf i).toNat)
  case atStart => exact ⟨0, by omega, rfl, Lib.hid (by simp), Lib.hid (Below.refl _ _)⟩
  case round =>
    obtain ⟨k, hk, rfl, HK, HB⟩ := hrel
    have HVr := Lib.hid (HV1.out.below HB.out)
    have HXr := Lib.hid (HX1.out.below HB.out)
    have HYr := Lib.hid (HY1.out.below HB.out)
    have HFr := Lib.hid (HFB.out.below HB.out HFB.out.lt)
    by_cases hlt : k < n
    · obtain ⟨f1, hf1⟩ : ∃ f1, fs[k]? = some f1 := ⟨fs[k]'(by rw [← HN.out]; omega), List.getElem?_eq_getElem _⟩
      obtain ⟨g, o, a, b, rfl, hgl, -, hca, hcb, ha, hbq⟩ := HVr.out.at.fact k f1 hf1
      have hcA : CellIs wr g (o + k * 2) a := ⟨hca, hgl⟩
      have hcB : CellIs wr g (o + k * 2 + 1) b := ⟨hcb, hgl⟩
      have HF1 := Lib.hid hf1
      have hFr := HFr.out
      have hXr := HXr.out.at
      have hYr := HYr.out.at
      have hBr := Below.refl wr.heap.size wr
      have HO1 := Lib.hid (HFS.out f1 (List.mem_of_getElem? hf1))
      clear hf1 hca hcb hgl HFr HXr HYr HVr
      by_cases hi : f1.ins = f.ins
      · have HD1 : Hid (decide (f1.ins = f.ins) = true) := decide_eq_true hi
        by_cases ho : f1.outs = f.outs
        · have HD2 : Hid (decide (f1.outs = f.outs) = true) := decide_eq_true ho
          have HMEM : Hid (noteT fs f = fs) := noteT_mem fs f (by
            have e : f1 = f := by cases f1; cases f; simp only at hi ho; rw [hi, ho]
            rw [← e]; exact List.mem_of_getElem? HF1.out)
          clear hi ho
          go_wp2_with fail
          refine wp_region_held_drew (S := fun x => Blk x (hb) #[Value.slice xa p xc, Value.slice ya m yc] 35 ∧ CellIs x g (o + k * 2) a ∧ CellIs x g (o + k * 2 + 1) b ∧ HashesAt x a f1.ins ∧ HashesAt x b f1.outs ∧ HashesAt x (Value.slice xa p xc) f.ins ∧ HashesAt x (Value.slice ya m yc) f.outs ∧ Below wr.heap.size wr x) (by kernel_rfl) ⟨hFr.drew, hcA.below (below_drewN (Below.refl _ _) 1), hcB.below (below_drewN (Below.refl _ _) 1), ha.below (below_drewN (Below.refl _ _) 1), hbq.below (below_drewN (Below.refl _ _) 1), hXr.below (below_drewN (Below.refl _ _) 1), hYr.below (below_drewN (Below.refl _ _) 1), below_drewN hBr 1⟩ (fun hSq33 => ?_)
          refine wpAnyH_take (i := 0) (v := Value.slice (some ⟨g, o, none⟩) n vc) rfl (by kernel_rfl) (by kernel_rfl) (by kernel_rfl) (fun _ _ _ h => h) (Or.inl ⟨by rfl, fun x hx => by go_simp⟩) hSq33 ?_
          simp only [Act.put, List.getElem_toArray, List.getElem_cons_zero, List.getElem_cons_succ, List.setIfInBounds_toArray, List.set_cons_zero, List.set_cons_succ]
          refine wpAnyH_take (i := 1) (v := Value.int .i64 (k : Nat)) rfl (by kernel_rfl) (by kernel_rfl) (by kernel_rfl) (fun _ _ _ h => h) (Or.inl ⟨by rfl, fun x hx => by go_simp⟩) hSq33 ?_
          simp only [Act.put, List.getElem_toArray, List.getElem_cons_zero, List.getElem_cons_succ, List.setIfInBounds_toArray, List.set_cons_zero, List.set_cons_succ]
          refine wpAnyH_take (i := 2) (v := Value.pointer (some ⟨g, o + k * 2, none⟩)) rfl (by kernel_rfl) (by kernel_rfl) (by kernel_rfl) (fun _ _ _ h => h) (Or.inl ⟨by rfl, fun x hx => by go_simp⟩) hSq33 ?_
          simp only [Act.put, List.getElem_toArray, List.getElem_cons_zero, List.getElem_cons_succ, List.setIfInBounds_toArray, List.set_cons_zero, List.set_cons_succ]
          refine wpAnyH_take (i := 3) (v := Value.pointer (some ⟨g, o + k * 2, none⟩)) rfl (by kernel_rfl) (by kernel_rfl) (by kernel_rfl) (fun _ _ _ h => h) (Or.inl ⟨by rfl, fun x hx => by go_simp⟩) hSq33 ?_
          simp only [Act.put, List.getElem_toArray, List.getElem_cons_zero, List.getElem_cons_succ, List.setIfInBounds_toArray, List.set_cons_zero, List.set_cons_succ]
          refine wpAnyH_take (i := 4) (v := a) rfl (by kernel_rfl) (by kernel_rfl) (by kernel_rfl) (fun _ _ _ h => h) (Or.inl ⟨by rfl, fun x hx => by have hc := hx.2.1.1; go_simp⟩) hSq33 ?_
          simp only [Act.put, List.getElem_toArray, List.getElem_cons_zero, List.getElem_cons_succ, List.setIfInBounds_toArray, List.set_cons_zero, List.set_cons_succ]
          refine wpAnyH_take (i := 5) (v := Value.pointer (some ⟨hb, 0, none⟩)) rfl (by kernel_rfl) (by kernel_rfl) (by kernel_rfl) (fun _ _ _ h => h) (Or.inl ⟨by rfl, fun x hx => by go_simp⟩) hSq33 ?_
          simp only [Act.put, List.getElem_toArray, List.getElem_cons_zero, List.getElem_cons_succ, List.setIfInBounds_toArray, List.set_cons_zero, List.set_cons_succ]
          refine wpAnyH_take (i := 6) (v := Value.slice xa p xc) rfl (by kernel_rfl) (by kernel_rfl) (by kernel_rfl) (fun _ _ _ h => h) (Or.inl ⟨by rfl, fun x hx => by have hc := hx.1.cell 0 _ rfl; go_simp⟩) hSq33 ?_
          simp only [Act.put, List.getElem_toArray, List.getElem_cons_zero, List.getElem_cons_succ, List.setIfInBounds_toArray, List.set_cons_zero, List.set_cons_succ]
          refine wpAnyH_ready (rs := [7]) (by kernel_rfl) (by simp) ?_
          refine AllReadyH.cons rfl (fun K hK => ?_) AllReadyH.nil
          go_simp
          go_wp2_with (go_at_call 18; refine (Alike_calls _ _ f1.ins f.ins _ hSq33.2.2.2.1 hSq33.2.2.2.2.2.1 HO1.out.li HF.out.li).mono ?_; rintro e yq34 ⟨rfl, bq35⟩; rw [HD1.out])
          refine hK.out _ _ ⟨hSq33.1.below bq35 hSq33.1.lt, hSq33.2.1.below bq35, hSq33.2.2.1.below bq35, hSq33.2.2.2.1.below bq35, hSq33.2.2.2.2.1.below bq35, hSq33.2.2.2.2.2.1.below bq35, hSq33.2.2.2.2.2.2.1.below bq35, hSq33.2.2.2.2.2.2.2.trans (bq35.mono (hSq33.2.2.2.2.2.2.2.size))⟩ (fun hSq36 => ?_)
          clear hK K hSq33 bq35
          refine wpAnyH_take (i := 8) (v := Value.bool true) rfl (by kernel_rfl) (by kernel_rfl) (by kernel_rfl) (fun _ _ _ h => h) (Or.inl ⟨by rfl, fun x hx => by go_simp⟩) hSq36 ?_
          simp only [Act.put, List.getElem_toArray, List.getElem_cons_zero, List.getElem_cons_succ, List.setIfInBounds_toArray, List.set_cons_zero, List.set_cons_succ]
          refine wpAnyH_take (i := 9) (v := Value.slice (some ⟨g, o, none⟩) n vc) rfl (by kernel_rfl) (by kernel_rfl) (by kernel_rfl) (fun _ _ _ h => h) (Or.inl ⟨by rfl, fun x hx => by go_simp⟩) hSq36 ?_
          simp only [Act.put, List.getElem_toArray, List.getElem_cons_zero, List.getElem_cons_succ, List.setIfInBounds_toArray, List.set_cons_zero, List.set_cons_succ]
          refine wpAnyH_take (i := 10) (v := Value.int .i64 (k : Nat)) rfl (by kernel_rfl) (by kernel_rfl) (by kernel_rfl) (fun _ _ _ h => h) (Or.inl ⟨by rfl, fun x hx => by go_simp⟩) hSq36 ?_
          simp only [Act.put, List.getElem_toArray, List.getElem_cons_zero, List.getElem_cons_succ, List.setIfInBounds_toArray, List.set_cons_zero, List.set_cons_succ]
          refine wpAnyH_take (i := 11) (v := Value.pointer (some ⟨g, o + k * 2, none⟩)) rfl (by kernel_rfl) (by kernel_rfl) (by kernel_rfl) (fun _ _ _ h => h) (Or.inl ⟨by rfl, fun x hx => by go_simp⟩) hSq36 ?_
          simp only [Act.put, List.getElem_toArray, List.getElem_cons_zero, List.getElem_cons_succ, List.setIfInBounds_toArray, List.set_cons_zero, List.set_cons_succ]
          refine wpAnyH_take (i := 12) (v := Value.pointer (some ⟨g, o + k * 2 + 1, none⟩)) rfl (by kernel_rfl) (by kernel_rfl) (by kernel_rfl) (fun _ _ _ h => h) (Or.inl ⟨by rfl, fun x hx => by go_simp⟩) hSq36 ?_
          simp only [Act.put, List.getElem_toArray, List.getElem_cons_zero, List.getElem_cons_succ, List.setIfInBounds_toArray, List.set_cons_zero, List.set_cons_succ]
          refine wpAnyH_take (i := 13) (v := b) rfl (by kernel_rfl) (by kernel_rfl) (by kernel_rfl) (fun _ _ _ h => h) (Or.inl ⟨by rfl, fun x hx => by have hc := hx.2.2.1.1; go_simp⟩) hSq36 ?_
          simp only [Act.put, List.getElem_toArray, List.getElem_cons_zero, List.getElem_cons_succ, List.setIfInBounds_toArray, List.set_cons_zero, List.set_cons_succ]
          refine wpAnyH_take (i := 14) (v := Value.pointer (some ⟨hb, 1, none⟩)) rfl (by kernel_rfl) (by kernel_rfl) (by kernel_rfl) (fun _ _ _ h => h) (Or.inl ⟨by rfl, fun x hx => by go_simp⟩) hSq36 ?_
          simp only [Act.put, List.getElem_toArray, List.getElem_cons_zero, List.getElem_cons_succ, List.setIfInBounds_toArray, List.set_cons_zero, List.set_cons_succ]
          refine wpAnyH_take (i := 15) (v := Value.slice ya m yc) rfl (by kernel_rfl) (by kernel_rfl) (by kernel_rfl) (fun _ _ _ h => h) (Or.inl ⟨by rfl, fun x hx => by have hc := hx.1.cell 1 _ rfl; go_simp⟩) hSq36 ?_
          simp only [Act.put, List.getElem_toArray, List.getElem_cons_zero, List.getElem_cons_succ, List.setIfInBounds_toArray, List.set_cons_zero, List.set_cons_succ]
          refine wpAnyH_ready (rs := [16]) (by kernel_rfl) (by simp) ?_
          refine AllReadyH.cons rfl (fun K hK => ?_) AllReadyH.nil
          go_simp
          go_wp2_with (go_at_call 18; refine (Alike_calls _ _ f1.outs f.outs _ hSq36.2.2.2.2.1 hSq36.2.2.2.2.2.2.1 HO1.out.lo HF.out.lo).mono ?_; rintro e yq37 ⟨rfl, bq38⟩; rw [HD2.out])
          refine hK.out _ _ ⟨hSq36.1.below bq38 hSq36.1.lt, hSq36.2.1.below bq38, hSq36.2.2.1.below bq38, hSq36.2.2.2.1.below bq38, hSq36.2.2.2.2.1.below bq38, hSq36.2.2.2.2.2.1.below bq38, hSq36.2.2.2.2.2.2.1.below bq38, hSq36.2.2.2.2.2.2.2.trans (bq38.mono (hSq36.2.2.2.2.2.2.2.size))⟩ (fun hSq39 => ?_)
          clear hK K hSq36 bq38
          refine wpAnyH_take (i := 17) (v := Value.bool true) rfl (by kernel_rfl) (by kernel_rfl) (by kernel_rfl) (fun _ _ _ h => h) (Or.inl ⟨by rfl, fun x hx => by go_simp⟩) hSq39 ?_
          simp only [Act.put, List.getElem_toArray, List.getElem_cons_zero, List.getElem_cons_succ, List.setIfInBounds_toArray, List.set_cons_zero, List.set_cons_succ]
          refine wpAnyH_done (by kernel_rfl) ?_ _
          have hBf := Lib.hid hSq39.2.2.2.2.2.2.2
          clear hSq39
          go_wp2_with fail
          go_returns
          have hbz : Below w.heap.size w _ := HB1.out.trans ((HB.out.trans (hBf.out.mono HB.out.size)).mono HB1.out.size)
          exact ⟨_, ret_tup (noteE_ok f HO0.out).symm, by rw [HMEM.out]; exact HV1.out.below (HB.out.trans (hBf.out.mono HB.out.size)), Frm.ofBelow hbz, hbz.mono hbw⟩
        · have HD2 : Hid (decide (f1.outs = f.outs) = false) := decide_eq_false ho
          have HNE : Hid (f1 ≠ f) := fun e => ho (by rw [e])
          clear hi ho
          go_wp2_with fail
          refine wp_region_held_drew (S := fun x => Blk x (hb) #[Value.slice xa p xc, Value.slice ya m yc] 35 ∧ CellIs x g (o + k * 2) a ∧ CellIs x g (o + k * 2 + 1) b ∧ HashesAt x a f1.ins ∧ HashesAt x b f1.outs ∧ HashesAt x (Value.slice xa p xc) f.ins ∧ HashesAt x (Value.slice ya m yc) f.outs ∧ Below wr.heap.size wr x) (by kernel_rfl) ⟨hFr.drew, hcA.below (below_drewN (Below.refl _ _) 1), hcB.below (below_drewN (Below.refl _ _) 1), ha.below (below_drewN (Below.refl _ _) 1), hbq.below (below_drewN (Below.refl _ _) 1), hXr.below (below_drewN (Below.refl _ _) 1), hYr.below (below_drewN (Below.refl _ _) 1), below_drewN hBr 1⟩ (fun hSq40 => ?_)
          refine wpAnyH_take (i := 0) (v := Value.slice (some ⟨g, o, none⟩) n vc) rfl (by kernel_rfl) (by kernel_rfl) (by kernel_rfl) (fun _ _ _ h => h) (Or.inl ⟨by rfl, fun x hx => by go_simp⟩) hSq40 ?_
          simp only [Act.put, List.getElem_toArray, List.getElem_cons_zero, List.getElem_cons_succ, List.setIfInBounds_toArray, List.set_cons_zero, List.set_cons_succ]
          refine wpAnyH_take (i := 1) (v := Value.int .i64 (k : Nat)) rfl (by kernel_rfl) (by kernel_rfl) (by kernel_rfl) (fun _ _ _ h => h) (Or.inl ⟨by rfl, fun x hx => by go_simp⟩) hSq40 ?_
          simp only [Act.put, List.getElem_toArray, List.getElem_cons_zero, List.getElem_cons_succ, List.setIfInBounds_toArray, List.set_cons_zero, List.set_cons_succ]
          refine wpAnyH_take (i := 2) (v := Value.pointer (some ⟨g, o + k * 2, none⟩)) rfl (by kernel_rfl) (by kernel_rfl) (by kernel_rfl) (fun _ _ _ h => h) (Or.inl ⟨by rfl, fun x hx => by go_simp⟩) hSq40 ?_
          simp only [Act.put, List.getElem_toArray, List.getElem_cons_zero, List.getElem_cons_succ, List.setIfInBounds_toArray, List.set_cons_zero, List.set_cons_succ]
          refine wpAnyH_take (i := 3) (v := Value.pointer (some ⟨g, o + k * 2, none⟩)) rfl (by kernel_rfl) (by kernel_rfl) (by kernel_rfl) (fun _ _ _ h => h) (Or.inl ⟨by rfl, fun x hx => by go_simp⟩) hSq40 ?_
          simp only [Act.put, List.getElem_toArray, List.getElem_cons_zero, List.getElem_cons_succ, List.setIfInBounds_toArray, List.set_cons_zero, List.set_cons_succ]
          refine wpAnyH_take (i := 4) (v := a) rfl (by kernel_rfl) (by kernel_rfl) (by kernel_rfl) (fun _ _ _ h => h) (Or.inl ⟨by rfl, fun x hx => by have hc := hx.2.1.1; go_simp⟩) hSq40 ?_
          simp only [Act.put, List.getElem_toArray, List.getElem_cons_zero, List.getElem_cons_succ, List.setIfInBounds_toArray, List.set_cons_zero, List.set_cons_succ]
          refine wpAnyH_take (i := 5) (v := Value.pointer (some ⟨hb, 0, none⟩)) rfl (by kernel_rfl) (by kernel_rfl) (by kernel_rfl) (fun _ _ _ h => h) (Or.inl ⟨by rfl, fun x hx => by go_simp⟩) hSq40 ?_
          simp only [Act.put, List.getElem_toArray, List.getElem_cons_zero, List.getElem_cons_succ, List.setIfInBounds_toArray, List.set_cons_zero, List.set_cons_succ]
          refine wpAnyH_take (i := 6) (v := Value.slice xa p xc) rfl (by kernel_rfl) (by kernel_rfl) (by kernel_rfl) (fun _ _ _ h => h) (Or.inl ⟨by rfl, fun x hx => by have hc := hx.1.cell 0 _ rfl; go_simp⟩) hSq40 ?_
          simp only [Act.put, List.getElem_toArray, List.getElem_cons_zero, List.getElem_cons_succ, List.setIfInBounds_toArray, List.set_cons_zero, List.set_cons_succ]
          refine wpAnyH_ready (rs := [7]) (by kernel_rfl) (by simp) ?_
          refine AllReadyH.cons rfl (fun K hK => ?_) AllReadyH.nil
          go_simp
          go_wp2_with (go_at_call 18; refine (Alike_calls _ _ f1.ins f.ins _ hSq40.2.2.2.1 hSq40.2.2.2.2.2.1 HO1.out.li HF.out.li).mono ?_; rintro e yq41 ⟨rfl, bq42⟩; rw [HD1.out])
          refine hK.out _ _ ⟨hSq40.1.below bq42 hSq40.1.lt, hSq40.2.1.below bq42, hSq40.2.2.1.below bq42, hSq40.2.2.2.1.below bq42, hSq40.2.2.2.2.1.below bq42, hSq40.2.2.2.2.2.1.below bq42, hSq40.2.2.2.2.2.2.1.below bq42, hSq40.2.2.2.2.2.2.2.trans (bq42.mono (hSq40.2.2.2.2.2.2.2.size))⟩ (fun hSq43 => ?_)
          clear hK K hSq40 bq42
          refine wpAnyH_take (i := 8) (v := Value.bool true) rfl (by kernel_rfl) (by kernel_rfl) (by kernel_rfl) (fun _ _ _ h => h) (Or.inl ⟨by rfl, fun x hx => by go_simp⟩) hSq43 ?_
          simp only [Act.put, List.getElem_toArray, List.getElem_cons_zero, List.getElem_cons_succ, List.setIfInBounds_toArray, List.set_cons_zero, List.set_cons_succ]
          refine wpAnyH_take (i := 9) (v := Value.slice (some ⟨g, o, none⟩) n vc) rfl (by kernel_rfl) (by kernel_rfl) (by kernel_rfl) (fun _ _ _ h => h) (Or.inl ⟨by rfl, fun x hx => by go_simp⟩) hSq43 ?_
          simp only [Act.put, List.getElem_toArray, List.getElem_cons_zero, List.getElem_cons_succ, List.setIfInBounds_toArray, List.set_cons_zero, List.set_cons_succ]
          refine wpAnyH_take (i := 10) (v := Value.int .i64 (k : Nat)) rfl (by kernel_rfl) (by kernel_rfl) (by kernel_rfl) (fun _ _ _ h => h) (Or.inl ⟨by rfl, fun x hx => by go_simp⟩) hSq43 ?_
          simp only [Act.put, List.getElem_toArray, List.getElem_cons_zero, List.getElem_cons_succ, List.setIfInBounds_toArray, List.set_cons_zero, List.set_cons_succ]
          refine wpAnyH_take (i := 11) (v := Value.pointer (some ⟨g, o + k * 2, none⟩)) rfl (by kernel_rfl) (by kernel_rfl) (by kernel_rfl) (fun _ _ _ h => h) (Or.inl ⟨by rfl, fun x hx => by go_simp⟩) hSq43 ?_
          simp only [Act.put, List.getElem_toArray, List.getElem_cons_zero, List.getElem_cons_succ, List.setIfInBounds_toArray, List.set_cons_zero, List.set_cons_succ]
          refine wpAnyH_take (i := 12) (v := Value.pointer (some ⟨g, o + k * 2 + 1, none⟩)) rfl (by kernel_rfl) (by kernel_rfl) (by kernel_rfl) (fun _ _ _ h => h) (Or.inl ⟨by rfl, fun x hx => by go_simp⟩) hSq43 ?_
          simp only [Act.put, List.getElem_toArray, List.getElem_cons_zero, List.getElem_cons_succ, List.setIfInBounds_toArray, List.set_cons_zero, List.set_cons_succ]
          refine wpAnyH_take (i := 13) (v := b) rfl (by kernel_rfl) (by kernel_rfl) (by kernel_rfl) (fun _ _ _ h => h) (Or.inl ⟨by rfl, fun x hx => by have hc := hx.2.2.1.1; go_simp⟩) hSq43 ?_
          simp only [Act.put, List.getElem_toArray, List.getElem_cons_zero, List.getElem_cons_succ, List.setIfInBounds_toArray, List.set_cons_zero, List.set_cons_succ]
          refine wpAnyH_take (i := 14) (v := Value.pointer (some ⟨hb, 1, none⟩)) rfl (by kernel_rfl) (by kernel_rfl) (by kernel_rfl) (fun _ _ _ h => h) (Or.inl ⟨by rfl, fun x hx => by go_simp⟩) hSq43 ?_
          simp only [Act.put, List.getElem_toArray, List.getElem_cons_zero, List.getElem_cons_succ, List.setIfInBounds_toArray, List.set_cons_zero, List.set_cons_succ]
          refine wpAnyH_take (i := 15) (v := Value.slice ya m yc) rfl (by kernel_rfl) (by kernel_rfl) (by kernel_rfl) (fun _ _ _ h => h) (Or.inl ⟨by rfl, fun x hx => by have hc := hx.1.cell 1 _ rfl; go_simp⟩) hSq43 ?_
          simp only [Act.put, List.getElem_toArray, List.getElem_cons_zero, List.getElem_cons_succ, List.setIfInBounds_toArray, List.set_cons_zero, List.set_cons_succ]
          refine wpAnyH_ready (rs := [16]) (by kernel_rfl) (by simp) ?_
          refine AllReadyH.cons rfl (fun K hK => ?_) AllReadyH.nil
          go_simp
          go_wp2_with (go_at_call 18; refine (Alike_calls _ _ f1.outs f.outs _ hSq43.2.2.2.2.1 hSq43.2.2.2.2.2.2.1 HO1.out.lo HF.out.lo).mono ?_; rintro e yq44 ⟨rfl, bq45⟩; rw [HD2.out])
          refine hK.out _ _ ⟨hSq43.1.below bq45 hSq43.1.lt, hSq43.2.1.below bq45, hSq43.2.2.1.below bq45, hSq43.2.2.2.1.below bq45, hSq43.2.2.2.2.1.below bq45, hSq43.2.2.2.2.2.1.below bq45, hSq43.2.2.2.2.2.2.1.below bq45, hSq43.2.2.2.2.2.2.2.trans (bq45.mono (hSq43.2.2.2.2.2.2.2.size))⟩ (fun hSq46 => ?_)
          clear hK K hSq43 bq45
          refine wpAnyH_take (i := 17) (v := Value.bool false) rfl (by kernel_rfl) (by kernel_rfl) (by kernel_rfl) (fun _ _ _ h => h) (Or.inl ⟨by rfl, fun x hx => by go_simp⟩) hSq46 ?_
          simp only [Act.put, List.getElem_toArray, List.getElem_cons_zero, List.getElem_cons_succ, List.setIfInBounds_toArray, List.set_cons_zero, List.set_cons_succ]
          refine wpAnyH_done (by kernel_rfl) ?_ _
          have hBf := Lib.hid hSq46.2.2.2.2.2.2.2
          clear hSq46
          go_wp2_with fail
          go_roundw
          case rel => exact ⟨k + 1, by omega, by go_num, Lib.hid (by
            obtain ⟨h3, h4⟩ := List.getElem?_eq_some_iff.1 HF1.out
            rw [List.take_succ_eq_append_getElem h3, h4, List.mem_append]
            rintro (h5 | h5)
            · exact HK.out h5
            · exact HNE.out (List.mem_singleton.1 h5).symm), Lib.hid (HB.out.trans (hBf.out.mono HB.out.size))⟩
          case measure => simp [intOf]; omega
      · have HD1 : Hid (decide (f1.ins = f.ins) = false) := decide_eq_false hi
        have HNE : Hid (f1 ≠ f) := fun e => hi (by rw [e])
        clear hi
        go_wp2_with fail
        refine wp_region_held_drew (S := fun x => Blk x (hb) #[Value.slice xa p xc, Value.slice ya m yc] 35 ∧ CellIs x g (o + k * 2) a ∧ CellIs x g (o + k * 2 + 1) b ∧ HashesAt x a f1.ins ∧ HashesAt x b f1.outs ∧ HashesAt x (Value.slice xa p xc) f.ins ∧ HashesAt x (Value.slice ya m yc) f.outs ∧ Below wr.heap.size wr x) (by kernel_rfl) ⟨hFr.drew, hcA.below (below_drewN (Below.refl _ _) 1), hcB.below (below_drewN (Below.refl _ _) 1), ha.below (below_drewN (Below.refl _ _) 1), hbq.below (below_drewN (Below.refl _ _) 1), hXr.below (below_drewN (Below.refl _ _) 1), hYr.below (below_drewN (Below.refl _ _) 1), below_drewN hBr 1⟩ (fun hSq47 => ?_)
        refine wpAnyH_take (i := 0) (v := Value.slice (some ⟨g, o, none⟩) n vc) rfl (by kernel_rfl) (by kernel_rfl) (by kernel_rfl) (fun _ _ _ h => h) (Or.inl ⟨by rfl, fun x hx => by go_simp⟩) hSq47 ?_
        simp only [Act.put, List.getElem_toArray, List.getElem_cons_zero, List.getElem_cons_succ, List.setIfInBounds_toArray, List.set_cons_zero, List.set_cons_succ]
        refine wpAnyH_take (i := 1) (v := Value.int .i64 (k : Nat)) rfl (by kernel_rfl) (by kernel_rfl) (by kernel_rfl) (fun _ _ _ h => h) (Or.inl ⟨by rfl, fun x hx => by go_simp⟩) hSq47 ?_
        simp only [Act.put, List.getElem_toArray, List.getElem_cons_zero, List.getElem_cons_succ, List.setIfInBounds_toArray, List.set_cons_zero, List.set_cons_succ]
        refine wpAnyH_take (i := 2) (v := Value.pointer (some ⟨g, o + k * 2, none⟩)) rfl (by kernel_rfl) (by kernel_rfl) (by kernel_rfl) (fun _ _ _ h => h) (Or.inl ⟨by rfl, fun x hx => by go_simp⟩) hSq47 ?_
        simp only [Act.put, List.getElem_toArray, List.getElem_cons_zero, List.getElem_cons_succ, List.setIfInBounds_toArray, List.set_cons_zero, List.set_cons_succ]
        refine wpAnyH_take (i := 3) (v := Value.pointer (some ⟨g, o + k * 2, none⟩)) rfl (by kernel_rfl) (by kernel_rfl) (by kernel_rfl) (fun _ _ _ h => h) (Or.inl ⟨by rfl, fun x hx => by go_simp⟩) hSq47 ?_
        simp only [Act.put, List.getElem_toArray, List.getElem_cons_zero, List.getElem_cons_succ, List.setIfInBounds_toArray, List.set_cons_zero, List.set_cons_succ]
        refine wpAnyH_take (i := 4) (v := a) rfl (by kernel_rfl) (by kernel_rfl) (by kernel_rfl) (fun _ _ _ h => h) (Or.inl ⟨by rfl, fun x hx => by have hc := hx.2.1.1; go_simp⟩) hSq47 ?_
        simp only [Act.put, List.getElem_toArray, List.getElem_cons_zero, List.getElem_cons_succ, List.setIfInBounds_toArray, List.set_cons_zero, List.set_cons_succ]
        refine wpAnyH_take (i := 5) (v := Value.pointer (some ⟨hb, 0, none⟩)) rfl (by kernel_rfl) (by kernel_rfl) (by kernel_rfl) (fun _ _ _ h => h) (Or.inl ⟨by rfl, fun x hx => by go_simp⟩) hSq47 ?_
        simp only [Act.put, List.getElem_toArray, List.getElem_cons_zero, List.getElem_cons_succ, List.setIfInBounds_toArray, List.set_cons_zero, List.set_cons_succ]
        refine wpAnyH_take (i := 6) (v := Value.slice xa p xc) rfl (by kernel_rfl) (by kernel_rfl) (by kernel_rfl) (fun _ _ _ h => h) (Or.inl ⟨by rfl, fun x hx => by have hc := hx.1.cell 0 _ rfl; go_simp⟩) hSq47 ?_
        simp only [Act.put, List.getElem_toArray, List.getElem_cons_zero, List.getElem_cons_succ, List.setIfInBounds_toArray, List.set_cons_zero, List.set_cons_succ]
        refine wpAnyH_ready (rs := [7]) (by kernel_rfl) (by simp) ?_
        refine AllReadyH.cons rfl (fun K hK => ?_) AllReadyH.nil
        go_simp
        go_wp2_with (go_at_call 18; refine (Alike_calls _ _ f1.ins f.ins _ hSq47.2.2.2.1 hSq47.2.2.2.2.2.1 HO1.out.li HF.out.li).mono ?_; rintro e yq48 ⟨rfl, bq49⟩; rw [HD1.out])
        refine hK.out _ _ ⟨hSq47.1.below bq49 hSq47.1.lt, hSq47.2.1.below bq49, hSq47.2.2.1.below bq49, hSq47.2.2.2.1.below bq49, hSq47.2.2.2.2.1.below bq49, hSq47.2.2.2.2.2.1.below bq49, hSq47.2.2.2.2.2.2.1.below bq49, hSq47.2.2.2.2.2.2.2.trans (bq49.mono (hSq47.2.2.2.2.2.2.2.size))⟩ (fun hSq50 => ?_)
        clear hK K hSq47 bq49
        refine wpAnyH_take (i := 8) (v := Value.bool false) rfl (by kernel_rfl) (by kernel_rfl) (by kernel_rfl) (fun _ _ _ h => h) (Or.inl ⟨by rfl, fun x hx => by go_simp⟩) hSq50 ?_
        simp only [Act.put, List.getElem_toArray, List.getElem_cons_zero, List.getElem_cons_succ, List.setIfInBounds_toArray, List.set_cons_zero, List.set_cons_succ]
        refine wpAnyH_take (i := 9) (v := undef) rfl (by kernel_rfl) (by kernel_rfl) (by kernel_rfl) (fun _ _ _ h => h) (Or.inr ⟨by rfl, rfl⟩) hSq50 ?_
        simp only [Act.put, List.getElem_toArray, List.getElem_cons_zero, List.getElem_cons_succ, List.setIfInBounds_toArray, List.set_cons_zero, List.set_cons_succ]
        refine wpAnyH_take (i := 10) (v := undef) rfl (by kernel_rfl) (by kernel_rfl) (by kernel_rfl) (fun _ _ _ h => h) (Or.inr ⟨by rfl, rfl⟩) hSq50 ?_
        simp only [Act.put, List.getElem_toArray, List.getElem_cons_zero, List.getElem_cons_succ, List.setIfInBounds_toArray, List.set_cons_zero, List.set_cons_succ]
        refine wpAnyH_take (i := 11) (v := undef) rfl (by kernel_rfl) (by kernel_rfl) (by kernel_rfl) (fun _ _ _ h => h) (Or.inr ⟨by rfl, rfl⟩) hSq50 ?_
        simp only [Act.put, List.getElem_toArray, List.getElem_cons_zero, List.getElem_cons_succ, List.setIfInBounds_toArray, List.set_cons_zero, List.set_cons_succ]
        refine wpAnyH_take (i := 12) (v := undef) rfl (by kernel_rfl) (by kernel_rfl) (by kernel_rfl) (fun _ _ _ h => h) (Or.inr ⟨by rfl, rfl⟩) hSq50 ?_
        simp only [Act.put, List.getElem_toArray, List.getElem_cons_zero, List.getElem_cons_succ, List.setIfInBounds_toArray, List.set_cons_zero, List.set_cons_succ]
        refine wpAnyH_take (i := 13) (v := undef) rfl (by kernel_rfl) (by kernel_rfl) (by kernel_rfl) (fun _ _ _ h => h) (Or.inr ⟨by rfl, rfl⟩) hSq50 ?_
        simp only [Act.put, List.getElem_toArray, List.getElem_cons_zero, List.getElem_cons_succ, List.setIfInBounds_toArray, List.set_cons_zero, List.set_cons_succ]
        refine wpAnyH_take (i := 14) (v := undef) rfl (by kernel_rfl) (by kernel_rfl) (by kernel_rfl) (fun _ _ _ h => h) (Or.inr ⟨by rfl, rfl⟩) hSq50 ?_
        simp only [Act.put, List.getElem_toArray, List.getElem_cons_zero, List.getElem_cons_succ, List.setIfInBounds_toArray, List.set_cons_zero, List.set_cons_succ]
        refine wpAnyH_take (i := 15) (v := undef) rfl (by kernel_rfl) (by kernel_rfl) (by kernel_rfl) (fun _ _ _ h => h) (Or.inr ⟨by rfl, rfl⟩) hSq50 ?_
        simp only [Act.put, List.getElem_toArray, List.getElem_cons_zero, List.getElem_cons_succ, List.setIfInBounds_toArray, List.set_cons_zero, List.set_cons_succ]
        refine wpAnyH_take (i := 16) (v := undef) rfl (by kernel_rfl) (by kernel_rfl) (by kernel_rfl) (fun _ _ _ h => h) (Or.inr ⟨by rfl, rfl⟩) hSq50 ?_
        simp only [Act.put, List.getElem_toArray, List.getElem_cons_zero, List.getElem_cons_succ, List.setIfInBounds_toArray, List.set_cons_zero, List.set_cons_succ]
        refine wpAnyH_take (i := 17) (v := Value.bool false) rfl (by kernel_rfl) (by kernel_rfl) (by kernel_rfl) (fun _ _ _ h => h) (Or.inl ⟨by rfl, fun x hx => by go_simp⟩) hSq50 ?_
        simp only [Act.put, List.getElem_toArray, List.getElem_cons_zero, List.getElem_cons_succ, List.setIfInBounds_toArray, List.set_cons_zero, List.set_cons_succ]
        refine wpAnyH_done (by kernel_rfl) ?_ _
        have hBf := Lib.hid hSq50.2.2.2.2.2.2.2
        clear hSq50
        go_wp2_with fail
        go_roundw
        case rel => exact ⟨k + 1, by omega, by go_num, Lib.hid (by
          obtain ⟨h3, h4⟩ := List.getElem?_eq_some_iff.1 HF1.out
          rw [List.take_succ_eq_append_getElem h3, h4, List.mem_append]
          rintro (h5 | h5)
          · exact HK.out h5
          · exact HNE.out (List.mem_singleton.1 h5).symm), Lib.hid (HB.out.trans (hBf.out.mono HB.out.size))⟩
        case measure => simp [intOf]; omega
    · obtain rfl : n = k := by omega
      have HNM : Hid (f ∉ fs) := by
        show _ ∉ _
        have e := HK.out
        rwa [HN.out, List.take_length] at e
      have HWB2 : Hid (∀ x, Below wr.heap.size wr x → w.heap.size ≤ x.heap.size) := fun x b => Nat.le_trans HB1.out.size (Nat.le_trans HB.out.size b.size)
      have HWB : Hid (∀ x, Below wr.heap.size wr x → base ≤ x.heap.size) := fun x b => Nat.le_trans (Nat.le_trans hbw HB1.out.size) (Nat.le_trans HB.out.size b.size)
      have hFr := HFr.out
      have hBr := Below.refl wr.heap.size wr
      clear HFr
      go_wp2_with (first | ((with_reducible show wpList _ _ _ (⟨some 38, _, _, _, _, _⟩ :: _) _ _); refine wpList_load_mid rfl 35 (.tmp 3) rfl hb 0 (by rfl) [Value.slice xa p xc, Value.slice ya m yc] _ (blk_rangeP hFr) Try.underlying35 rfl Try.sizeRF ?_) | ((with_reducible show wpList _ _ _ (⟨some 39, _, _, _, _, _⟩ :: _) _ _); refine wpList_bs2 rfl 31 35 (.tmp 38) rfl #[Value.slice xa p xc, Value.slice ya m yc] (by rfl) Try.underlying31 _ 2 Try.infoRF2 rfl (by omega) (by omega) ?_; intro qq15 wq16 eqq17 szq18 bbq19 hNq20; have ltq21 : hb < wr.heap.size := hFr.lt; have hCq22 := Lib.hid (HVr.out.below bbq19); have hCq23 := Lib.hid (HXr.out.below bbq19); have hCq24 := Lib.hid (HYr.out.below bbq19); have hCq25 := hFr.below bbq19 hFr.lt; have hBq26 := hBr.trans (bbq19.mono (hBr.size)); clear HVr HXr HYr hFr hBr; clear bbq19 eqq17 szq18) | ((with_reducible show wpList _ _ _ (⟨some 40, _, _, _, _, _⟩ :: _) _ _); refine wpList_rfAppend rfl (.tmp 37) (.tmp 39) 31 rfl Try.underlying31 Try.infoRF3 base fs f _ (by rfl) hCq22.out _ _ hCq23.out hCq24.out qq15 1 (by rfl) _ hNq20 HNL.out (HWB.out wq16 hBq26) (fun q hq => Nat.lt_of_lt_of_le (HAW.out q hq) (HWB2.out wq16 hBq26)) ?_; intro vq27 wq28 hOq29 gq30 hfq31 hqq32; have HO4 := Lib.hid hOq29; have HF4 : Hid (Frm A (fun t => t = 35) (fun _ => False) wr wq28) := (Frm.ofBelow hBq26).trans hfq31; have HB4 : Hid (Below base wr wq28) := (hBq26.mono (HWB.out wr (Below.refl _ _))).grown gq30 (HWB.out wq16 hBq26) hqq32; clear hOq29 gq30 hfq31 hqq32 hNq20 hCq25 hBq26))
      go_returns
      have hbz : Below w.heap.size w wr := HB1.out.trans (HB.out.mono HB1.out.size)
      exact ⟨_, ret_tup (noteE_ok f HO0.out).symm, by rw [noteT_new fs f HNM.out HO0.out]; exact HO4.out, (Frm.ofBelow hbz).trans HF4.out, (hbz.mono hbw).trans HB4.out⟩
end Go.Proofs.Ytjlpdbaknhbgdaa
