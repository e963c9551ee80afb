/-
  bevyref08.Copy.
-/
import Derived.Test.YtjlpdbaknhbgdaaGreatTreeCopy
import Derived.Test.YtjlpdbaknhbgdaaGreatQBase
import Derived.WalkLawsBesides
import Derived.Deep.RegionHeld
import Derived.Outline
import Derived.Handy
set_option linter.unusedSimpArgs false
set_option linter.unusedVariables false
namespace Go.Proofs.YtjlpdbaknhbgdaaGreat
open Go.RowKit

theorem IntsO.row {α : Type} {cells : α → List Value} {size : Nat} {w w' : World} {base b2 : Nat} {u v : Value} {l : List Int} {e : TypeId} {L : List α} (h : IntsO w base u l) (g : w.grownBy w' v.ownBlock) (hv : ROwn cells size w b2 e v L) (he : 3 ≠ e) : IntsO w' base u l := by
  obtain ⟨ao, c, h1, h2⟩ := h
  exact ⟨ao, c, h1, h2.kept g (rows_apart h2 hv he)⟩
/-- What Copy has made: so many leaves, so many parents. -/
structure RcSt (N rb ob : Nat) (vl vp : Value) (T : TreeT) (i j : Nat) (cur : List Value) (x : World) : Prop where
  o : Blk x ob #[vl, vp] 27
  r : Blk x rb #[.slice none 0 0, .slice none 0 0] 27
  lv : ROwn LeafA.cells 97 x N 144 vl (T.leaves.take i)
  pv : ROwn parCellsN 66 x N 126 vp ((T.pars.take j).zip cur)
  len : cur.length = j
  done : ∀ (k : Nat) (q : ParA) (u : Value), T.pars[k]? = some q → cur[k]? = some u → IntsO x N u q.loose
theorem RcSt.below {N rb ob : Nat} {vl vp : Value} {T : TreeT} {i j : Nat} {cur : List Value} {x y : World} (h : RcSt N rb ob vl vp T i j cur x) (b : Below x.heap.size x y) : RcSt N rb ob vl vp T i j cur y :=
  ⟨h.o.below b h.o.lt, h.r.below b h.r.lt, h.lv.below b, h.pv.below b, h.len, fun k q u h1 h2 => (h.done k q u h1 h2).below b⟩
theorem par_setL (q : ParA) (u v : Value) : (q.cells u).toArray.setIfInBounds 65 v = (q.cells v).toArray := by
  rw [List.setIfInBounds_toArray]
  congr 1
  rw [ParA.cells, ParA.cells, show (65 : Nat) = 64 + 1 from rfl, List.set_cons_succ, List.set_append_right _ _ (by simp [q.hp]), List.set_append_right _ _ (by simp [q.hp, q.ha])]
  simp [q.hp, q.ha]
theorem par_cell65 (q : ParA) (u : Value) : (q.cells u).toArray[65]? = some u := by
  rw [List.getElem?_toArray, ParA.cells, List.getElem?_cons_succ, List.getElem?_append_right (by simp [q.hp]), List.getElem?_append_right (by simp [q.hp, q.ha])]; simp [q.hp, q.ha]
theorem par_size65 (q : ParA) (u : Value) : (q.cells u).toArray.size = 66 := by rw [List.size_toArray]; exact q.cells_len u
theorem take_one {α : Type} {l : List α} {i : Nat} {x : α} (h : l[i]? = some x) : l.take (i + 1) = l.take i ++ [x] := by rw [List.take_add_one, h]; rfl
theorem Tryz.zsLeaf : (Tryz.prog.info? 144).map (fun i => (i.zero, i.size)) = some (some (.agg zeroL.cells.toArray), 97) := by kernel_rfl
theorem Tryz.zsPar : (Tryz.prog.info? 126).map (fun i => (i.zero, i.size)) = some (some (.agg (zeroP.cells (.slice none 0 0)).toArray), 66) := by kernel_rfl
theorem Tryz.zsInt : (Tryz.prog.info? 3).map (fun i => (i.zero, i.size)) = some (some (.int .i64 0), 1) := by kernel_rfl
theorem Tryz.sizeLvS : (Tryz.prog.info? 24).map (·.size) = some 1 := by kernel_rfl
theorem Tryz.sizePvS : (Tryz.prog.info? 25).map (·.size) = some 1 := by kernel_rfl
set_option maxHeartbeats 16000000 in
set_option maxRecDepth 100000 in
theorem RCopy_calls (lo po : Option Addr) (n ac m pc : Nat) (lvs : List Value) (T : TreeT) (w : World) (hT : TreeIs w lo n ac po m pc lvs T) (hn : n ≤ 1000000) (hm : m ≤ 1000000) (hw : ∀ q ∈ T.pars, q.loose.length ≤ 1000000) :
    Calls Tryz.prog 131 #[.agg #[.slice lo n ac, .slice po m pc]] w fun e w' => ∃ lao lc pao pc2 cur, e = .returned (.agg #[.slice lao n lc, .slice pao m pc2]) ∧ TreeOwn w' w.heap.size lao n lc pao m pc2 cur T ∧ Below w.heap.size w w' := by
  obtain ⟨N, hN⟩ : ∃ N, N = w.heap.size := ⟨_, rfl⟩
  have HN : Hid (N = w.heap.size) := hN
  have hA0 : Blk ((w.alloc (.cells #[.slice lo n ac, .slice po m pc] 27)).alloc (.cells #[.slice none 0 0, .slice none 0 0] 27)) N #[.slice lo n ac, .slice po m pc] 27 := by rw [hN]; exact (Blk.new _ _ _).alloc _
  have hR0 : Blk ((w.alloc (.cells #[.slice lo n ac, .slice po m pc] 27)).alloc (.cells #[.slice none 0 0, .slice none 0 0] 27)) (N + 1) #[.slice none 0 0, .slice none 0 0] 27 := by rw [hN]; exact blk_nxt _ _ _ _
  have hb0 : Below N w ((w.alloc (.cells #[.slice lo n ac, .slice po m pc] 27)).alloc (.cells #[.slice none 0 0, .slice none 0 0] 27)) := by rw [hN]; exact ((Below.refl _ _).alloc (Nat.le_refl _) _).alloc (by simp) _
  have hsz : ((w.alloc (.cells #[.slice lo n ac, .slice po m pc] 27)).alloc (.cells #[.slice none 0 0, .slice none 0 0] 27)).heap.size = N + 2 := by rw [hN]; simp
  have HT := Lib.hid hT
  have HLN := Lib.hid hT.ln
  have HLM := Lib.hid hT.lm
  have HW := Lib.hid hw
  rw [← hN]
  clear hT hw
  go_enter Tryz.func131, Tryz.ntmps131
  go_upto_region 1 with fail
  obtain ⟨W1, hW1⟩ : ∃ z, z = (w.alloc (.cells #[.slice lo n ac, .slice po m pc] 27)).alloc (.cells #[.slice none 0 0, .slice none 0 0] 27) := ⟨_, rfl⟩
  rw [← hN]
  rw [← hW1] at hA0 hR0 hb0 hsz ⊢
  have HSZ := Lib.hid hsz
  clear hW1 hN hsz
  go_wp2_with (first | ((with_reducible show wpList _ _ _ (⟨some 9, _, _, _, _, _⟩ :: _) _ _); refine wpList_buildCells rfl 27 #[] rfl (#[.slice none 0 0, .slice none 0 0]) (by kernel_rfl) ?_) | ((with_reducible show wpList _ _ _ (⟨some 3, _, _, _, _, _⟩ :: _) _ _); refine wpList_allocZ rfl 27 rfl _ Tryz.zeroTree ?_; intro wq1 hsq2 baq3 hNq4) | ((with_reducible show wpList _ _ _ (⟨none, Op.store _ (.tmp 3) _, _, _, _, _⟩ :: _) _ _); refine wpList_storeBlk rfl 27 (.tmp 3) (.tmp 9) rfl (W1.heap.size) (#[.slice none 0 0, .slice none 0 0]) (by rfl) (by rfl) _ _ hNq4 (Tryz.sizeTree) (by rfl) (by simp [Value.oneCell']) ?_; intro wq5 hKq6 gq7; have bbq8 := below_new baq3 gq7 (Nat.le_refl _) baq3.size; have ltq9 : N < W1.heap.size := hA0.lt; have ltq10 : (N + 1) < W1.heap.size := hR0.lt; have hCq11 := hA0.below bbq8 hA0.lt; have hCq12 := hR0.below bbq8 hR0.lt; have hBq13 := hb0.trans (bbq8.mono (Nat.le_trans (Nat.le_of_eq HN.out) hb0.size)); clear hA0 hR0 hb0; clear bbq8 baq3 hNq4 gq7 hsq2))
  obtain ⟨ob, hob⟩ : ∃ z, z = W1.heap.size := ⟨_, rfl⟩
  have hO := hKq6
  rw [← hob] at hO ⊢
  have hobN : N ≤ ob ∧ ob ≠ N ∧ ob ≠ N + 1 := by have := HSZ.out; omega
  have HOB := Lib.hid hobN
  have HB0 := Lib.hid hCq11
  have HE0 := Lib.hid hBq13
  have HS0 : Hid (RcSt N (N + 1) ob (.slice none 0 0) (.slice none 0 0) T 0 0 [] wq5) := ⟨hO, hCq12, ROwn.nil _ _ _, by rw [List.take_zero]; exact ROwn.nil _ _ _, rfl, fun k q u h1 h2 => by simp at h2⟩
  clear hob hO hobN hCq11 hCq12 hKq6 hBq13 HSZ
  go_loopw [4] (fun j wr => ∃ (i : Nat) (vl : Value), i ≤ n ∧ j = .int .i64 i ∧ Hid (RcSt N (N + 1) ob vl (.slice none 0 0) T i 0 [] wr) ∧ Hid (Blk wr N #[.slice lo n ac, .slice po m pc] 27) ∧ Hid (Below N w wr)) (fun j _ => n - (intOf j).toNat)
  case atStart => exact ⟨0, _, by omega, rfl, HS0, HB0, HE0⟩
  case round =>
    clear HS0 HB0 HE0
    obtain ⟨i, vl, hi, rfl, HS, HB, HE⟩ := hrel
    have hcb := HB.out.cell 0 _ rfl
    by_cases hlt : i < n
    · obtain ⟨g, off, l, rfl, hx, _⟩ := HT.out.el.at i hlt
      have HRG : Hid (∀ y, Below N w y → y.rangeAt g (off + i * 97) l.cells) := fun y hy => (HT.out.el.below (by rw [← HN.out]; exact hy)).at' i _ hx
      have HX := Lib.hid hx
      have HTK : Hid ((T.leaves.take i).length = i) := by show _ = _; rw [List.length_take, HLN.out]; omega
      have hR := HS.out.lv.drew
      have hO := HS.out.o.drew
      have hQ := HS.out.r.drew
      have hB := HB.out
      have hE := HE.out
      clear hx HS HB HE
      go_wp2_with ((with_reducible show wpList _ _ _ (⟨some 12, _, _, _, _, _⟩ :: _) _ _); refine wpList_load1 rfl 24 (.tmp 11) rfl N 0 (by rfl) _ _ hcb Tryz.underlying24 rfl ?_)
      clear hcb
      refine wp_region_held_drew (S := fun x => Blk x (N) #[.slice (some ⟨g, off, none⟩) n ac, .slice po m pc] 27 ∧ Below N w x) (by kernel_rfl) ⟨hB.drew, below_drewN hE 1⟩ (fun hSq14 => ?_)
      refine wpAnyH_take (i := 0) (v := .pointer (some ⟨ob, 0, none⟩)) rfl (by kernel_rfl) (by kernel_rfl) (by kernel_rfl) (fun _ _ _ h => h) (Or.inl ⟨by rfl, fun x hx => by go_simp⟩) hSq14 ?_
      simp only [Act.put, List.getElem_toArray, List.getElem_cons_zero, List.getElem_cons_succ, List.setIfInBounds_toArray, List.set_cons_zero, List.set_cons_succ]
      refine wpAnyH_take (i := 2) (v := .pointer (some ⟨N, 0, none⟩)) rfl (by kernel_rfl) (by kernel_rfl) (by kernel_rfl) (fun _ _ _ h => h) (Or.inl ⟨by rfl, fun x hx => by go_simp⟩) hSq14 ?_
      simp only [Act.put, List.getElem_toArray, List.getElem_cons_zero, List.getElem_cons_succ, List.setIfInBounds_toArray, List.set_cons_zero, List.set_cons_succ]
      refine wpAnyH_take (i := 3) (v := .slice (some ⟨g, off, none⟩) n ac) rfl (by kernel_rfl) (by kernel_rfl) (by kernel_rfl) (fun _ _ _ h => h) (Or.inl ⟨by rfl, fun x hx => by have hc := hx.1.cell 0 _ rfl; go_simp⟩) hSq14 ?_
      simp only [Act.put, List.getElem_toArray, List.getElem_cons_zero, List.getElem_cons_succ, List.setIfInBounds_toArray, List.set_cons_zero, List.set_cons_succ]
      refine wpAnyH_take (i := 4) (v := .int .i64 i) rfl (by kernel_rfl) (by kernel_rfl) (by kernel_rfl) (fun _ _ _ h => h) (Or.inl ⟨by rfl, fun x hx => by go_simp⟩) hSq14 ?_
      simp only [Act.put, List.getElem_toArray, List.getElem_cons_zero, List.getElem_cons_succ, List.setIfInBounds_toArray, List.set_cons_zero, List.set_cons_succ]
      refine wpAnyH_take (i := 5) (v := .pointer (some ⟨g, off + i * 97, none⟩)) rfl (by kernel_rfl) (by kernel_rfl) (by kernel_rfl) (fun _ _ _ h => h) (Or.inl ⟨by rfl, fun x hx => by go_simp⟩) hSq14 ?_
      simp only [Act.put, List.getElem_toArray, List.getElem_cons_zero, List.getElem_cons_succ, List.setIfInBounds_toArray, List.set_cons_zero, List.set_cons_succ]
      refine wpAnyH_take (i := 6) rfl (by kernel_rfl) (by kernel_rfl) (by kernel_rfl) (fun _ _ _ h => h) (yieldsIf_load_mid (by rfl) 144 (.tmp 22) rfl (g) (off + i * 97) (by rfl) (l.cells) _ (fun x hx => HRG.out x hx.2) Tryz.underlying144 rfl (leaf_sizeL l)) hSq14 ?_
      simp only [Act.put, List.getElem_toArray, List.getElem_cons_zero, List.getElem_cons_succ, List.setIfInBounds_toArray, List.set_cons_zero, List.set_cons_succ]
      refine wpAnyH_ready (rs := [1, 7]) (by kernel_rfl) (by simp) ?_
      refine AllReadyH.cons rfl (fun K hK => ?_) ?_
      · have hcq15 := hO.cell 0 _ rfl
        go_simp
        clear hcq15
        refine hK.out _ _ hSq14 (fun hSq16 => ?_)
        clear hK K hSq14
        refine wpAnyH_ready (rs := [7]) (by kernel_rfl) (by simp) ?_
        refine AllReadyH.cons rfl (fun K hK => ?_) AllReadyH.nil
        rw [if_pos (by rfl)]
        refine wp_bsV 24 144 (.tmp 23) rfl (.agg l.cells.toArray) (by rfl) Tryz.underlying24 (.agg zeroL.cells.toArray) 97 Tryz.zsLeaf (by show l.cells.toArray.size = 97; rw [List.size_toArray]; exact l.cells_len) (by omega) (by omega) ?_
        intro yq17 szq18 bq19 nbq20
        have hRq22 := hR.below bq19
        have hOq23 := hO.below bq19 hO.lt
        have hQq24 := hQ.below bq19 hQ.lt
        refine hK.out _ _ ⟨hSq16.1.below bq19 hSq16.1.lt, hSq16.2.trans (bq19.mono (Nat.le_trans (Nat.le_of_eq HN.out) (hSq16.2.size)))⟩ (fun hSq21 => ?_)
        clear hK K hSq16 bq19 szq18 hR hO hQ
        refine wpAnyH_ready (rs := [8]) (by kernel_rfl) (by simp) ?_
        refine AllReadyH.cons rfl (fun K hK => ?_) AllReadyH.nil
        rw [if_pos (by rfl)]
        refine wp_append_R (.tmp 18) (.tmp 24) 24 rfl LeafA.cells_len leafCells_one N 144 (.agg zeroL.cells.toArray) 104 Tryz.underlying24 Tryz.infoLeaf3 (by show zeroL.cells.toArray.size = 97; rw [List.size_toArray]; exact zeroL.cells_len) (by omega) (by omega) _ (T.leaves.take i) [l] (by rfl) hRq22 _ (by rfl) (RAt.blk nbq20) (by intro _ e; cases e) (by rw [HTK.out]; simp; omega) (Nat.le_trans (Nat.le_of_eq HN.out) (hSq21.2.size)) ?_
        intro vq25 yq26 hRq27 gq28
        obtain ⟨aoq30, cq31, rfl⟩ := ROwn.slice hRq27
        have hRq32 := hRq22
        have hOq33 := hOq23.grown gq28 (fun e => own_ne hRq22 hOq23 (by decide) e.symm)
        have hQq34 := hQq24.grown gq28 (fun e => own_ne hRq22 hQq24 (by decide) e.symm)
        refine hK.out _ _ ⟨hSq21.1.grown gq28 (fun e => own_ne hRq22 hSq21.1 (by decide) e.symm), hSq21.2.grown gq28 (Nat.le_trans (Nat.le_of_eq HN.out) (hSq21.2.size)) (fun q e => (ROwn.lt hRq22 q e).1)⟩ (fun hSq29 => ?_)
        clear hK K hSq21 gq28 hRq22 hOq23 hQq24 nbq20
        refine wpAnyH_take (i := 9) (v := .pointer (some ⟨ob, 0, none⟩)) rfl (by kernel_rfl) (by kernel_rfl) (by kernel_rfl) (fun _ _ _ h => h) (Or.inl ⟨by rfl, fun x hx => by go_simp⟩) hSq29 ?_
        simp only [Act.put, List.getElem_toArray, List.getElem_cons_zero, List.getElem_cons_succ, List.setIfInBounds_toArray, List.set_cons_zero, List.set_cons_succ]
        refine wpAnyH_ready (rs := [10]) (by kernel_rfl) (by simp) ?_
        refine AllReadyH.cons rfl (fun K hK => ?_) AllReadyH.nil
        rw [if_pos (by rfl)]
        refine wp_store1 24 (.tmp 26) (.tmp 25) rfl ob 0 (.slice aoq30 ((T.leaves.take i) ++ [l]).length cq31) (by rfl) (by rfl) _ _ hOq33 (by simp) Tryz.sizeLvS rfl rfl ?_
        intro yq35 hOq36 gq37
        have hOq39 : Blk yq35 ob #[.slice aoq30 ((T.leaves.take i) ++ [l]).length cq31, .slice none 0 0] 27 := hOq36
        have hRq40 := hRq27.other gq37 hOq33 (by decide)
        have hOq41 := hOq33
        have hQq42 := hQq34.grown gq37 (fun e => HOB.out.2.2 (Option.some.inj e).symm)
        refine hK.out _ _ ⟨hSq29.1.grown gq37 (fun e => HOB.out.2.1 (Option.some.inj e).symm), hSq29.2.grown gq37 (Nat.le_trans (Nat.le_of_eq HN.out) (hSq29.2.size)) (fun q e => by cases e; exact HOB.out.1)⟩ (fun hSq38 => ?_)
        clear hK K hSq29 gq37 hOq36 hRq27 hOq33 hQq34
        refine wpAnyH_done (by kernel_rfl) ?_ _
        have hlen : ((T.leaves.take i) ++ [l]).length = i + 1 := by rw [List.length_append, HTK.out]; rfl
        have HS9 : Hid (RcSt N (N + 1) ob (.slice aoq30 ((T.leaves.take i) ++ [l]).length cq31) (.slice none 0 0) T (i + 1) 0 [] yq35) := ⟨hOq39, hQq42, by rw [take_one HX.out]; exact hRq40, ROwn.nil _ _ _, rfl, fun k q u h1 h2 => by simp at h2⟩
        have HB9 := Lib.hid (hSq38.1)
        have HE9 := Lib.hid (hSq38.2)
        clear hSq38 hOq39 hQq42 hRq40 hlen
        go_wp2_with fail
        go_roundw
        case rel => exact ⟨i + 1, _, by omega, by go_num, HS9, HB9, HE9⟩
        case measure => simp [intOf]; omega
      refine AllReadyH.cons rfl (fun K hK => ?_) AllReadyH.nil
      rw [if_pos (by rfl)]
      refine wp_bsV 24 144 (.tmp 23) rfl (.agg l.cells.toArray) (by rfl) Tryz.underlying24 (.agg zeroL.cells.toArray) 97 Tryz.zsLeaf (by show l.cells.toArray.size = 97; rw [List.size_toArray]; exact l.cells_len) (by omega) (by omega) ?_
      intro yq43 szq44 bq45 nbq46
      have hRq48 := hR.below bq45
      have hOq49 := hO.below bq45 hO.lt
      have hQq50 := hQ.below bq45 hQ.lt
      refine hK.out _ _ ⟨hSq14.1.below bq45 hSq14.1.lt, hSq14.2.trans (bq45.mono (Nat.le_trans (Nat.le_of_eq HN.out) (hSq14.2.size)))⟩ (fun hSq47 => ?_)
      clear hK K hSq14 bq45 szq44 hR hO hQ
      refine wpAnyH_ready (rs := [1]) (by kernel_rfl) (by simp) ?_
      refine AllReadyH.cons rfl (fun K hK => ?_) AllReadyH.nil
      have hcq51 := hOq49.cell 0 _ rfl
      go_simp
      clear hcq51
      refine hK.out _ _ hSq47 (fun hSq52 => ?_)
      clear hK K hSq47
      refine wpAnyH_ready (rs := [8]) (by kernel_rfl) (by simp) ?_
      refine AllReadyH.cons rfl (fun K hK => ?_) AllReadyH.nil
      rw [if_pos (by rfl)]
      refine wp_append_R (.tmp 18) (.tmp 24) 24 rfl LeafA.cells_len leafCells_one N 144 (.agg zeroL.cells.toArray) 104 Tryz.underlying24 Tryz.infoLeaf3 (by show zeroL.cells.toArray.size = 97; rw [List.size_toArray]; exact zeroL.cells_len) (by omega) (by omega) _ (T.leaves.take i) [l] (by rfl) hRq48 _ (by rfl) (RAt.blk nbq46) (by intro _ e; cases e) (by rw [HTK.out]; simp; omega) (Nat.le_trans (Nat.le_of_eq HN.out) (hSq52.2.size)) ?_
      intro vq53 yq54 hRq55 gq56
      obtain ⟨aoq58, cq59, rfl⟩ := ROwn.slice hRq55
      have hRq60 := hRq48
      have hOq61 := hOq49.grown gq56 (fun e => own_ne hRq48 hOq49 (by decide) e.symm)
      have hQq62 := hQq50.grown gq56 (fun e => own_ne hRq48 hQq50 (by decide) e.symm)
      refine hK.out _ _ ⟨hSq52.1.grown gq56 (fun e => own_ne hRq48 hSq52.1 (by decide) e.symm), hSq52.2.grown gq56 (Nat.le_trans (Nat.le_of_eq HN.out) (hSq52.2.size)) (fun q e => (ROwn.lt hRq48 q e).1)⟩ (fun hSq57 => ?_)
      clear hK K hSq52 gq56 hRq48 hOq49 hQq50 nbq46
      refine wpAnyH_take (i := 9) (v := .pointer (some ⟨ob, 0, none⟩)) rfl (by kernel_rfl) (by kernel_rfl) (by kernel_rfl) (fun _ _ _ h => h) (Or.inl ⟨by rfl, fun x hx => by go_simp⟩) hSq57 ?_
      simp only [Act.put, List.getElem_toArray, List.getElem_cons_zero, List.getElem_cons_succ, List.setIfInBounds_toArray, List.set_cons_zero, List.set_cons_succ]
      refine wpAnyH_ready (rs := [10]) (by kernel_rfl) (by simp) ?_
      refine AllReadyH.cons rfl (fun K hK => ?_) AllReadyH.nil
      rw [if_pos (by rfl)]
      refine wp_store1 24 (.tmp 26) (.tmp 25) rfl ob 0 (.slice aoq58 ((T.leaves.take i) ++ [l]).length cq59) (by rfl) (by rfl) _ _ hOq61 (by simp) Tryz.sizeLvS rfl rfl ?_
      intro yq63 hOq64 gq65
      have hOq67 : Blk yq63 ob #[.slice aoq58 ((T.leaves.take i) ++ [l]).length cq59, .slice none 0 0] 27 := hOq64
      have hRq68 := hRq55.other gq65 hOq61 (by decide)
      have hOq69 := hOq61
      have hQq70 := hQq62.grown gq65 (fun e => HOB.out.2.2 (Option.some.inj e).symm)
      refine hK.out _ _ ⟨hSq57.1.grown gq65 (fun e => HOB.out.2.1 (Option.some.inj e).symm), hSq57.2.grown gq65 (Nat.le_trans (Nat.le_of_eq HN.out) (hSq57.2.size)) (fun q e => by cases e; exact HOB.out.1)⟩ (fun hSq66 => ?_)
      clear hK K hSq57 gq65 hOq64 hRq55 hOq61 hQq62
      refine wpAnyH_done (by kernel_rfl) ?_ _
      have hlen : ((T.leaves.take i) ++ [l]).length = i + 1 := by rw [List.length_append, HTK.out]; rfl
      have HS9 : Hid (RcSt N (N + 1) ob (.slice aoq58 ((T.leaves.take i) ++ [l]).length cq59) (.slice none 0 0) T (i + 1) 0 [] yq63) := ⟨hOq67, hQq70, by rw [take_one HX.out]; exact hRq68, ROwn.nil _ _ _, rfl, fun k q u h1 h2 => by simp at h2⟩
      have HB9 := Lib.hid (hSq66.1)
      have HE9 := Lib.hid (hSq66.2)
      clear hSq66 hOq67 hQq70 hRq68 hlen
      go_wp2_with fail
      go_roundw
      case rel => exact ⟨i + 1, _, by omega, by go_num, HS9, HB9, HE9⟩
      case measure => simp [intOf]; omega
    · obtain rfl : i = n := by omega
      obtain ⟨n, rfl⟩ : ∃ z, z = i := ⟨_, rfl⟩
      have HS1 : Hid (RcSt N (N + 1) ob vl (.slice none 0 0) T n 0 [] wr) := HS.out
      have HB1 := HB
      have HE1 := HE
      clear HS HB HE hi hlt
      go_wp2_with ((with_reducible show wpList _ _ _ (⟨some 12, _, _, _, _, _⟩ :: _) _ _); refine wpList_load1 rfl 24 (.tmp 11) rfl N 0 (by rfl) _ _ hcb Tryz.underlying24 rfl ?_)
      clear hcb
      go_loopw [5] (fun j wr2 => ∃ (i : Nat) (vp : Value) (cur : List Value), i ≤ m ∧ j = .int .i64 i ∧ Hid (RcSt N (N + 1) ob vl vp T n i cur wr2) ∧ Hid (Blk wr2 N #[.slice lo n ac, .slice po m pc] 27) ∧ Hid (Below N w wr2)) (fun j _ => m - (intOf j).toNat)
      case atStart => exact ⟨0, _, [], by omega, rfl, HS1, HB1, HE1⟩
      case round =>
        clear HS1 HB1 HE1
        obtain ⟨i, vp, cur, hi, rfl, HS, HB, HE⟩ := hrel
        obtain ⟨wr2, rfl⟩ : ∃ z, z = wr := ⟨_, rfl⟩
        have hcb := HB.out.cell 1 _ rfl
        by_cases hlt : i < m
        · obtain ⟨g, off, qu, rfl, hx, _⟩ := HT.out.ep.at i hlt
          obtain ⟨q, u⟩ := qu
          have hrw : wr2.rangeAt g (off + i * 66) (q.cells u) := (HT.out.ep.below (by rw [← HN.out]; exact HE.out)).at' i _ hx
          obtain ⟨hq, hu⟩ := List.getElem?_zip_eq_some.1 hx
          obtain ⟨uo, uc, rfl, huc, hue, huw, hum⟩ := HT.out.lo i q u hq hu
          have HQ := Lib.hid hq
          have HQL : Hid (q.loose.length ≤ 1000000) := HW.out q (List.mem_of_getElem? hq)
          obtain ⟨ql, hql⟩ : ∃ ql, ql = q.loose.length := ⟨_, rfl⟩
          rw [← hql] at hue hrw
          have HUE : Hid (∀ y, Below N w y → Elems intCells 1 y uo ql q.loose) := fun y hy => hue.below (by rw [← HN.out]; exact hy)
          have HK := Lib.hid hql
          have hql2 : ql ≤ 1000000 := by rw [hql]; exact HQL.out
          have hB := HB.out
          have hE := HE.out
          have hb2 := Below.refl wr2.heap.size wr2
          have HB2 := Lib.hid hB
          have HE2 := Lib.hid hE
          clear hx hq hu huc hue huw hum hql HB HE
          go_wp2_with (first | ((with_reducible show wpList _ _ _ (⟨some 29, _, _, _, _, _⟩ :: _) _ _); refine wpList_load1 rfl 25 (.tmp 28) rfl N 1 (by rfl) _ _ hcb Tryz.underlying25 rfl ?_) | ((with_reducible show wpList _ _ _ (⟨some 35, _, _, _, _, _⟩ :: _) _ _); refine wpList_load1 rfl 25 (.tmp 34) rfl N 1 (by rfl) _ _ hcb Tryz.underlying25 rfl ?_) | ((with_reducible show wpList _ _ _ (⟨some 38, _, _, _, _, _⟩ :: _) _ _); refine wpList_load_mid rfl 126 (.tmp 37) rfl g (off + i * 66) (by rfl) (q.cells (.slice uo ql uc)) _ hrw Tryz.underlying126 rfl (par_sizeL q _) ?_) | ((with_reducible show wpList _ _ _ (⟨some 6, _, _, _, _, _⟩ :: _) _ _); refine wpList_allocZ rfl 126 rfl _ Tryz.zeroPar ?_; intro wq71 hsq72 baq73 hNq74) | ((with_reducible show wpList _ _ _ (⟨none, Op.store _ (.tmp 6) _, _, _, _, _⟩ :: _) _ _); refine wpList_storeBlk rfl 126 (.tmp 6) (.tmp 38) rfl (wr2.heap.size) ((q.cells (.slice uo ql uc)).toArray) (by rfl) (by rfl) _ _ hNq74 (par_sizeA q _) (par_hold q _) (par_all q _ _ _) ?_; intro wq75 hKq76 gq77; have bbq78 := below_new baq73 gq77 (Nat.le_refl _) baq73.size; have ltq79 : N < wr2.heap.size := hB.lt; have hCq80 := hB.below bbq78 hB.lt; have hBq81 := hb2.trans (bbq78.mono (hb2.size)); clear hB hb2; clear bbq78 baq73 hNq74 gq77 hsq72) | ((with_reducible show wpList _ _ _ (⟨some 40, _, _, _, _, _⟩ :: _) _ _); refine wpList_load1 rfl 40 (.tmp 39) rfl (wr2.heap.size) 65 (by rfl) _ _ (hKq76.cell 65 _ (par_cell65 q _)) Tryz.underlying40 rfl ?_) | ((with_reducible show wpList _ _ _ (⟨none, Op.store _ (.tmp 41) _, _, _, _, _⟩ :: _) _ _); refine wpList_store1 rfl 40 (.tmp 41) (.const (.slice none 0 0)) rfl (wr2.heap.size) 65 (.slice none 0 0) (by rfl) (by rfl) _ _ hKq76 (by rw [par_size65]; omega) Tryz.sizeIntsS rfl rfl ?_; intro wq82 hSq83 gq84; rw [par_setL] at hSq83; have hB8 := hCq80.grown gq84 (fun e => by have := HB2.out.lt; have e2 := Option.some.inj e; omega); have hE8 := hBq81.grown gq84 hBq81.size (fun q e => by cases e; exact Nat.le_refl _); clear hCq80 hBq81 gq84 hKq76))
          obtain ⟨pb, hpb⟩ : ∃ z, z = wr2.heap.size := ⟨_, rfl⟩
          have HPB := Lib.hid hpb
          have hP8 := hSq83
          have hIn : Blk wr2 N #[.slice lo n ac, .slice (some ⟨g, off, none⟩) m pc] 27 ∧ N ≤ pb ∧ N ≠ pb := ⟨HB2.out, by have := HB2.out.lt; omega, by have := HB2.out.lt; omega⟩
          rw [← hpb] at hP8 hE8 ⊢
          have HB1 := Lib.hid hB8
          have HP1 := Lib.hid hP8
          have HE1 := Lib.hid hE8
          have HNP : Hid (N ≤ pb ∧ N ≠ pb) := hIn.2
          clear hpb hSq83 hB8 hP8 hE8 hIn hcb hrw
          go_loopw [8] (fun j wr3 => ∃ (k : Nat) (v3 : Value), k ≤ ql ∧ j = .int .i64 k ∧ Hid (Blk wr3 N #[.slice lo n ac, .slice (some ⟨g, off, none⟩) m pc] 27) ∧ Hid (Blk wr3 pb (q.cells (v3)).toArray 126) ∧ Hid (ROwn intCells 1 wr3 pb 3 v3 (q.loose.take k)) ∧ Hid (Below pb wr2 wr3)) (fun j _ => ql - (intOf j).toNat)
          case atStart => exact ⟨0, _, by omega, rfl, HB1, HP1, (by rw [List.take_zero]; exact ROwn.nil _ _ _), HE1⟩
          case round =>
            clear HB1 HP1 HE1
            obtain ⟨k, v3, hk, rfl, HB3, HP3, HR3, HE3⟩ := hrel
            obtain ⟨wr3, rfl⟩ : ∃ z, z = wr := ⟨_, rfl⟩
            by_cases hkl : k < ql
            · have HBW : Hid (∀ y, Below pb wr2 y → Below N w y) := fun y hy => HE2.out.trans (hy.mono HNP.out.1)
              obtain ⟨qg, qoff, x, rfl, hx, _⟩ := (HUE.out wr3 (HBW.out _ HE3.out)).at k hkl
              have HCX : Hid (∀ y, Below pb wr2 y → y.cell? ⟨qg, qoff + k, none⟩ = some (.int .i64 x)) := fun y hy => by
                have := (HUE.out y (HBW.out _ hy)).at' k _ hx 0 _ rfl
                rwa [Nat.mul_one] at this
              have HX := Lib.hid hx
              have HTK : Hid ((q.loose.take k).length = k) := by show _ = _; rw [List.length_take, ← HK.out]; omega
              have hR := HR3.out.drew
              have hO := HP3.out.drew
              have hB := HB3.out
              have hE := HE3.out
              have hle : pb ≤ wr2.heap.size := Nat.le_of_eq HPB.out
              clear hx HB3 HP3 HR3 HE3
              go_wp2_with fail
              refine wp_region_held_drew (S := fun x => Blk x (N) #[.slice lo n ac, .slice (some ⟨g, off, none⟩) m pc] 27 ∧ Below pb wr2 x) (by kernel_rfl) ⟨hB.drew, below_drewN hE 1⟩ (fun hSq85 => ?_)
              refine wpAnyH_take (i := 0) (v := .pointer (some ⟨pb, 65, none⟩)) rfl (by kernel_rfl) (by kernel_rfl) (by kernel_rfl) (fun _ _ _ h => h) (Or.inl ⟨by rfl, fun x hx => by go_simp⟩) hSq85 ?_
              simp only [Act.put, List.getElem_toArray, List.getElem_cons_zero, List.getElem_cons_succ, List.setIfInBounds_toArray, List.set_cons_zero, List.set_cons_succ]
              refine wpAnyH_take (i := 2) (v := .slice (some ⟨qg, qoff, none⟩) ql uc) rfl (by kernel_rfl) (by kernel_rfl) (by kernel_rfl) (fun _ _ _ h => h) (Or.inl ⟨by rfl, fun x hx => by go_simp⟩) hSq85 ?_
              simp only [Act.put, List.getElem_toArray, List.getElem_cons_zero, List.getElem_cons_succ, List.setIfInBounds_toArray, List.set_cons_zero, List.set_cons_succ]
              refine wpAnyH_take (i := 3) (v := .int .i64 k) rfl (by kernel_rfl) (by kernel_rfl) (by kernel_rfl) (fun _ _ _ h => h) (Or.inl ⟨by rfl, fun x hx => by go_simp⟩) hSq85 ?_
              simp only [Act.put, List.getElem_toArray, List.getElem_cons_zero, List.getElem_cons_succ, List.setIfInBounds_toArray, List.set_cons_zero, List.set_cons_succ]
              refine wpAnyH_take (i := 4) (v := .pointer (some ⟨qg, qoff + k, none⟩)) rfl (by kernel_rfl) (by kernel_rfl) (by kernel_rfl) (fun _ _ _ h => h) (Or.inl ⟨by rfl, fun x hx => by go_simp⟩) hSq85 ?_
              simp only [Act.put, List.getElem_toArray, List.getElem_cons_zero, List.getElem_cons_succ, List.setIfInBounds_toArray, List.set_cons_zero, List.set_cons_succ]
              refine wpAnyH_take (i := 5) (v := .int .i64 x) rfl (by kernel_rfl) (by kernel_rfl) (by kernel_rfl) (fun _ _ _ h => h) (Or.inl ⟨by rfl, fun x hx => by have hc := HCX.out x hx.2; go_simp⟩) hSq85 ?_
              simp only [Act.put, List.getElem_toArray, List.getElem_cons_zero, List.getElem_cons_succ, List.setIfInBounds_toArray, List.set_cons_zero, List.set_cons_succ]
              refine wpAnyH_ready (rs := [1, 6]) (by kernel_rfl) (by simp) ?_
              refine AllReadyH.cons rfl (fun K hK => ?_) ?_
              · have hcq86 := hO.cell 65 _ (par_cell65 q _)
                go_simp
                clear hcq86
                refine hK.out _ _ hSq85 (fun hSq87 => ?_)
                clear hK K hSq85
                refine wpAnyH_ready (rs := [6]) (by kernel_rfl) (by simp) ?_
                refine AllReadyH.cons rfl (fun K hK => ?_) AllReadyH.nil
                rw [if_pos (by rfl)]
                refine wp_bsV 40 3 (.tmp 53) rfl (.int .i64 x) (by rfl) Tryz.underlying40 (.int .i64 0) 1 Tryz.zsInt (by rfl) (by omega) (by omega) ?_
                intro yq88 szq89 bq90 nbq91
                have hRq93 := hR.below bq90
                have hOq94 := hO.below bq90 hO.lt
                refine hK.out _ _ ⟨hSq87.1.below bq90 hSq87.1.lt, hSq87.2.trans (bq90.mono (Nat.le_trans hle hSq87.2.size))⟩ (fun hSq92 => ?_)
                clear hK K hSq87 bq90 szq89 hR hO
                refine wpAnyH_ready (rs := [7]) (by kernel_rfl) (by simp) ?_
                refine AllReadyH.cons rfl (fun K hK => ?_) AllReadyH.nil
                rw [if_pos (by rfl)]
                refine wp_append_R (.tmp 49) (.tmp 54) 40 rfl intCells_len intCells_one pb 3 (.int .i64 0) 8 Tryz.underlying40 Tryz.infoIntC3 (by rfl) (by omega) (by omega) _ (q.loose.take k) [x] (by rfl) hRq93 _ (by rfl) (RAt.blk nbq91) (by intro _ e; cases e) (by rw [HTK.out]; simp; omega) (Nat.le_trans hle hSq92.2.size) ?_
                intro vq95 yq96 hRq97 gq98
                obtain ⟨aoq100, cq101, rfl⟩ := ROwn.slice hRq97
                have hRq102 := hRq93
                have hOq103 := hOq94.grown gq98 (fun e => own_ne hRq93 hOq94 (by decide) e.symm)
                refine hK.out _ _ ⟨hSq92.1.grown gq98 (fun e => own_ne hRq93 hSq92.1 (by decide) e.symm), hSq92.2.grown gq98 (Nat.le_trans hle hSq92.2.size) (fun q e => (ROwn.lt hRq93 q e).1)⟩ (fun hSq99 => ?_)
                clear hK K hSq92 gq98 hRq93 hOq94 nbq91
                refine wpAnyH_take (i := 8) (v := .pointer (some ⟨pb, 65, none⟩)) rfl (by kernel_rfl) (by kernel_rfl) (by kernel_rfl) (fun _ _ _ h => h) (Or.inl ⟨by rfl, fun x hx => by go_simp⟩) hSq99 ?_
                simp only [Act.put, List.getElem_toArray, List.getElem_cons_zero, List.getElem_cons_succ, List.setIfInBounds_toArray, List.set_cons_zero, List.set_cons_succ]
                refine wpAnyH_ready (rs := [9]) (by kernel_rfl) (by simp) ?_
                refine AllReadyH.cons rfl (fun K hK => ?_) AllReadyH.nil
                rw [if_pos (by rfl)]
                refine wp_store1 40 (.tmp 56) (.tmp 55) rfl pb 65 (.slice aoq100 ((q.loose.take k) ++ [x]).length cq101) (by rfl) (by rfl) _ _ hOq103 (by rw [par_size65]; omega) Tryz.sizeIntsS rfl rfl ?_
                intro yq104 hOq105 gq106
                have hOq108 : Blk yq104 pb (q.cells (.slice aoq100 ((q.loose.take k) ++ [x]).length cq101)).toArray 126 := by rw [par_setL] at hOq105; exact hOq105
                have hRq109 := hRq97.other gq106 hOq103 (by decide)
                have hOq110 := hOq103
                refine hK.out _ _ ⟨hSq99.1.grown gq106 (fun e => HNP.out.2 (Option.some.inj e)), hSq99.2.grown gq106 (Nat.le_trans hle hSq99.2.size) (fun q e => by cases e; exact Nat.le_refl _)⟩ (fun hSq107 => ?_)
                clear hK K hSq99 gq106 hOq105 hRq97 hOq103
                refine wpAnyH_done (by kernel_rfl) ?_ _
                have HR9 : Hid (ROwn intCells 1 yq104 pb 3 (.slice aoq100 ((q.loose.take k) ++ [x]).length cq101) (q.loose.take (k + 1))) := by show ROwn _ _ _ _ _ _ _; rw [take_one HX.out]; exact hRq109
                have HP9 := Lib.hid hOq108
                have HB9 := Lib.hid (hSq107.1)
                have HE9 := Lib.hid (hSq107.2)
                clear hSq107 hOq108 hRq109 hle
                go_wp2_with fail
                go_roundw
                case rel => exact ⟨k + 1, _, by omega, by go_num, HB9, HP9, HR9, HE9⟩
                case measure => simp [intOf]; omega
              refine AllReadyH.cons rfl (fun K hK => ?_) AllReadyH.nil
              rw [if_pos (by rfl)]
              refine wp_bsV 40 3 (.tmp 53) rfl (.int .i64 x) (by rfl) Tryz.underlying40 (.int .i64 0) 1 Tryz.zsInt (by rfl) (by omega) (by omega) ?_
              intro yq111 szq112 bq113 nbq114
              have hRq116 := hR.below bq113
              have hOq117 := hO.below bq113 hO.lt
              refine hK.out _ _ ⟨hSq85.1.below bq113 hSq85.1.lt, hSq85.2.trans (bq113.mono (Nat.le_trans hle hSq85.2.size))⟩ (fun hSq115 => ?_)
              clear hK K hSq85 bq113 szq112 hR hO
              refine wpAnyH_ready (rs := [1]) (by kernel_rfl) (by simp) ?_
              refine AllReadyH.cons rfl (fun K hK => ?_) AllReadyH.nil
              have hcq118 := hOq117.cell 65 _ (par_cell65 q _)
              go_simp
              clear hcq118
              refine hK.out _ _ hSq115 (fun hSq119 => ?_)
              clear hK K hSq115
              refine wpAnyH_ready (rs := [7]) (by kernel_rfl) (by simp) ?_
              refine AllReadyH.cons rfl (fun K hK => ?_) AllReadyH.nil
              rw [if_pos (by rfl)]
              refine wp_append_R (.tmp 49) (.tmp 54) 40 rfl intCells_len intCells_one pb 3 (.int .i64 0) 8 Tryz.underlying40 Tryz.infoIntC3 (by rfl) (by omega) (by omega) _ (q.loose.take k) [x] (by rfl) hRq116 _ (by rfl) (RAt.blk nbq114) (by intro _ e; cases e) (by rw [HTK.out]; simp; omega) (Nat.le_trans hle hSq119.2.size) ?_
              intro vq120 yq121 hRq122 gq123
              obtain ⟨aoq125, cq126, rfl⟩ := ROwn.slice hRq122
              have hRq127 := hRq116
              have hOq128 := hOq117.grown gq123 (fun e => own_ne hRq116 hOq117 (by decide) e.symm)
              refine hK.out _ _ ⟨hSq119.1.grown gq123 (fun e => own_ne hRq116 hSq119.1 (by decide) e.symm), hSq119.2.grown gq123 (Nat.le_trans hle hSq119.2.size) (fun q e => (ROwn.lt hRq116 q e).1)⟩ (fun hSq124 => ?_)
              clear hK K hSq119 gq123 hRq116 hOq117 nbq114
              refine wpAnyH_take (i := 8) (v := .pointer (some ⟨pb, 65, none⟩)) rfl (by kernel_rfl) (by kernel_rfl) (by kernel_rfl) (fun _ _ _ h => h) (Or.inl ⟨by rfl, fun x hx => by go_simp⟩) hSq124 ?_
              simp only [Act.put, List.getElem_toArray, List.getElem_cons_zero, List.getElem_cons_succ, List.setIfInBounds_toArray, List.set_cons_zero, List.set_cons_succ]
              refine wpAnyH_ready (rs := [9]) (by kernel_rfl) (by simp) ?_
              refine AllReadyH.cons rfl (fun K hK => ?_) AllReadyH.nil
              rw [if_pos (by rfl)]
              refine wp_store1 40 (.tmp 56) (.tmp 55) rfl pb 65 (.slice aoq125 ((q.loose.take k) ++ [x]).length cq126) (by rfl) (by rfl) _ _ hOq128 (by rw [par_size65]; omega) Tryz.sizeIntsS rfl rfl ?_
              intro yq129 hOq130 gq131
              have hOq133 : Blk yq129 pb (q.cells (.slice aoq125 ((q.loose.take k) ++ [x]).length cq126)).toArray 126 := by rw [par_setL] at hOq130; exact hOq130
              have hRq134 := hRq122.other gq131 hOq128 (by decide)
              have hOq135 := hOq128
              refine hK.out _ _ ⟨hSq124.1.grown gq131 (fun e => HNP.out.2 (Option.some.inj e)), hSq124.2.grown gq131 (Nat.le_trans hle hSq124.2.size) (fun q e => by cases e; exact Nat.le_refl _)⟩ (fun hSq132 => ?_)
              clear hK K hSq124 gq131 hOq130 hRq122 hOq128
              refine wpAnyH_done (by kernel_rfl) ?_ _
              have HR9 : Hid (ROwn intCells 1 yq129 pb 3 (.slice aoq125 ((q.loose.take k) ++ [x]).length cq126) (q.loose.take (k + 1))) := by show ROwn _ _ _ _ _ _ _; rw [take_one HX.out]; exact hRq134
              have HP9 := Lib.hid hOq133
              have HB9 := Lib.hid (hSq132.1)
              have HE9 := Lib.hid (hSq132.2)
              clear hSq132 hOq133 hRq134 hle
              go_wp2_with fail
              go_roundw
              case rel => exact ⟨k + 1, _, by omega, by go_num, HB9, HP9, HR9, HE9⟩
              case measure => simp [intOf]; omega
            · obtain rfl : k = ql := by omega
              obtain ⟨ql, rfl⟩ : ∃ z, z = k := ⟨_, rfl⟩
              have hle : pb ≤ wr2.heap.size := Nat.le_of_eq HPB.out
              have hE3 := HE3.out
              have hS3 := HS.out.below (by rw [← HPB.out]; exact hE3)
              obtain ⟨ao3, c3, rfl⟩ := HR3.out.slice
              have hR3 := HR3.out
              have hall : q.loose.take ql = q.loose := by rw [HK.out]; exact List.take_length
              rw [hall] at hR3
              have hlen3 : (q.loose.take ql).length = ql := by rw [hall]; exact HK.out.symm
              rw [hlen3] at HP3
              rw [← HK.out] at hR3
              have hP3 := HP3.out
              have hB3 := HB3.out
              have hN3 : Below N w wr3 := HE2.out.trans (hE3.mono HNP.out.1)
              have HI : Hid (IntsO wr3 N (.slice ao3 ql c3) q.loose) := ⟨ao3, c3, by rw [HK.out], hR3.low HNP.out.1⟩
              have HS3 := Lib.hid hS3
              have hcO := hS3.o.cell 1 _ rfl
              have HTKP : Hid (((T.pars.take i).zip cur).length = i) := by show _ = _; rw [List.length_zip, List.length_take, HLM.out, hS3.len]; omega
              have hpr := blk_rangeP hP3
              have HN3 := Lib.hid hN3
              clear hlen3 hall hR3 HP3 HB3 HR3 HE3 hS3 HS hE3 hk hkl hN3
              go_wp2_with (first | ((with_reducible show wpList _ _ _ (⟨some 58, _, _, _, _, _⟩ :: _) _ _); refine wpList_load1 rfl 25 (.tmp 57) rfl ob 1 (by rfl) _ _ hcO Tryz.underlying25 rfl ?_) | ((with_reducible show wpList _ _ _ (⟨some 59, _, _, _, _, _⟩ :: _) _ _); refine wpList_load_mid rfl 126 (.tmp 6) rfl pb 0 (by rfl) (q.cells (.slice ao3 ql c3)) _ hpr Tryz.underlying126 rfl (par_sizeL q _) ?_) | ((with_reducible show wpList _ _ _ (⟨some 60, _, _, _, _, _⟩ :: _) _ _); refine wpList_bsV rfl 25 126 (.tmp 59) rfl (.agg (q.cells (.slice ao3 ql c3)).toArray) (by rfl) Tryz.underlying25 (.agg (zeroP.cells (.slice none 0 0)).toArray) 66 Tryz.zsPar (by rw [show (Value.agg (q.cells (.slice ao3 ql c3)).toArray).cells = (q.cells (.slice ao3 ql c3)).toArray from rfl, List.size_toArray]; exact q.cells_len _) (by omega) (by omega) ?_; intro w4 s4 b4 n4; have HS4 := Lib.hid (HS3.out.below b4); have HI4 := Lib.hid (HI.out.below b4); have HB4 := Lib.hid (hB3.below b4 hB3.lt); have HN4 := Lib.hid (HN3.out.trans (b4.mono (Nat.le_trans (Nat.le_of_eq HN.out) HN3.out.size))); have HA4 : Hid (RAt parCellsN w4 (.slice (some ⟨wr3.heap.size, 0, none⟩) 1 1) [(q, Value.slice ao3 ql c3)]) := RAt.blk n4; clear b4 s4 n4 hP3 hB3 hpr hcO HS3 HI HN3) | ((with_reducible show wpList _ _ _ (⟨some 61, _, _, _, _, _⟩ :: _) _ _); refine wpList_append_R rfl (.tmp 58) (.tmp 60) 25 rfl parCellsN_len parCellsN_one N 126 (.agg (zeroP.cells (.slice none 0 0)).toArray) 96 Tryz.underlying25 Tryz.infoPar3 (by show (zeroP.cells (.slice none 0 0)).toArray.size = 66; rw [List.size_toArray]; exact zeroP.cells_len _) (by omega) (by omega) _ ((T.pars.take i).zip cur) [(q, Value.slice ao3 ql c3)] (by rfl) HS4.out.pv _ (by rfl) HA4.out (by intro _ e; cases e) (by rw [HTKP.out]; simp; omega) (Nat.le_trans (Nat.le_of_eq HN.out) HN4.out.size) ?_; intro v5 w5 h5 g5; obtain ⟨ao5, c5, rfl⟩ := ROwn.slice h5; obtain ⟨n5, hn5⟩ : ∃ z, z = (((T.pars.take i).zip cur) ++ [(q, Value.slice ao3 ql c3)]).length := ⟨_, rfl⟩; rw [← hn5] at h5 ⊢; clear hn5; have hne5 : ∀ {b : Nat} {cs : Array Value}, Blk w4 b cs 27 → some b ≠ vp.ownBlock := fun hb e => own_ne HS4.out.pv hb (by decide) e.symm; have hO5 := HS4.out.o.grown g5 (hne5 HS4.out.o); have hQ5 := HS4.out.r.grown g5 (hne5 HS4.out.r); have hB5 := HB4.out.grown g5 (hne5 HB4.out); have hL5 := HS4.out.lv.kept g5 (rows_apart HS4.out.lv HS4.out.pv (by decide)); have HD5 : Hid (∀ (k : Nat) (q' : ParA) (u' : Value), T.pars[k]? = some q' → cur[k]? = some u' → IntsO w5 N u' q'.loose) := fun k q' u' e1 e2 => (HS4.out.done k q' u' e1 e2).row g5 HS4.out.pv (by decide); have HI5 := Lib.hid (HI4.out.row g5 HS4.out.pv (by decide)); have HN5 := Lib.hid (HN4.out.grown g5 (Nat.le_trans (Nat.le_of_eq HN.out) HN4.out.size) (fun q e => (HS4.out.pv.lt q e).1)); have HLC := Lib.hid HS4.out.len; clear g5 hne5 HS4 HI4 HB4 HN4 HA4) | ((with_reducible show wpList _ _ _ (⟨none, Op.store _ (.tmp 62) _, _, _, _, _⟩ :: _) _ _); refine wpList_store1 rfl 25 (.tmp 62) (.tmp 61) rfl ob 1 (.slice ao5 n5 c5) (by rfl) (by rfl) _ _ hO5 (by simp) Tryz.sizePvS rfl rfl ?_; intro w6 hO6 g6))
              have hzz : ((T.pars.take i).zip cur) ++ [(q, Value.slice ao3 ql c3)] = (T.pars.take (i + 1)).zip (cur ++ [Value.slice ao3 ql c3]) := by
                rw [take_one HQ.out, List.zip_append (by rw [List.length_take, HLM.out, HLC.out]; omega)]; rfl
              have HS9 : Hid (RcSt N (N + 1) ob vl (.slice ao5 n5 c5) T n (i + 1) (cur ++ [Value.slice ao3 ql c3]) w6) := by
                refine ⟨hO6, hQ5.grown g6 (fun e => HOB.out.2.2 (Option.some.inj e).symm), hL5.other g6 hO5 (by decide), ?_, by rw [List.length_append, HLC.out]; rfl, fun k q' u' e1 e2 => ?_⟩
                · rw [← hzz]; exact h5.other g6 hO5 (by decide)
                · by_cases e : k < cur.length
                  · rw [List.getElem?_append_left e] at e2
                    exact (HD5.out k q' u' e1 e2).other g6 hO5 (by decide)
                  · rw [List.getElem?_append_right (by omega)] at e2
                    have e3 : k - cur.length = 0 := by have := (List.getElem?_eq_some_iff.1 e2).1; simp at this; omega
                    rw [e3] at e2
                    obtain rfl : (.slice ao3 ql c3 : Value) = u' := Option.some.inj e2
                    obtain rfl : k = i := by have := HLC.out; omega
                    rw [HQ.out] at e1
                    obtain rfl := Option.some.inj e1
                    exact HI5.out.other g6 hO5 (by decide)
              have HB9 := Lib.hid (hB5.grown g6 (fun e => HOB.out.2.1 (Option.some.inj e).symm))
              have HE9 := Lib.hid (HN5.out.grown g6 (Nat.le_trans (Nat.le_of_eq HN.out) HN5.out.size) (fun q e => by cases e; exact HOB.out.1))
              clear hO5 hQ5 hB5 hL5 HD5 HI5 HN5 HLC hO6 g6 h5 hzz
              go_wp2_with fail
              go_roundw
              case rel => exact ⟨i + 1, _, _, by omega, by go_num, HS9, HB9, HE9⟩
              case measure => simp [intOf]; omega
        · obtain rfl : i = m := by omega
          obtain ⟨m, rfl⟩ : ∃ z, z = i := ⟨_, rfl⟩
          have hS := HS.out
          have hE := HE.out
          obtain ⟨lao, lc, rfl⟩ := hS.lv.slice
          obtain ⟨pao, pc2, rfl⟩ := hS.pv.slice
          have hl1 : (T.leaves.take n).length = n := by rw [List.length_take, HLN.out, Nat.min_self]
          have hl2 : T.leaves.take n = T.leaves := by rw [← HLN.out]; exact List.take_length
          have hl3 : T.pars.take m = T.pars := by rw [← HLM.out]; exact List.take_length
          have hl4 : ((T.pars.take m).zip cur).length = m := by rw [List.length_zip, hl3, HLM.out, hS.len, Nat.min_self]
          have hO := hS.o
          have hR := hS.r
          rw [hl1, hl4] at hO
          have hLv := hS.lv
          have hPv := hS.pv
          rw [hl1, hl2] at hLv
          rw [hl4, hl3] at hPv
          have HD := Lib.hid hS.done
          have HLC := Lib.hid hS.len
          clear hl1 hl2 hl3 hl4 hS HS HB HE
          go_wp2_with (first | ((with_reducible show wpList _ _ _ (⟨some 29, _, _, _, _, _⟩ :: _) _ _); refine wpList_load1 rfl 25 (.tmp 28) rfl N 1 (by rfl) _ _ hcb Tryz.underlying25 rfl ?_) | ((with_reducible show wpList _ _ _ (⟨some 63, _, _, _, _, _⟩ :: _) _ _); refine wpList_loadBlk rfl 27 (.tmp 3) rfl ob (by rfl) _ _ _ hO Tryz.underlying27 rfl Tryz.sizeTree ?_) | ((with_reducible show wpList _ _ _ (⟨none, Op.store _ (.tmp 2) _, _, _, _, _⟩ :: _) _ _); refine wpList_storeBlk rfl 27 (.tmp 2) (.tmp 63) rfl (N + 1) #[.slice lao n lc, .slice pao m pc2] (by rfl) (by rfl) _ _ hR Tryz.sizeTree (by rfl) (by simp [Value.oneCell']) ?_; intro w2 hR2 g2))
          have hb2 := hE.grown g2 (Nat.le_trans (Nat.le_of_eq HN.out) hE.size) (fun q e => by cases e; omega)
          refine ret_blk rfl (N + 1) 27 _ _ (by rfl) hR2 Tryz.underlying27 rfl Tryz.sizeTree rfl ?_
          refine ⟨lao, lc, pao, pc2, cur, rfl, ⟨HLN.out, HLM.out, HLC.out, hLv.other g2 hR (by decide), hPv.other g2 hR (by decide), fun k q u h1 h2 => (HD.out k q u h1 h2).other g2 hR (by decide), HT.out.wf, fun q hq => ⟨?_, HW.out q hq⟩⟩, hb2⟩
          obtain ⟨k, hk, rfl⟩ := List.getElem_of_mem hq
          obtain ⟨u, hu⟩ : ∃ u, lvs[k]? = some u := ⟨_, List.getElem?_eq_getElem (by rw [HT.out.lv, ← HLM.out]; exact hk)⟩
          obtain ⟨_, _, _, _, _, h5, _⟩ := HT.out.lo k _ u (List.getElem?_eq_getElem hk) hu
          exact h5
end Go.Proofs.YtjlpdbaknhbgdaaGreat
