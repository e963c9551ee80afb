/-
  bevylaw19.awake: the document's examples.
-/
import Derived.Test.YtlomofcnknpciaaGleanAwake
import Derived.WalkLawsBesides
import Derived.Outline
import Derived.Handy
import Derived.Deep.RegionHeld
set_option linter.unusedSimpArgs false
set_option linter.unusedVariables false
namespace Go.Proofs.Ytlomofcnknpciaa
open Go.RowKit

def k1 : HsT := 1 :: List.replicate 31 0
def k2 : HsT := 2 :: List.replicate 31 0
def k3 : HsT := 3 :: List.replicate 31 0
theorem k1_len : k1.length = 32 := rfl
theorem k2_len : k2.length = 32 := rfl
theorem k3_len : k3.length = 32 := rfl
theorem Try.builtK1 : Try.prog.built 23 [(0, .int .u8 1)] = some (k1.map bv).toArray := by kernel_rfl
theorem Try.builtK2 : Try.prog.built 23 [(0, .int .u8 2)] = some (k2.map bv).toArray := by kernel_rfl
theorem Try.builtK3 : Try.prog.built 23 [(0, .int .u8 3)] = some (k3.map bv).toArray := by kernel_rfl
theorem HashesAt.drew {w : World} {v : Value} {l : List HsT} (h : HashesAt w v l) : HashesAt w.drew v l := h.below (below_drewN (Below.refl _ _) 1)
theorem hashes_two {w : World} {q c : Nat} {t : TypeId} {h k : HsT} (hg : Blk w q ((h ++ k).map bv).toArray t) (hh : h.length = 32) (hk : k.length = 32) (hc : 2 ≤ c) : HashesAt w (.slice (some ⟨q, 0, none⟩) 2 c) [h, k] :=
  ⟨fun x hx => by
    rcases List.mem_cons.1 hx with rfl | hx
    · exact hh
    · rw [List.mem_singleton.1 hx]; exact hk, .inr ⟨q, 0, c, rfl, hc, hg.lt, fun j u hj => by
    rw [Nat.zero_add]
    exact hg.cell j u (by rw [List.getElem?_toArray, List.map_append]; simpa using hj)⟩⟩
theorem hashes_three {w : World} {q c : Nat} {t : TypeId} {h k m : HsT} (hg : Blk w q ((h ++ (k ++ m)).map bv).toArray t) (hh : h.length = 32) (hk : k.length = 32) (hm : m.length = 32) (hc : 3 ≤ c) : HashesAt w (.slice (some ⟨q, 0, none⟩) 3 c) [h, k, m] :=
  ⟨fun x hx => by
    rcases List.mem_cons.1 hx with rfl | hx
    · exact hh
    · rcases List.mem_cons.1 hx with rfl | hx
      · exact hk
      · rw [List.mem_singleton.1 hx]; exact hm, .inr ⟨q, 0, c, rfl, hc, hg.lt, fun j u hj => by
    rw [Nat.zero_add]
    exact hg.cell j u (by rw [List.getElem?_toArray, List.map_append, List.map_append]; simpa using hj)⟩⟩
theorem wp_bs64g {P : Program} {o : Oper} {a : Act} {w : World} {K : Act → World → Prop} {Q : Exit → Act → World → Prop} (t e : TypeId) (x y : Operand) (ho : o.op = .buildSlice t 2 #[(0, x), (1, y)])
    (l r : List UInt8) (hl : l.length = 32) (hr : r.length = 32) (hx : a.eval x = .agg (l.map bv).toArray) (hy : a.eval y = .agg (r.map bv).toArray) (hu : P.underlying t = some (.slice e)) (hz : (P.info? e).map (fun i => (i.zero, i.size)) = some (some (.agg Z32), 32))
    (h : ∀ g w', g = w.heap.size → w'.heap.size = g + 1 → Below w.heap.size w w' → Blk w' g ((l ++ r).map bv).toArray e → K (a.put o.dst (.slice (some ⟨g, 0, none⟩) 2 2)) w') : o.wp P a w K Q :=
  wp_bs64 t e x y ho l r hl hr hx hy hu hz (h _ _ rfl (by simp) (below_alloc1 _ _) (Blk.new _ _ _))
theorem wp_bs96 {P : Program} {o : Oper} {a : Act} {w : World} {K : Act → World → Prop} {Q : Exit → Act → World → Prop} (t e : TypeId) (x y z : Operand) (ho : o.op = .buildSlice t 3 #[(0, x), (1, y), (2, z)])
    (l r m : List UInt8) (hl : l.length = 32) (hr : r.length = 32) (hm : m.length = 32) (hx : a.eval x = .agg (l.map bv).toArray) (hy : a.eval y = .agg (r.map bv).toArray) (hz3 : a.eval z = .agg (m.map bv).toArray) (hu : P.underlying t = some (.slice e)) (hz : (P.info? e).map (fun i => (i.zero, i.size)) = some (some (.agg Z32), 32))
    (h : ∀ g w', g = w.heap.size → w'.heap.size = g + 1 → Below w.heap.size w w' → Blk w' g ((l ++ (r ++ m)).map bv).toArray e → K (a.put o.dst (.slice (some ⟨g, 0, none⟩) 3 3)) w') : o.wp P a w K Q := by
  cases hi : P.info? e with
  | none => simp [hi] at hz
  | some ie =>
    simp [hi] at hz
    obtain ⟨hz1, hz2⟩ := hz
    refine Go.wp_buildSlice t e 3 #[(0, x), (1, y), (2, z)] ho ((l ++ (r ++ m)).map bv).toArray ie (.agg Z32) hu hi hz1 (by rw [hz2]; decide) (by rw [hz2]; decide) ?_ (h _ _ rfl (by simp) (below_alloc1 _ _) (Blk.new _ _ _))
    have e1 : (#[(0, x), (1, y), (2, z)].map fun (i, x) => (i, a.eval x)).toList = (([Value.agg (l.map bv).toArray, .agg (r.map bv).toArray, .agg (m.map bv).toArray].zipIdx 0).map fun x => (x.2, x.1)) := by simp [hx, hy, hz3]
    rw [e1, hz2, Go.Great.fill_whole (by omega) [Value.agg (l.map bv).toArray, .agg (r.map bv).toArray, .agg (m.map bv).toArray] _ (by simp [Value.cells, hl, hr, hm]) (by simp)]
    simp [Value.cells]
theorem k_rises : Rises [k1, k3] := by
  refine List.pairwise_cons.2 ⟨fun x hx => ?_, List.pairwise_singleton _ _⟩
  rw [List.mem_singleton.1 hx]
  decide
theorem k_take {R : List HsT} (hr : Rises R) (hm : ∀ x, x ∈ R ↔ x ∈ [k1, k2, k3] ∧ x ∉ [k2]) : R.take 256 = [k1, k3] := by
  have h12 : k1 ≠ k2 := by decide
  have h32 : k3 ≠ k2 := by decide
  have hin : ∀ x, x ∈ R ↔ x ∈ [k1, k3] := fun x => by
    rw [hm]
    simp only [List.mem_cons, List.not_mem_nil, or_false]
    constructor
    · rintro ⟨h1 | h1 | h1, h2⟩
      · exact .inl h1
      · exact absurd h1 h2
      · exact .inr h1
    · rintro (h1 | h1)
      · exact ⟨.inl h1, fun e => h12 (h1.symm.trans e)⟩
      · exact ⟨.inr (.inr h1), fun e => h32 (h1.symm.trans e)⟩
  have e : R = [k1, k3] := rises_ext hr k_rises (fun x hx => by
    have := (hin x).1 hx
    simp only [List.mem_cons, List.not_mem_nil, or_false] at this
    rcases this with rfl | rfl <;> rfl) (fun x hx => by
    simp only [List.mem_cons, List.not_mem_nil, or_false] at hx
    rcases hx with rfl | rfl <;> rfl) hin
  rw [e]; rfl
set_option maxHeartbeats 8000000 in
set_option maxRecDepth 100000 in
theorem awake19_calls (w : World) : Calls Try.prog 35 #[] w fun e w' => e = .returned (.bool true) ∧ Below w.heap.size w w' := by
  obtain ⟨a1, ha1⟩ : ∃ a, a = k1 := ⟨_, rfl⟩
  obtain ⟨a2, ha2⟩ : ∃ a, a = k2 := ⟨_, rfl⟩
  obtain ⟨a3, ha3⟩ : ∃ a, a = k3 := ⟨_, rfl⟩
  have H1 : Hid (a1.length = 32) := by show _ = _; rw [ha1]; rfl
  have H2 : Hid (a2.length = 32) := by show _ = _; rw [ha2]; rfl
  have H3 : Hid (a3.length = 32) := by show _ = _; rw [ha3]; rfl
  have B1 : Hid (Try.prog.built 23 [(0, .int .u8 1)] = some (a1.map bv).toArray) := by show _ = _; rw [ha1]; exact Try.builtK1
  have B2 : Hid (Try.prog.built 23 [(0, .int .u8 2)] = some (a2.map bv).toArray) := by show _ = _; rw [ha2]; exact Try.builtK2
  have B3 : Hid (Try.prog.built 23 [(0, .int .u8 3)] = some (a3.map bv).toArray) := by show _ = _; rw [ha3]; exact Try.builtK3
  have cW : ∀ v1 v2 y, HashesAt y v1 [a1, a2, a3] → HashesAt y v2 [a2] → Calls Try.prog 37 #[v1, v2] y fun e w' => ∃ v', e = .returned v' ∧ HashesAt w' v' [a1, a3] ∧ Below y.heap.size y w' := fun v1 v2 y h1 h2 =>
    (Want_calls v1 v2 _ _ y h1 h2 (by simp) (by simp)).mono fun e w' ⟨v', R, g1, g2, g3, g4, g5⟩ => ⟨v', g1, by
      have e := k_take g3 (fun x => by rw [← ha1, ← ha2, ← ha3]; exact g4 x)
      rw [ha1, ha3, ← e]; exact g2.at, g5⟩
  have cS : ∀ v1 v2 y, HashesAt y v1 [a1, a3] → HashesAt y v2 [a1, a3] → Calls Try.prog 36 #[v1, v2] y fun e w' => e = .returned (.bool true) ∧ Below y.heap.size y w' := fun v1 v2 y h1 h2 => SameIds_calls v1 v2 _ y h1 h2 (by simp)
  clear ha1 ha2 ha3
  have hbW := Below.refl w.heap.size w
  go_enter Try.func35, Try.ntmps35
  go_wp2_with (first | ((with_reducible show wpList _ _ _ (⟨some 4, _, _, _, _, _⟩ :: _) _ _); refine wpList_buildCells rfl 23 #[(0, .const (.int .u8 1))] rfl ((a1.map bv).toArray) B1.out ?_) | ((with_reducible show wpList _ _ _ (⟨some 5, _, _, _, _, _⟩ :: _) _ _); refine wpList_buildCells rfl 23 #[(0, .const (.int .u8 2))] rfl ((a2.map bv).toArray) B2.out ?_) | ((with_reducible show wpList _ _ _ (⟨some 6, _, _, _, _, _⟩ :: _) _ _); refine wpList_buildCells rfl 23 #[(0, .const (.int .u8 3))] rfl ((a3.map bv).toArray) B3.out ?_) | ((with_reducible show wpList _ _ _ (⟨some 1, _, _, _, _, _⟩ :: _) _ _); refine wpList_allocZ rfl 23 rfl _ Try.zeroHash ?_; intro wq1 hsq2 baq3 hNq4; have hBq5 := hbW.trans (baq3.mono (hbW.size)); clear hbW; clear baq3 hsq2) | ((with_reducible show wpList _ _ _ (⟨some 2, _, _, _, _, _⟩ :: _) _ _); refine wpList_allocZ rfl 23 rfl _ Try.zeroHash ?_; intro wq6 hsq7 baq8 hNq9; have ltq10 : w.heap.size < wq1.heap.size := hNq4.lt; have hCq11 := hNq4.below baq8 hNq4.lt; have hBq12 := hBq5.trans (baq8.mono (hBq5.size)); clear hNq4 hBq5; clear baq8 hsq7) | ((with_reducible show wpList _ _ _ (⟨some 3, _, _, _, _, _⟩ :: _) _ _); refine wpList_allocZ rfl 23 rfl _ Try.zeroHash ?_; intro wq13 hsq14 baq15 hNq16; have ltq17 : w.heap.size < wq6.heap.size := hCq11.lt; have ltq18 : wq1.heap.size < wq6.heap.size := hNq9.lt; have hCq19 := hCq11.below baq15 hCq11.lt; have hCq20 := hNq9.below baq15 hNq9.lt; have hBq21 := hBq12.trans (baq15.mono (hBq12.size)); clear hCq11 hNq9 hBq12; clear baq15 hsq14) | ((with_reducible show wpList _ _ _ (⟨none, Op.store _ (.tmp 1) _, _, _, _, _⟩ :: _) _ _); refine wpList_storeBlk rfl 23 (.tmp 1) (.tmp 4) rfl (w.heap.size) ((a1.map bv).toArray) (by rfl) (by rfl) _ _ hCq19 (by rw [bv_size, H1.out]; exact Try.sizeHash) (by rw [bv_size, H1.out, Z32_size]) (bv_all _) ?_; intro wq22 hKq23 gq24; have ltq25 : w.heap.size < wq13.heap.size := hCq19.lt; have ltq26 : wq1.heap.size < wq13.heap.size := hCq20.lt; have ltq27 : wq6.heap.size < wq13.heap.size := hNq16.lt; have hCq28 := hCq20.grown gq24 (by simp; omega); have hCq29 := hNq16.grown gq24 (by simp; omega); have hBq30 := hBq21.grown gq24 (hBq21.size) (fun q e => by cases e; omega); clear gq24 hCq19 hCq20 hNq16 hBq21) | ((with_reducible show wpList _ _ _ (⟨none, Op.store _ (.tmp 2) _, _, _, _, _⟩ :: _) _ _); refine wpList_storeBlk rfl 23 (.tmp 2) (.tmp 5) rfl (wq1.heap.size) ((a2.map bv).toArray) (by rfl) (by rfl) _ _ hCq28 (by rw [bv_size, H2.out]; exact Try.sizeHash) (by rw [bv_size, H2.out, Z32_size]) (bv_all _) ?_; intro wq31 hKq32 gq33; have ltq34 : w.heap.size < wq22.heap.size := hKq23.lt; have ltq35 : wq1.heap.size < wq22.heap.size := hCq28.lt; have ltq36 : wq6.heap.size < wq22.heap.size := hCq29.lt; have hCq37 := hKq23.grown gq33 (by simp; omega); have hCq38 := hCq29.grown gq33 (by simp; omega); have hBq39 := hBq30.grown gq33 (hBq30.size) (fun q e => by cases e; omega); clear gq33 hCq28 hKq23 hCq29 hBq30) | ((with_reducible show wpList _ _ _ (⟨none, Op.store _ (.tmp 3) _, _, _, _, _⟩ :: _) _ _); refine wpList_storeBlk rfl 23 (.tmp 3) (.tmp 6) rfl (wq6.heap.size) ((a3.map bv).toArray) (by rfl) (by rfl) _ _ hCq38 (by rw [bv_size, H3.out]; exact Try.sizeHash) (by rw [bv_size, H3.out, Z32_size]) (bv_all _) ?_; intro wq40 hKq41 gq42; have ltq43 : w.heap.size < wq31.heap.size := hCq37.lt; have ltq44 : wq1.heap.size < wq31.heap.size := hKq32.lt; have ltq45 : wq6.heap.size < wq31.heap.size := hCq38.lt; have hCq46 := hCq37.grown gq42 (by simp; omega); have hCq47 := hKq32.grown gq42 (by simp; omega); have hBq48 := hBq39.grown gq42 (hBq39.size) (fun q e => by cases e; omega); clear gq42 hCq38 hCq37 hKq32 hBq39))
  have ltq49 : w.heap.size < wq40.heap.size := hCq46.lt
  have ltq50 : wq1.heap.size < wq40.heap.size := hCq47.lt
  have ltq51 : wq6.heap.size < wq40.heap.size := hKq41.lt
  refine wp_region_held_drew (S := fun x => Blk x (w.heap.size) (a1.map bv).toArray 23 ∧ Blk x (wq1.heap.size) (a2.map bv).toArray 23 ∧ Blk x (wq6.heap.size) (a3.map bv).toArray 23 ∧ Below w.heap.size w x) (by kernel_rfl) ⟨hCq46.drew, hCq47.drew, hKq41.drew, below_drewN hBq48 1⟩ (fun hSq52 => ?_)
  refine wpAnyH_take (i := 0) rfl (by kernel_rfl) (by kernel_rfl) (by kernel_rfl) (fun _ _ _ h => h) (yieldsIf_load_mid (by rfl) 23 (.tmp 1) rfl (w.heap.size) 0 (by rfl) (a1.map bv) _ (fun x hx => blk_rangeP hx.1) Try.underlying23 rfl (by rw [List.length_map, H1.out]; exact Try.sizeHash)) hSq52 ?_
  simp only [Act.put, List.getElem_toArray, List.getElem_cons_zero, List.getElem_cons_succ, List.setIfInBounds_toArray, List.set_cons_zero, List.set_cons_succ]
  refine wpAnyH_take (i := 1) rfl (by kernel_rfl) (by kernel_rfl) (by kernel_rfl) (fun _ _ _ h => h) (yieldsIf_load_mid (by rfl) 23 (.tmp 2) rfl (wq1.heap.size) 0 (by rfl) (a2.map bv) _ (fun x hx => blk_rangeP hx.2.1) Try.underlying23 rfl (by rw [List.length_map, H2.out]; exact Try.sizeHash)) hSq52 ?_
  simp only [Act.put, List.getElem_toArray, List.getElem_cons_zero, List.getElem_cons_succ, List.setIfInBounds_toArray, List.set_cons_zero, List.set_cons_succ]
  refine wpAnyH_take (i := 2) rfl (by kernel_rfl) (by kernel_rfl) (by kernel_rfl) (fun _ _ _ h => h) (yieldsIf_load_mid (by rfl) 23 (.tmp 3) rfl (wq6.heap.size) 0 (by rfl) (a3.map bv) _ (fun x hx => blk_rangeP hx.2.2.1) Try.underlying23 rfl (by rw [List.length_map, H3.out]; exact Try.sizeHash)) hSq52 ?_
  simp only [Act.put, List.getElem_toArray, List.getElem_cons_zero, List.getElem_cons_succ, List.setIfInBounds_toArray, List.set_cons_zero, List.set_cons_succ]
  refine wpAnyH_take (i := 4) rfl (by kernel_rfl) (by kernel_rfl) (by kernel_rfl) (fun _ _ _ h => h) (yieldsIf_load_mid (by rfl) 23 (.tmp 2) rfl (wq1.heap.size) 0 (by rfl) (a2.map bv) _ (fun x hx => blk_rangeP hx.2.1) Try.underlying23 rfl (by rw [List.length_map, H2.out]; exact Try.sizeHash)) hSq52 ?_
  simp only [Act.put, List.getElem_toArray, List.getElem_cons_zero, List.getElem_cons_succ, List.setIfInBounds_toArray, List.set_cons_zero, List.set_cons_succ]
  refine wpAnyH_take (i := 7) rfl (by kernel_rfl) (by kernel_rfl) (by kernel_rfl) (fun _ _ _ h => h) (yieldsIf_load_mid (by rfl) 23 (.tmp 1) rfl (w.heap.size) 0 (by rfl) (a1.map bv) _ (fun x hx => blk_rangeP hx.1) Try.underlying23 rfl (by rw [List.length_map, H1.out]; exact Try.sizeHash)) hSq52 ?_
  simp only [Act.put, List.getElem_toArray, List.getElem_cons_zero, List.getElem_cons_succ, List.setIfInBounds_toArray, List.set_cons_zero, List.set_cons_succ]
  refine wpAnyH_take (i := 8) rfl (by kernel_rfl) (by kernel_rfl) (by kernel_rfl) (fun _ _ _ h => h) (yieldsIf_load_mid (by rfl) 23 (.tmp 3) rfl (wq6.heap.size) 0 (by rfl) (a3.map bv) _ (fun x hx => blk_rangeP hx.2.2.1) Try.underlying23 rfl (by rw [List.length_map, H3.out]; exact Try.sizeHash)) hSq52 ?_
  simp only [Act.put, List.getElem_toArray, List.getElem_cons_zero, List.getElem_cons_succ, List.setIfInBounds_toArray, List.set_cons_zero, List.set_cons_succ]
  refine wpAnyH_ready (rs := [3, 5, 9]) (by kernel_rfl) (by simp) ?_
  refine AllReadyH.cons rfl (fun K hK => ?_) ?_
  · rw [if_pos (by rfl)]
    refine wp_bs96 34 23 (.tmp 7) (.tmp 8) (.tmp 9) rfl a1 a2 a3 H1.out H2.out H3.out (by rfl) (by rfl) (by rfl) Try.underlying34 Try.infoHash2 ?_
    intro gq56 yq54 egq57 ezq58 bq53 hEq55
    have lgq59 : w.heap.size ≤ gq56 := by rw [egq57]; exact hSq52.2.2.2.size
    have lbq60 : w.heap.size < gq56 := by rw [egq57]; exact hSq52.1.lt
    have lbq61 : wq1.heap.size < gq56 := by rw [egq57]; exact hSq52.2.1.lt
    have lbq62 : wq6.heap.size < gq56 := by rw [egq57]; exact hSq52.2.2.1.lt
    refine hK.out _ _ ⟨hSq52.1.below bq53 hSq52.1.lt, hSq52.2.1.below bq53 hSq52.2.1.lt, hSq52.2.2.1.below bq53 hSq52.2.2.1.lt, hSq52.2.2.2.trans (bq53.mono (hSq52.2.2.2.size))⟩ (fun hSq63 => ?_)
    clear hK K hSq52 bq53 egq57 ezq58
    refine wpAnyH_ready (rs := [5, 9]) (by kernel_rfl) (by simp) ?_
    refine AllReadyH.cons rfl (fun K hK => ?_) ?_
    · rw [if_pos (by rfl)]
      refine wp_bs32 34 23 (.tmp 11) rfl a2 H2.out (by rfl) Try.underlying34 Try.infoHash2 ?_
      intro gq67 yq65 egq68 ezq69 bq64 hEq66
      have lgq70 : w.heap.size ≤ gq67 := by rw [egq68]; exact hSq63.2.2.2.size
      have lbq71 : w.heap.size < gq67 := by rw [egq68]; exact hSq63.1.lt
      have lbq72 : wq1.heap.size < gq67 := by rw [egq68]; exact hSq63.2.1.lt
      have lbq73 : wq6.heap.size < gq67 := by rw [egq68]; exact hSq63.2.2.1.lt
      have hEq74 := hEq55.below bq64 hEq55.lt
      refine hK.out _ _ ⟨hSq63.1.below bq64 hSq63.1.lt, hSq63.2.1.below bq64 hSq63.2.1.lt, hSq63.2.2.1.below bq64 hSq63.2.2.1.lt, hSq63.2.2.2.trans (bq64.mono (hSq63.2.2.2.size))⟩ (fun hSq75 => ?_)
      clear hK K hSq63 bq64 egq68 ezq69
      refine wpAnyH_ready (rs := [6, 9]) (by kernel_rfl) (by simp) ?_
      refine AllReadyH.cons rfl (fun K hK => ?_) ?_
      · go_simp
        go_wp2_with (go_at_call 37; refine (cW _ _ _ (hashes_three hEq74 H1.out H2.out H3.out (by omega)) (hashes_one hEq66 H2.out (by omega))).mono ?_; rintro e yq76 ⟨vq78, rfl, hvq79, bq77⟩)
        have hEq81 := hEq74.below bq77 hEq74.lt
        have hEq82 := hEq66.below bq77 hEq66.lt
        have Hvq78 := Lib.hid hvq79
        refine hK.out _ _ ⟨hSq75.1.below bq77 hSq75.1.lt, hSq75.2.1.below bq77 hSq75.2.1.lt, hSq75.2.2.1.below bq77 hSq75.2.2.1.lt, hSq75.2.2.2.trans (bq77.mono (hSq75.2.2.2.size))⟩ (fun hSq80 => ?_)
        clear hK K hSq75 bq77 hvq79
        refine wpAnyH_ready (rs := [9]) (by kernel_rfl) (by simp) ?_
        refine AllReadyH.cons rfl (fun K hK => ?_) AllReadyH.nil
        rw [if_pos (by rfl)]
        refine wp_bs64g 34 23 (.tmp 14) (.tmp 15) rfl a1 a3 H1.out H3.out (by rfl) (by rfl) Try.underlying34 Try.infoHash2 ?_
        intro gq86 yq84 egq87 ezq88 bq83 hEq85
        have lgq89 : w.heap.size ≤ gq86 := by rw [egq87]; exact hSq80.2.2.2.size
        have lbq90 : w.heap.size < gq86 := by rw [egq87]; exact hSq80.1.lt
        have lbq91 : wq1.heap.size < gq86 := by rw [egq87]; exact hSq80.2.1.lt
        have lbq92 : wq6.heap.size < gq86 := by rw [egq87]; exact hSq80.2.2.1.lt
        have hEq93 := hEq81.below bq83 hEq81.lt
        have hEq94 := hEq82.below bq83 hEq82.lt
        have hHq95 := Lib.hid (Hvq78.out.below bq83)
        refine hK.out _ _ ⟨hSq80.1.below bq83 hSq80.1.lt, hSq80.2.1.below bq83 hSq80.2.1.lt, hSq80.2.2.1.below bq83 hSq80.2.2.1.lt, hSq80.2.2.2.trans (bq83.mono (hSq80.2.2.2.size))⟩ (fun hSq96 => ?_)
        clear hK K hSq80 bq83 egq87 ezq88
        refine wpAnyH_ready (rs := [10]) (by kernel_rfl) (by simp) ?_
        refine AllReadyH.cons rfl (fun K hK => ?_) AllReadyH.nil
        go_simp
        go_wp2_with (go_at_call 36; refine (cS _ _ _ hHq95.out (hashes_two hEq85 H1.out H3.out (by omega))).mono ?_; rintro e yq97 ⟨rfl, bq98⟩)
        have hEq99 := hEq93.below bq98 hEq93.lt
        have hEq100 := hEq94.below bq98 hEq94.lt
        have hEq101 := hEq85.below bq98 hEq85.lt
        have hHq102 := Lib.hid (hHq95.out.below bq98)
        refine hK.out _ _ ⟨hSq96.1.below bq98 hSq96.1.lt, hSq96.2.1.below bq98 hSq96.2.1.lt, hSq96.2.2.1.below bq98 hSq96.2.2.1.lt, hSq96.2.2.2.trans (bq98.mono (hSq96.2.2.2.size))⟩ (fun hSq103 => ?_)
        clear hK K hSq96 bq98
        refine wpAnyH_take (i := 11) (v := .bool true) rfl (by kernel_rfl) (by kernel_rfl) (by kernel_rfl) (fun _ _ _ h => h) (Or.inl ⟨by rfl, fun x hx => by go_simp⟩) hSq103 ?_
        simp only [Act.put, List.getElem_toArray, List.getElem_cons_zero, List.getElem_cons_succ, List.setIfInBounds_toArray, List.set_cons_zero, List.set_cons_succ]
        refine wpAnyH_take (i := 12) rfl (by kernel_rfl) (by kernel_rfl) (by kernel_rfl) (fun _ _ _ h => h) (yieldsIf_build (by rfl) 109 #[(0, .const (.int .i64 4))] rfl pkD (by kernel_rfl)) hSq103 ?_
        simp only [Act.put, List.getElem_toArray, List.getElem_cons_zero, List.getElem_cons_succ, List.setIfInBounds_toArray, List.set_cons_zero, List.set_cons_succ]
        refine wpAnyH_ready (rs := [13]) (by kernel_rfl) (by simp) ?_
        refine AllReadyH.cons rfl (fun K hK => ?_) AllReadyH.nil
        go_simp
        go_wp2_with (go_at_call 59; refine (PackD_calls _).mono ?_; rintro e yq104 ⟨rfl, bq105⟩)
        have hEq106 := hEq99.below bq105 hEq99.lt
        have hEq107 := hEq100.below bq105 hEq100.lt
        have hEq108 := hEq101.below bq105 hEq101.lt
        have hHq109 := Lib.hid (hHq102.out.below bq105)
        refine hK.out _ _ ⟨hSq103.1.below bq105 hSq103.1.lt, hSq103.2.1.below bq105 hSq103.2.1.lt, hSq103.2.2.1.below bq105 hSq103.2.2.1.lt, hSq103.2.2.2.trans (bq105.mono (hSq103.2.2.2.size))⟩ (fun hSq110 => ?_)
        clear hK K hSq103 bq105
        refine wpAnyH_take (i := 14) (v := .bool true) rfl (by kernel_rfl) (by kernel_rfl) (by kernel_rfl) (fun _ _ _ h => h) (Or.inl ⟨by rfl, fun x hx => by go_simp⟩) hSq110 ?_
        simp only [Act.put, List.getElem_toArray, List.getElem_cons_zero, List.getElem_cons_succ, List.setIfInBounds_toArray, List.set_cons_zero, List.set_cons_succ]
        refine wpAnyH_take (i := 15) (v := .bool true) rfl (by kernel_rfl) (by kernel_rfl) (by kernel_rfl) (fun _ _ _ h => h) (Or.inl ⟨by rfl, fun x hx => by go_simp⟩) hSq110 ?_
        simp only [Act.put, List.getElem_toArray, List.getElem_cons_zero, List.getElem_cons_succ, List.setIfInBounds_toArray, List.set_cons_zero, List.set_cons_succ]
        refine wpAnyH_ready (rs := [16]) (by kernel_rfl) (by simp) ?_
        refine AllReadyH.cons rfl (fun K hK => ?_) AllReadyH.nil
        go_simp
        refine hK.out _ _ hSq110 (fun hSq111 => ?_)
        clear hK K hSq110
        refine wpAnyH_done (by kernel_rfl) ?_ _
        have hfin := hSq111.2.2.2
        clear hSq111
        go_wp2_with fail
        go_returns
        exact ⟨rfl, hfin⟩
      refine AllReadyH.cons rfl (fun K hK => ?_) AllReadyH.nil
      rw [if_pos (by rfl)]
      refine wp_bs64g 34 23 (.tmp 14) (.tmp 15) rfl a1 a3 H1.out H3.out (by rfl) (by rfl) Try.underlying34 Try.infoHash2 ?_
      intro gq115 yq113 egq116 ezq117 bq112 hEq114
      have lgq118 : w.heap.size ≤ gq115 := by rw [egq116]; exact hSq75.2.2.2.size
      have lbq119 : w.heap.size < gq115 := by rw [egq116]; exact hSq75.1.lt
      have lbq120 : wq1.heap.size < gq115 := by rw [egq116]; exact hSq75.2.1.lt
      have lbq121 : wq6.heap.size < gq115 := by rw [egq116]; exact hSq75.2.2.1.lt
      have hEq122 := hEq74.below bq112 hEq74.lt
      have hEq123 := hEq66.below bq112 hEq66.lt
      refine hK.out _ _ ⟨hSq75.1.below bq112 hSq75.1.lt, hSq75.2.1.below bq112 hSq75.2.1.lt, hSq75.2.2.1.below bq112 hSq75.2.2.1.lt, hSq75.2.2.2.trans (bq112.mono (hSq75.2.2.2.size))⟩ (fun hSq124 => ?_)
      clear hK K hSq75 bq112 egq116 ezq117
      refine wpAnyH_ready (rs := [6]) (by kernel_rfl) (by simp) ?_
      refine AllReadyH.cons rfl (fun K hK => ?_) AllReadyH.nil
      go_simp
      go_wp2_with (go_at_call 37; refine (cW _ _ _ (hashes_three hEq122 H1.out H2.out H3.out (by omega)) (hashes_one hEq123 H2.out (by omega))).mono ?_; rintro e yq125 ⟨vq127, rfl, hvq128, bq126⟩)
      have hEq130 := hEq122.below bq126 hEq122.lt
      have hEq131 := hEq123.below bq126 hEq123.lt
      have hEq132 := hEq114.below bq126 hEq114.lt
      have Hvq127 := Lib.hid hvq128
      refine hK.out _ _ ⟨hSq124.1.below bq126 hSq124.1.lt, hSq124.2.1.below bq126 hSq124.2.1.lt, hSq124.2.2.1.below bq126 hSq124.2.2.1.lt, hSq124.2.2.2.trans (bq126.mono (hSq124.2.2.2.size))⟩ (fun hSq129 => ?_)
      clear hK K hSq124 bq126 hvq128
      refine wpAnyH_ready (rs := [10]) (by kernel_rfl) (by simp) ?_
      refine AllReadyH.cons rfl (fun K hK => ?_) AllReadyH.nil
      go_simp
      go_wp2_with (go_at_call 36; refine (cS _ _ _ Hvq127.out (hashes_two hEq132 H1.out H3.out (by omega))).mono ?_; rintro e yq133 ⟨rfl, bq134⟩)
      have hEq135 := hEq130.below bq134 hEq130.lt
      have hEq136 := hEq131.below bq134 hEq131.lt
      have hEq137 := hEq132.below bq134 hEq132.lt
      have hHq138 := Lib.hid (Hvq127.out.below bq134)
      refine hK.out _ _ ⟨hSq129.1.below bq134 hSq129.1.lt, hSq129.2.1.below bq134 hSq129.2.1.lt, hSq129.2.2.1.below bq134 hSq129.2.2.1.lt, hSq129.2.2.2.trans (bq134.mono (hSq129.2.2.2.size))⟩ (fun hSq139 => ?_)
      clear hK K hSq129 bq134
      refine wpAnyH_take (i := 11) (v := .bool true) rfl (by kernel_rfl) (by kernel_rfl) (by kernel_rfl) (fun _ _ _ h => h) (Or.inl ⟨by rfl, fun x hx => by go_simp⟩) hSq139 ?_
      simp only [Act.put, List.getElem_toArray, List.getElem_cons_zero, List.getElem_cons_succ, List.setIfInBounds_toArray, List.set_cons_zero, List.set_cons_succ]
      refine wpAnyH_take (i := 12) rfl (by kernel_rfl) (by kernel_rfl) (by kernel_rfl) (fun _ _ _ h => h) (yieldsIf_build (by rfl) 109 #[(0, .const (.int .i64 4))] rfl pkD (by kernel_rfl)) hSq139 ?_
      simp only [Act.put, List.getElem_toArray, List.getElem_cons_zero, List.getElem_cons_succ, List.setIfInBounds_toArray, List.set_cons_zero, List.set_cons_succ]
      refine wpAnyH_ready (rs := [13]) (by kernel_rfl) (by simp) ?_
      refine AllReadyH.cons rfl (fun K hK => ?_) AllReadyH.nil
      go_simp
      go_wp2_with (go_at_call 59; refine (PackD_calls _).mono ?_; rintro e yq140 ⟨rfl, bq141⟩)
      have hEq142 := hEq135.below bq141 hEq135.lt
      have hEq143 := hEq136.below bq141 hEq136.lt
      have hEq144 := hEq137.below bq141 hEq137.lt
      have hHq145 := Lib.hid (hHq138.out.below bq141)
      refine hK.out _ _ ⟨hSq139.1.below bq141 hSq139.1.lt, hSq139.2.1.below bq141 hSq139.2.1.lt, hSq139.2.2.1.below bq141 hSq139.2.2.1.lt, hSq139.2.2.2.trans (bq141.mono (hSq139.2.2.2.size))⟩ (fun hSq146 => ?_)
      clear hK K hSq139 bq141
      refine wpAnyH_take (i := 14) (v := .bool true) rfl (by kernel_rfl) (by kernel_rfl) (by kernel_rfl) (fun _ _ _ h => h) (Or.inl ⟨by rfl, fun x hx => by go_simp⟩) hSq146 ?_
      simp only [Act.put, List.getElem_toArray, List.getElem_cons_zero, List.getElem_cons_succ, List.setIfInBounds_toArray, List.set_cons_zero, List.set_cons_succ]
      refine wpAnyH_take (i := 15) (v := .bool true) rfl (by kernel_rfl) (by kernel_rfl) (by kernel_rfl) (fun _ _ _ h => h) (Or.inl ⟨by rfl, fun x hx => by go_simp⟩) hSq146 ?_
      simp only [Act.put, List.getElem_toArray, List.getElem_cons_zero, List.getElem_cons_succ, List.setIfInBounds_toArray, List.set_cons_zero, List.set_cons_succ]
      refine wpAnyH_ready (rs := [16]) (by kernel_rfl) (by simp) ?_
      refine AllReadyH.cons rfl (fun K hK => ?_) AllReadyH.nil
      go_simp
      refine hK.out _ _ hSq146 (fun hSq147 => ?_)
      clear hK K hSq146
      refine wpAnyH_done (by kernel_rfl) ?_ _
      have hfin := hSq147.2.2.2
      clear hSq147
      go_wp2_with fail
      go_returns
      exact ⟨rfl, hfin⟩
    refine AllReadyH.cons rfl (fun K hK => ?_) AllReadyH.nil
    rw [if_pos (by rfl)]
    refine wp_bs64g 34 23 (.tmp 14) (.tmp 15) rfl a1 a3 H1.out H3.out (by rfl) (by rfl) Try.underlying34 Try.infoHash2 ?_
    intro gq151 yq149 egq152 ezq153 bq148 hEq150
    have lgq154 : w.heap.size ≤ gq151 := by rw [egq152]; exact hSq63.2.2.2.size
    have lbq155 : w.heap.size < gq151 := by rw [egq152]; exact hSq63.1.lt
    have lbq156 : wq1.heap.size < gq151 := by rw [egq152]; exact hSq63.2.1.lt
    have lbq157 : wq6.heap.size < gq151 := by rw [egq152]; exact hSq63.2.2.1.lt
    have hEq158 := hEq55.below bq148 hEq55.lt
    refine hK.out _ _ ⟨hSq63.1.below bq148 hSq63.1.lt, hSq63.2.1.below bq148 hSq63.2.1.lt, hSq63.2.2.1.below bq148 hSq63.2.2.1.lt, hSq63.2.2.2.trans (bq148.mono (hSq63.2.2.2.size))⟩ (fun hSq159 => ?_)
    clear hK K hSq63 bq148 egq152 ezq153
    refine wpAnyH_ready (rs := [5]) (by kernel_rfl) (by simp) ?_
    refine AllReadyH.cons rfl (fun K hK => ?_) AllReadyH.nil
    rw [if_pos (by rfl)]
    refine wp_bs32 34 23 (.tmp 11) rfl a2 H2.out (by rfl) Try.underlying34 Try.infoHash2 ?_
    intro gq163 yq161 egq164 ezq165 bq160 hEq162
    have lgq166 : w.heap.size ≤ gq163 := by rw [egq164]; exact hSq159.2.2.2.size
    have lbq167 : w.heap.size < gq163 := by rw [egq164]; exact hSq159.1.lt
    have lbq168 : wq1.heap.size < gq163 := by rw [egq164]; exact hSq159.2.1.lt
    have lbq169 : wq6.heap.size < gq163 := by rw [egq164]; exact hSq159.2.2.1.lt
    have hEq170 := hEq158.below bq160 hEq158.lt
    have hEq171 := hEq150.below bq160 hEq150.lt
    refine hK.out _ _ ⟨hSq159.1.below bq160 hSq159.1.lt, hSq159.2.1.below bq160 hSq159.2.1.lt, hSq159.2.2.1.below bq160 hSq159.2.2.1.lt, hSq159.2.2.2.trans (bq160.mono (hSq159.2.2.2.size))⟩ (fun hSq172 => ?_)
    clear hK K hSq159 bq160 egq164 ezq165
    refine wpAnyH_ready (rs := [6]) (by kernel_rfl) (by simp) ?_
    refine AllReadyH.cons rfl (fun K hK => ?_) AllReadyH.nil
    go_simp
    go_wp2_with (go_at_call 37; refine (cW _ _ _ (hashes_three hEq170 H1.out H2.out H3.out (by omega)) (hashes_one hEq162 H2.out (by omega))).mono ?_; rintro e yq173 ⟨vq175, rfl, hvq176, bq174⟩)
    have hEq178 := hEq170.below bq174 hEq170.lt
    have hEq179 := hEq171.below bq174 hEq171.lt
    have hEq180 := hEq162.below bq174 hEq162.lt
    have Hvq175 := Lib.hid hvq176
    refine hK.out _ _ ⟨hSq172.1.below bq174 hSq172.1.lt, hSq172.2.1.below bq174 hSq172.2.1.lt, hSq172.2.2.1.below bq174 hSq172.2.2.1.lt, hSq172.2.2.2.trans (bq174.mono (hSq172.2.2.2.size))⟩ (fun hSq177 => ?_)
    clear hK K hSq172 bq174 hvq176
    refine wpAnyH_ready (rs := [10]) (by kernel_rfl) (by simp) ?_
    refine AllReadyH.cons rfl (fun K hK => ?_) AllReadyH.nil
    go_simp
    go_wp2_with (go_at_call 36; refine (cS _ _ _ Hvq175.out (hashes_two hEq179 H1.out H3.out (by omega))).mono ?_; rintro e yq181 ⟨rfl, bq182⟩)
    have hEq183 := hEq178.below bq182 hEq178.lt
    have hEq184 := hEq179.below bq182 hEq179.lt
    have hEq185 := hEq180.below bq182 hEq180.lt
    have hHq186 := Lib.hid (Hvq175.out.below bq182)
    refine hK.out _ _ ⟨hSq177.1.below bq182 hSq177.1.lt, hSq177.2.1.below bq182 hSq177.2.1.lt, hSq177.2.2.1.below bq182 hSq177.2.2.1.lt, hSq177.2.2.2.trans (bq182.mono (hSq177.2.2.2.size))⟩ (fun hSq187 => ?_)
    clear hK K hSq177 bq182
    refine wpAnyH_take (i := 11) (v := .bool true) rfl (by kernel_rfl) (by kernel_rfl) (by kernel_rfl) (fun _ _ _ h => h) (Or.inl ⟨by rfl, fun x hx => by go_simp⟩) hSq187 ?_
    simp only [Act.put, List.getElem_toArray, List.getElem_cons_zero, List.getElem_cons_succ, List.setIfInBounds_toArray, List.set_cons_zero, List.set_cons_succ]
    refine wpAnyH_take (i := 12) rfl (by kernel_rfl) (by kernel_rfl) (by kernel_rfl) (fun _ _ _ h => h) (yieldsIf_build (by rfl) 109 #[(0, .const (.int .i64 4))] rfl pkD (by kernel_rfl)) hSq187 ?_
    simp only [Act.put, List.getElem_toArray, List.getElem_cons_zero, List.getElem_cons_succ, List.setIfInBounds_toArray, List.set_cons_zero, List.set_cons_succ]
    refine wpAnyH_ready (rs := [13]) (by kernel_rfl) (by simp) ?_
    refine AllReadyH.cons rfl (fun K hK => ?_) AllReadyH.nil
    go_simp
    go_wp2_with (go_at_call 59; refine (PackD_calls _).mono ?_; rintro e yq188 ⟨rfl, bq189⟩)
    have hEq190 := hEq183.below bq189 hEq183.lt
    have hEq191 := hEq184.below bq189 hEq184.lt
    have hEq192 := hEq185.below bq189 hEq185.lt
    have hHq193 := Lib.hid (hHq186.out.below bq189)
    refine hK.out _ _ ⟨hSq187.1.below bq189 hSq187.1.lt, hSq187.2.1.below bq189 hSq187.2.1.lt, hSq187.2.2.1.below bq189 hSq187.2.2.1.lt, hSq187.2.2.2.trans (bq189.mono (hSq187.2.2.2.size))⟩ (fun hSq194 => ?_)
    clear hK K hSq187 bq189
    refine wpAnyH_take (i := 14) (v := .bool true) rfl (by kernel_rfl) (by kernel_rfl) (by kernel_rfl) (fun _ _ _ h => h) (Or.inl ⟨by rfl, fun x hx => by go_simp⟩) hSq194 ?_
    simp only [Act.put, List.getElem_toArray, List.getElem_cons_zero, List.getElem_cons_succ, List.setIfInBounds_toArray, List.set_cons_zero, List.set_cons_succ]
    refine wpAnyH_take (i := 15) (v := .bool true) rfl (by kernel_rfl) (by kernel_rfl) (by kernel_rfl) (fun _ _ _ h => h) (Or.inl ⟨by rfl, fun x hx => by go_simp⟩) hSq194 ?_
    simp only [Act.put, List.getElem_toArray, List.getElem_cons_zero, List.getElem_cons_succ, List.setIfInBounds_toArray, List.set_cons_zero, List.set_cons_succ]
    refine wpAnyH_ready (rs := [16]) (by kernel_rfl) (by simp) ?_
    refine AllReadyH.cons rfl (fun K hK => ?_) AllReadyH.nil
    go_simp
    refine hK.out _ _ hSq194 (fun hSq195 => ?_)
    clear hK K hSq194
    refine wpAnyH_done (by kernel_rfl) ?_ _
    have hfin := hSq195.2.2.2
    clear hSq195
    go_wp2_with fail
    go_returns
    exact ⟨rfl, hfin⟩
  refine AllReadyH.cons rfl (fun K hK => ?_) ?_
  · rw [if_pos (by rfl)]
    refine wp_bs32 34 23 (.tmp 11) rfl a2 H2.out (by rfl) Try.underlying34 Try.infoHash2 ?_
    intro gq199 yq197 egq200 ezq201 bq196 hEq198
    have lgq202 : w.heap.size ≤ gq199 := by rw [egq200]; exact hSq52.2.2.2.size
    have lbq203 : w.heap.size < gq199 := by rw [egq200]; exact hSq52.1.lt
    have lbq204 : wq1.heap.size < gq199 := by rw [egq200]; exact hSq52.2.1.lt
    have lbq205 : wq6.heap.size < gq199 := by rw [egq200]; exact hSq52.2.2.1.lt
    refine hK.out _ _ ⟨hSq52.1.below bq196 hSq52.1.lt, hSq52.2.1.below bq196 hSq52.2.1.lt, hSq52.2.2.1.below bq196 hSq52.2.2.1.lt, hSq52.2.2.2.trans (bq196.mono (hSq52.2.2.2.size))⟩ (fun hSq206 => ?_)
    clear hK K hSq52 bq196 egq200 ezq201
    refine wpAnyH_ready (rs := [3, 9]) (by kernel_rfl) (by simp) ?_
    refine AllReadyH.cons rfl (fun K hK => ?_) ?_
    · rw [if_pos (by rfl)]
      refine wp_bs96 34 23 (.tmp 7) (.tmp 8) (.tmp 9) rfl a1 a2 a3 H1.out H2.out H3.out (by rfl) (by rfl) (by rfl) Try.underlying34 Try.infoHash2 ?_
      intro gq210 yq208 egq211 ezq212 bq207 hEq209
      have lgq213 : w.heap.size ≤ gq210 := by rw [egq211]; exact hSq206.2.2.2.size
      have lbq214 : w.heap.size < gq210 := by rw [egq211]; exact hSq206.1.lt
      have lbq215 : wq1.heap.size < gq210 := by rw [egq211]; exact hSq206.2.1.lt
      have lbq216 : wq6.heap.size < gq210 := by rw [egq211]; exact hSq206.2.2.1.lt
      have hEq217 := hEq198.below bq207 hEq198.lt
      refine hK.out _ _ ⟨hSq206.1.below bq207 hSq206.1.lt, hSq206.2.1.below bq207 hSq206.2.1.lt, hSq206.2.2.1.below bq207 hSq206.2.2.1.lt, hSq206.2.2.2.trans (bq207.mono (hSq206.2.2.2.size))⟩ (fun hSq218 => ?_)
      clear hK K hSq206 bq207 egq211 ezq212
      refine wpAnyH_ready (rs := [6, 9]) (by kernel_rfl) (by simp) ?_
      refine AllReadyH.cons rfl (fun K hK => ?_) ?_
      · go_simp
        go_wp2_with (go_at_call 37; refine (cW _ _ _ (hashes_three hEq209 H1.out H2.out H3.out (by omega)) (hashes_one hEq217 H2.out (by omega))).mono ?_; rintro e yq219 ⟨vq221, rfl, hvq222, bq220⟩)
        have hEq224 := hEq217.below bq220 hEq217.lt
        have hEq225 := hEq209.below bq220 hEq209.lt
        have Hvq221 := Lib.hid hvq222
        refine hK.out _ _ ⟨hSq218.1.below bq220 hSq218.1.lt, hSq218.2.1.below bq220 hSq218.2.1.lt, hSq218.2.2.1.below bq220 hSq218.2.2.1.lt, hSq218.2.2.2.trans (bq220.mono (hSq218.2.2.2.size))⟩ (fun hSq223 => ?_)
        clear hK K hSq218 bq220 hvq222
        refine wpAnyH_ready (rs := [9]) (by kernel_rfl) (by simp) ?_
        refine AllReadyH.cons rfl (fun K hK => ?_) AllReadyH.nil
        rw [if_pos (by rfl)]
        refine wp_bs64g 34 23 (.tmp 14) (.tmp 15) rfl a1 a3 H1.out H3.out (by rfl) (by rfl) Try.underlying34 Try.infoHash2 ?_
        intro gq229 yq227 egq230 ezq231 bq226 hEq228
        have lgq232 : w.heap.size ≤ gq229 := by rw [egq230]; exact hSq223.2.2.2.size
        have lbq233 : w.heap.size < gq229 := by rw [egq230]; exact hSq223.1.lt
        have lbq234 : wq1.heap.size < gq229 := by rw [egq230]; exact hSq223.2.1.lt
        have lbq235 : wq6.heap.size < gq229 := by rw [egq230]; exact hSq223.2.2.1.lt
        have hEq236 := hEq224.below bq226 hEq224.lt
        have hEq237 := hEq225.below bq226 hEq225.lt
        have hHq238 := Lib.hid (Hvq221.out.below bq226)
        refine hK.out _ _ ⟨hSq223.1.below bq226 hSq223.1.lt, hSq223.2.1.below bq226 hSq223.2.1.lt, hSq223.2.2.1.below bq226 hSq223.2.2.1.lt, hSq223.2.2.2.trans (bq226.mono (hSq223.2.2.2.size))⟩ (fun hSq239 => ?_)
        clear hK K hSq223 bq226 egq230 ezq231
        refine wpAnyH_ready (rs := [10]) (by kernel_rfl) (by simp) ?_
        refine AllReadyH.cons rfl (fun K hK => ?_) AllReadyH.nil
        go_simp
        go_wp2_with (go_at_call 36; refine (cS _ _ _ hHq238.out (hashes_two hEq228 H1.out H3.out (by omega))).mono ?_; rintro e yq240 ⟨rfl, bq241⟩)
        have hEq242 := hEq236.below bq241 hEq236.lt
        have hEq243 := hEq237.below bq241 hEq237.lt
        have hEq244 := hEq228.below bq241 hEq228.lt
        have hHq245 := Lib.hid (hHq238.out.below bq241)
        refine hK.out _ _ ⟨hSq239.1.below bq241 hSq239.1.lt, hSq239.2.1.below bq241 hSq239.2.1.lt, hSq239.2.2.1.below bq241 hSq239.2.2.1.lt, hSq239.2.2.2.trans (bq241.mono (hSq239.2.2.2.size))⟩ (fun hSq246 => ?_)
        clear hK K hSq239 bq241
        refine wpAnyH_take (i := 11) (v := .bool true) rfl (by kernel_rfl) (by kernel_rfl) (by kernel_rfl) (fun _ _ _ h => h) (Or.inl ⟨by rfl, fun x hx => by go_simp⟩) hSq246 ?_
        simp only [Act.put, List.getElem_toArray, List.getElem_cons_zero, List.getElem_cons_succ, List.setIfInBounds_toArray, List.set_cons_zero, List.set_cons_succ]
        refine wpAnyH_take (i := 12) rfl (by kernel_rfl) (by kernel_rfl) (by kernel_rfl) (fun _ _ _ h => h) (yieldsIf_build (by rfl) 109 #[(0, .const (.int .i64 4))] rfl pkD (by kernel_rfl)) hSq246 ?_
        simp only [Act.put, List.getElem_toArray, List.getElem_cons_zero, List.getElem_cons_succ, List.setIfInBounds_toArray, List.set_cons_zero, List.set_cons_succ]
        refine wpAnyH_ready (rs := [13]) (by kernel_rfl) (by simp) ?_
        refine AllReadyH.cons rfl (fun K hK => ?_) AllReadyH.nil
        go_simp
        go_wp2_with (go_at_call 59; refine (PackD_calls _).mono ?_; rintro e yq247 ⟨rfl, bq248⟩)
        have hEq249 := hEq242.below bq248 hEq242.lt
        have hEq250 := hEq243.below bq248 hEq243.lt
        have hEq251 := hEq244.below bq248 hEq244.lt
        have hHq252 := Lib.hid (hHq245.out.below bq248)
        refine hK.out _ _ ⟨hSq246.1.below bq248 hSq246.1.lt, hSq246.2.1.below bq248 hSq246.2.1.lt, hSq246.2.2.1.below bq248 hSq246.2.2.1.lt, hSq246.2.2.2.trans (bq248.mono (hSq246.2.2.2.size))⟩ (fun hSq253 => ?_)
        clear hK K hSq246 bq248
        refine wpAnyH_take (i := 14) (v := .bool true) rfl (by kernel_rfl) (by kernel_rfl) (by kernel_rfl) (fun _ _ _ h => h) (Or.inl ⟨by rfl, fun x hx => by go_simp⟩) hSq253 ?_
        simp only [Act.put, List.getElem_toArray, List.getElem_cons_zero, List.getElem_cons_succ, List.setIfInBounds_toArray, List.set_cons_zero, List.set_cons_succ]
        refine wpAnyH_take (i := 15) (v := .bool true) rfl (by kernel_rfl) (by kernel_rfl) (by kernel_rfl) (fun _ _ _ h => h) (Or.inl ⟨by rfl, fun x hx => by go_simp⟩) hSq253 ?_
        simp only [Act.put, List.getElem_toArray, List.getElem_cons_zero, List.getElem_cons_succ, List.setIfInBounds_toArray, List.set_cons_zero, List.set_cons_succ]
        refine wpAnyH_ready (rs := [16]) (by kernel_rfl) (by simp) ?_
        refine AllReadyH.cons rfl (fun K hK => ?_) AllReadyH.nil
        go_simp
        refine hK.out _ _ hSq253 (fun hSq254 => ?_)
        clear hK K hSq253
        refine wpAnyH_done (by kernel_rfl) ?_ _
        have hfin := hSq254.2.2.2
        clear hSq254
        go_wp2_with fail
        go_returns
        exact ⟨rfl, hfin⟩
      refine AllReadyH.cons rfl (fun K hK => ?_) AllReadyH.nil
      rw [if_pos (by rfl)]
      refine wp_bs64g 34 23 (.tmp 14) (.tmp 15) rfl a1 a3 H1.out H3.out (by rfl) (by rfl) Try.underlying34 Try.infoHash2 ?_
      intro gq258 yq256 egq259 ezq260 bq255 hEq257
      have lgq261 : w.heap.size ≤ gq258 := by rw [egq259]; exact hSq218.2.2.2.size
      have lbq262 : w.heap.size < gq258 := by rw [egq259]; exact hSq218.1.lt
      have lbq263 : wq1.heap.size < gq258 := by rw [egq259]; exact hSq218.2.1.lt
      have lbq264 : wq6.heap.size < gq258 := by rw [egq259]; exact hSq218.2.2.1.lt
      have hEq265 := hEq217.below bq255 hEq217.lt
      have hEq266 := hEq209.below bq255 hEq209.lt
      refine hK.out _ _ ⟨hSq218.1.below bq255 hSq218.1.lt, hSq218.2.1.below bq255 hSq218.2.1.lt, hSq218.2.2.1.below bq255 hSq218.2.2.1.lt, hSq218.2.2.2.trans (bq255.mono (hSq218.2.2.2.size))⟩ (fun hSq267 => ?_)
      clear hK K hSq218 bq255 egq259 ezq260
      refine wpAnyH_ready (rs := [6]) (by kernel_rfl) (by simp) ?_
      refine AllReadyH.cons rfl (fun K hK => ?_) AllReadyH.nil
      go_simp
      go_wp2_with (go_at_call 37; refine (cW _ _ _ (hashes_three hEq266 H1.out H2.out H3.out (by omega)) (hashes_one hEq265 H2.out (by omega))).mono ?_; rintro e yq268 ⟨vq270, rfl, hvq271, bq269⟩)
      have hEq273 := hEq265.below bq269 hEq265.lt
      have hEq274 := hEq266.below bq269 hEq266.lt
      have hEq275 := hEq257.below bq269 hEq257.lt
      have Hvq270 := Lib.hid hvq271
      refine hK.out _ _ ⟨hSq267.1.below bq269 hSq267.1.lt, hSq267.2.1.below bq269 hSq267.2.1.lt, hSq267.2.2.1.below bq269 hSq267.2.2.1.lt, hSq267.2.2.2.trans (bq269.mono (hSq267.2.2.2.size))⟩ (fun hSq272 => ?_)
      clear hK K hSq267 bq269 hvq271
      refine wpAnyH_ready (rs := [10]) (by kernel_rfl) (by simp) ?_
      refine AllReadyH.cons rfl (fun K hK => ?_) AllReadyH.nil
      go_simp
      go_wp2_with (go_at_call 36; refine (cS _ _ _ Hvq270.out (hashes_two hEq275 H1.out H3.out (by omega))).mono ?_; rintro e yq276 ⟨rfl, bq277⟩)
      have hEq278 := hEq273.below bq277 hEq273.lt
      have hEq279 := hEq274.below bq277 hEq274.lt
      have hEq280 := hEq275.below bq277 hEq275.lt
      have hHq281 := Lib.hid (Hvq270.out.below bq277)
      refine hK.out _ _ ⟨hSq272.1.below bq277 hSq272.1.lt, hSq272.2.1.below bq277 hSq272.2.1.lt, hSq272.2.2.1.below bq277 hSq272.2.2.1.lt, hSq272.2.2.2.trans (bq277.mono (hSq272.2.2.2.size))⟩ (fun hSq282 => ?_)
      clear hK K hSq272 bq277
      refine wpAnyH_take (i := 11) (v := .bool true) rfl (by kernel_rfl) (by kernel_rfl) (by kernel_rfl) (fun _ _ _ h => h) (Or.inl ⟨by rfl, fun x hx => by go_simp⟩) hSq282 ?_
      simp only [Act.put, List.getElem_toArray, List.getElem_cons_zero, List.getElem_cons_succ, List.setIfInBounds_toArray, List.set_cons_zero, List.set_cons_succ]
      refine wpAnyH_take (i := 12) rfl (by kernel_rfl) (by kernel_rfl) (by kernel_rfl) (fun _ _ _ h => h) (yieldsIf_build (by rfl) 109 #[(0, .const (.int .i64 4))] rfl pkD (by kernel_rfl)) hSq282 ?_
      simp only [Act.put, List.getElem_toArray, List.getElem_cons_zero, List.getElem_cons_succ, List.setIfInBounds_toArray, List.set_cons_zero, List.set_cons_succ]
      refine wpAnyH_ready (rs := [13]) (by kernel_rfl) (by simp) ?_
      refine AllReadyH.cons rfl (fun K hK => ?_) AllReadyH.nil
      go_simp
      go_wp2_with (go_at_call 59; refine (PackD_calls _).mono ?_; rintro e yq283 ⟨rfl, bq284⟩)
      have hEq285 := hEq278.below bq284 hEq278.lt
      have hEq286 := hEq279.below bq284 hEq279.lt
      have hEq287 := hEq280.below bq284 hEq280.lt
      have hHq288 := Lib.hid (hHq281.out.below bq284)
      refine hK.out _ _ ⟨hSq282.1.below bq284 hSq282.1.lt, hSq282.2.1.below bq284 hSq282.2.1.lt, hSq282.2.2.1.below bq284 hSq282.2.2.1.lt, hSq282.2.2.2.trans (bq284.mono (hSq282.2.2.2.size))⟩ (fun hSq289 => ?_)
      clear hK K hSq282 bq284
      refine wpAnyH_take (i := 14) (v := .bool true) rfl (by kernel_rfl) (by kernel_rfl) (by kernel_rfl) (fun _ _ _ h => h) (Or.inl ⟨by rfl, fun x hx => by go_simp⟩) hSq289 ?_
      simp only [Act.put, List.getElem_toArray, List.getElem_cons_zero, List.getElem_cons_succ, List.setIfInBounds_toArray, List.set_cons_zero, List.set_cons_succ]
      refine wpAnyH_take (i := 15) (v := .bool true) rfl (by kernel_rfl) (by kernel_rfl) (by kernel_rfl) (fun _ _ _ h => h) (Or.inl ⟨by rfl, fun x hx => by go_simp⟩) hSq289 ?_
      simp only [Act.put, List.getElem_toArray, List.getElem_cons_zero, List.getElem_cons_succ, List.setIfInBounds_toArray, List.set_cons_zero, List.set_cons_succ]
      refine wpAnyH_ready (rs := [16]) (by kernel_rfl) (by simp) ?_
      refine AllReadyH.cons rfl (fun K hK => ?_) AllReadyH.nil
      go_simp
      refine hK.out _ _ hSq289 (fun hSq290 => ?_)
      clear hK K hSq289
      refine wpAnyH_done (by kernel_rfl) ?_ _
      have hfin := hSq290.2.2.2
      clear hSq290
      go_wp2_with fail
      go_returns
      exact ⟨rfl, hfin⟩
    refine AllReadyH.cons rfl (fun K hK => ?_) AllReadyH.nil
    rw [if_pos (by rfl)]
    refine wp_bs64g 34 23 (.tmp 14) (.tmp 15) rfl a1 a3 H1.out H3.out (by rfl) (by rfl) Try.underlying34 Try.infoHash2 ?_
    intro gq294 yq292 egq295 ezq296 bq291 hEq293
    have lgq297 : w.heap.size ≤ gq294 := by rw [egq295]; exact hSq206.2.2.2.size
    have lbq298 : w.heap.size < gq294 := by rw [egq295]; exact hSq206.1.lt
    have lbq299 : wq1.heap.size < gq294 := by rw [egq295]; exact hSq206.2.1.lt
    have lbq300 : wq6.heap.size < gq294 := by rw [egq295]; exact hSq206.2.2.1.lt
    have hEq301 := hEq198.below bq291 hEq198.lt
    refine hK.out _ _ ⟨hSq206.1.below bq291 hSq206.1.lt, hSq206.2.1.below bq291 hSq206.2.1.lt, hSq206.2.2.1.below bq291 hSq206.2.2.1.lt, hSq206.2.2.2.trans (bq291.mono (hSq206.2.2.2.size))⟩ (fun hSq302 => ?_)
    clear hK K hSq206 bq291 egq295 ezq296
    refine wpAnyH_ready (rs := [3]) (by kernel_rfl) (by simp) ?_
    refine AllReadyH.cons rfl (fun K hK => ?_) AllReadyH.nil
    rw [if_pos (by rfl)]
    refine wp_bs96 34 23 (.tmp 7) (.tmp 8) (.tmp 9) rfl a1 a2 a3 H1.out H2.out H3.out (by rfl) (by rfl) (by rfl) Try.underlying34 Try.infoHash2 ?_
    intro gq306 yq304 egq307 ezq308 bq303 hEq305
    have lgq309 : w.heap.size ≤ gq306 := by rw [egq307]; exact hSq302.2.2.2.size
    have lbq310 : w.heap.size < gq306 := by rw [egq307]; exact hSq302.1.lt
    have lbq311 : wq1.heap.size < gq306 := by rw [egq307]; exact hSq302.2.1.lt
    have lbq312 : wq6.heap.size < gq306 := by rw [egq307]; exact hSq302.2.2.1.lt
    have hEq313 := hEq301.below bq303 hEq301.lt
    have hEq314 := hEq293.below bq303 hEq293.lt
    refine hK.out _ _ ⟨hSq302.1.below bq303 hSq302.1.lt, hSq302.2.1.below bq303 hSq302.2.1.lt, hSq302.2.2.1.below bq303 hSq302.2.2.1.lt, hSq302.2.2.2.trans (bq303.mono (hSq302.2.2.2.size))⟩ (fun hSq315 => ?_)
    clear hK K hSq302 bq303 egq307 ezq308
    refine wpAnyH_ready (rs := [6]) (by kernel_rfl) (by simp) ?_
    refine AllReadyH.cons rfl (fun K hK => ?_) AllReadyH.nil
    go_simp
    go_wp2_with (go_at_call 37; refine (cW _ _ _ (hashes_three hEq305 H1.out H2.out H3.out (by omega)) (hashes_one hEq313 H2.out (by omega))).mono ?_; rintro e yq316 ⟨vq318, rfl, hvq319, bq317⟩)
    have hEq321 := hEq313.below bq317 hEq313.lt
    have hEq322 := hEq314.below bq317 hEq314.lt
    have hEq323 := hEq305.below bq317 hEq305.lt
    have Hvq318 := Lib.hid hvq319
    refine hK.out _ _ ⟨hSq315.1.below bq317 hSq315.1.lt, hSq315.2.1.below bq317 hSq315.2.1.lt, hSq315.2.2.1.below bq317 hSq315.2.2.1.lt, hSq315.2.2.2.trans (bq317.mono (hSq315.2.2.2.size))⟩ (fun hSq320 => ?_)
    clear hK K hSq315 bq317 hvq319
    refine wpAnyH_ready (rs := [10]) (by kernel_rfl) (by simp) ?_
    refine AllReadyH.cons rfl (fun K hK => ?_) AllReadyH.nil
    go_simp
    go_wp2_with (go_at_call 36; refine (cS _ _ _ Hvq318.out (hashes_two hEq322 H1.out H3.out (by omega))).mono ?_; rintro e yq324 ⟨rfl, bq325⟩)
    have hEq326 := hEq321.below bq325 hEq321.lt
    have hEq327 := hEq322.below bq325 hEq322.lt
    have hEq328 := hEq323.below bq325 hEq323.lt
    have hHq329 := Lib.hid (Hvq318.out.below bq325)
    refine hK.out _ _ ⟨hSq320.1.below bq325 hSq320.1.lt, hSq320.2.1.below bq325 hSq320.2.1.lt, hSq320.2.2.1.below bq325 hSq320.2.2.1.lt, hSq320.2.2.2.trans (bq325.mono (hSq320.2.2.2.size))⟩ (fun hSq330 => ?_)
    clear hK K hSq320 bq325
    refine wpAnyH_take (i := 11) (v := .bool true) rfl (by kernel_rfl) (by kernel_rfl) (by kernel_rfl) (fun _ _ _ h => h) (Or.inl ⟨by rfl, fun x hx => by go_simp⟩) hSq330 ?_
    simp only [Act.put, List.getElem_toArray, List.getElem_cons_zero, List.getElem_cons_succ, List.setIfInBounds_toArray, List.set_cons_zero, List.set_cons_succ]
    refine wpAnyH_take (i := 12) rfl (by kernel_rfl) (by kernel_rfl) (by kernel_rfl) (fun _ _ _ h => h) (yieldsIf_build (by rfl) 109 #[(0, .const (.int .i64 4))] rfl pkD (by kernel_rfl)) hSq330 ?_
    simp only [Act.put, List.getElem_toArray, List.getElem_cons_zero, List.getElem_cons_succ, List.setIfInBounds_toArray, List.set_cons_zero, List.set_cons_succ]
    refine wpAnyH_ready (rs := [13]) (by kernel_rfl) (by simp) ?_
    refine AllReadyH.cons rfl (fun K hK => ?_) AllReadyH.nil
    go_simp
    go_wp2_with (go_at_call 59; refine (PackD_calls _).mono ?_; rintro e yq331 ⟨rfl, bq332⟩)
    have hEq333 := hEq326.below bq332 hEq326.lt
    have hEq334 := hEq327.below bq332 hEq327.lt
    have hEq335 := hEq328.below bq332 hEq328.lt
    have hHq336 := Lib.hid (hHq329.out.below bq332)
    refine hK.out _ _ ⟨hSq330.1.below bq332 hSq330.1.lt, hSq330.2.1.below bq332 hSq330.2.1.lt, hSq330.2.2.1.below bq332 hSq330.2.2.1.lt, hSq330.2.2.2.trans (bq332.mono (hSq330.2.2.2.size))⟩ (fun hSq337 => ?_)
    clear hK K hSq330 bq332
    refine wpAnyH_take (i := 14) (v := .bool true) rfl (by kernel_rfl) (by kernel_rfl) (by kernel_rfl) (fun _ _ _ h => h) (Or.inl ⟨by rfl, fun x hx => by go_simp⟩) hSq337 ?_
    simp only [Act.put, List.getElem_toArray, List.getElem_cons_zero, List.getElem_cons_succ, List.setIfInBounds_toArray, List.set_cons_zero, List.set_cons_succ]
    refine wpAnyH_take (i := 15) (v := .bool true) rfl (by kernel_rfl) (by kernel_rfl) (by kernel_rfl) (fun _ _ _ h => h) (Or.inl ⟨by rfl, fun x hx => by go_simp⟩) hSq337 ?_
    simp only [Act.put, List.getElem_toArray, List.getElem_cons_zero, List.getElem_cons_succ, List.setIfInBounds_toArray, List.set_cons_zero, List.set_cons_succ]
    refine wpAnyH_ready (rs := [16]) (by kernel_rfl) (by simp) ?_
    refine AllReadyH.cons rfl (fun K hK => ?_) AllReadyH.nil
    go_simp
    refine hK.out _ _ hSq337 (fun hSq338 => ?_)
    clear hK K hSq337
    refine wpAnyH_done (by kernel_rfl) ?_ _
    have hfin := hSq338.2.2.2
    clear hSq338
    go_wp2_with fail
    go_returns
    exact ⟨rfl, hfin⟩
  refine AllReadyH.cons rfl (fun K hK => ?_) AllReadyH.nil
  rw [if_pos (by rfl)]
  refine wp_bs64g 34 23 (.tmp 14) (.tmp 15) rfl a1 a3 H1.out H3.out (by rfl) (by rfl) Try.underlying34 Try.infoHash2 ?_
  intro gq342 yq340 egq343 ezq344 bq339 hEq341
  have lgq345 : w.heap.size ≤ gq342 := by rw [egq343]; exact hSq52.2.2.2.size
  have lbq346 : w.heap.size < gq342 := by rw [egq343]; exact hSq52.1.lt
  have lbq347 : wq1.heap.size < gq342 := by rw [egq343]; exact hSq52.2.1.lt
  have lbq348 : wq6.heap.size < gq342 := by rw [egq343]; exact hSq52.2.2.1.lt
  refine hK.out _ _ ⟨hSq52.1.below bq339 hSq52.1.lt, hSq52.2.1.below bq339 hSq52.2.1.lt, hSq52.2.2.1.below bq339 hSq52.2.2.1.lt, hSq52.2.2.2.trans (bq339.mono (hSq52.2.2.2.size))⟩ (fun hSq349 => ?_)
  clear hK K hSq52 bq339 egq343 ezq344
  refine wpAnyH_ready (rs := [3, 5]) (by kernel_rfl) (by simp) ?_
  refine AllReadyH.cons rfl (fun K hK => ?_) ?_
  · rw [if_pos (by rfl)]
    refine wp_bs96 34 23 (.tmp 7) (.tmp 8) (.tmp 9) rfl a1 a2 a3 H1.out H2.out H3.out (by rfl) (by rfl) (by rfl) Try.underlying34 Try.infoHash2 ?_
    intro gq353 yq351 egq354 ezq355 bq350 hEq352
    have lgq356 : w.heap.size ≤ gq353 := by rw [egq354]; exact hSq349.2.2.2.size
    have lbq357 : w.heap.size < gq353 := by rw [egq354]; exact hSq349.1.lt
    have lbq358 : wq1.heap.size < gq353 := by rw [egq354]; exact hSq349.2.1.lt
    have lbq359 : wq6.heap.size < gq353 := by rw [egq354]; exact hSq349.2.2.1.lt
    have hEq360 := hEq341.below bq350 hEq341.lt
    refine hK.out _ _ ⟨hSq349.1.below bq350 hSq349.1.lt, hSq349.2.1.below bq350 hSq349.2.1.lt, hSq349.2.2.1.below bq350 hSq349.2.2.1.lt, hSq349.2.2.2.trans (bq350.mono (hSq349.2.2.2.size))⟩ (fun hSq361 => ?_)
    clear hK K hSq349 bq350 egq354 ezq355
    refine wpAnyH_ready (rs := [5]) (by kernel_rfl) (by simp) ?_
    refine AllReadyH.cons rfl (fun K hK => ?_) AllReadyH.nil
    rw [if_pos (by rfl)]
    refine wp_bs32 34 23 (.tmp 11) rfl a2 H2.out (by rfl) Try.underlying34 Try.infoHash2 ?_
    intro gq365 yq363 egq366 ezq367 bq362 hEq364
    have lgq368 : w.heap.size ≤ gq365 := by rw [egq366]; exact hSq361.2.2.2.size
    have lbq369 : w.heap.size < gq365 := by rw [egq366]; exact hSq361.1.lt
    have lbq370 : wq1.heap.size < gq365 := by rw [egq366]; exact hSq361.2.1.lt
    have lbq371 : wq6.heap.size < gq365 := by rw [egq366]; exact hSq361.2.2.1.lt
    have hEq372 := hEq360.below bq362 hEq360.lt
    have hEq373 := hEq352.below bq362 hEq352.lt
    refine hK.out _ _ ⟨hSq361.1.below bq362 hSq361.1.lt, hSq361.2.1.below bq362 hSq361.2.1.lt, hSq361.2.2.1.below bq362 hSq361.2.2.1.lt, hSq361.2.2.2.trans (bq362.mono (hSq361.2.2.2.size))⟩ (fun hSq374 => ?_)
    clear hK K hSq361 bq362 egq366 ezq367
    refine wpAnyH_ready (rs := [6]) (by kernel_rfl) (by simp) ?_
    refine AllReadyH.cons rfl (fun K hK => ?_) AllReadyH.nil
    go_simp
    go_wp2_with (go_at_call 37; refine (cW _ _ _ (hashes_three hEq373 H1.out H2.out H3.out (by omega)) (hashes_one hEq364 H2.out (by omega))).mono ?_; rintro e yq375 ⟨vq377, rfl, hvq378, bq376⟩)
    have hEq380 := hEq372.below bq376 hEq372.lt
    have hEq381 := hEq373.below bq376 hEq373.lt
    have hEq382 := hEq364.below bq376 hEq364.lt
    have Hvq377 := Lib.hid hvq378
    refine hK.out _ _ ⟨hSq374.1.below bq376 hSq374.1.lt, hSq374.2.1.below bq376 hSq374.2.1.lt, hSq374.2.2.1.below bq376 hSq374.2.2.1.lt, hSq374.2.2.2.trans (bq376.mono (hSq374.2.2.2.size))⟩ (fun hSq379 => ?_)
    clear hK K hSq374 bq376 hvq378
    refine wpAnyH_ready (rs := [10]) (by kernel_rfl) (by simp) ?_
    refine AllReadyH.cons rfl (fun K hK => ?_) AllReadyH.nil
    go_simp
    go_wp2_with (go_at_call 36; refine (cS _ _ _ Hvq377.out (hashes_two hEq380 H1.out H3.out (by omega))).mono ?_; rintro e yq383 ⟨rfl, bq384⟩)
    have hEq385 := hEq380.below bq384 hEq380.lt
    have hEq386 := hEq381.below bq384 hEq381.lt
    have hEq387 := hEq382.below bq384 hEq382.lt
    have hHq388 := Lib.hid (Hvq377.out.below bq384)
    refine hK.out _ _ ⟨hSq379.1.below bq384 hSq379.1.lt, hSq379.2.1.below bq384 hSq379.2.1.lt, hSq379.2.2.1.below bq384 hSq379.2.2.1.lt, hSq379.2.2.2.trans (bq384.mono (hSq379.2.2.2.size))⟩ (fun hSq389 => ?_)
    clear hK K hSq379 bq384
    refine wpAnyH_take (i := 11) (v := .bool true) rfl (by kernel_rfl) (by kernel_rfl) (by kernel_rfl) (fun _ _ _ h => h) (Or.inl ⟨by rfl, fun x hx => by go_simp⟩) hSq389 ?_
    simp only [Act.put, List.getElem_toArray, List.getElem_cons_zero, List.getElem_cons_succ, List.setIfInBounds_toArray, List.set_cons_zero, List.set_cons_succ]
    refine wpAnyH_take (i := 12) rfl (by kernel_rfl) (by kernel_rfl) (by kernel_rfl) (fun _ _ _ h => h) (yieldsIf_build (by rfl) 109 #[(0, .const (.int .i64 4))] rfl pkD (by kernel_rfl)) hSq389 ?_
    simp only [Act.put, List.getElem_toArray, List.getElem_cons_zero, List.getElem_cons_succ, List.setIfInBounds_toArray, List.set_cons_zero, List.set_cons_succ]
    refine wpAnyH_ready (rs := [13]) (by kernel_rfl) (by simp) ?_
    refine AllReadyH.cons rfl (fun K hK => ?_) AllReadyH.nil
    go_simp
    go_wp2_with (go_at_call 59; refine (PackD_calls _).mono ?_; rintro e yq390 ⟨rfl, bq391⟩)
    have hEq392 := hEq385.below bq391 hEq385.lt
    have hEq393 := hEq386.below bq391 hEq386.lt
    have hEq394 := hEq387.below bq391 hEq387.lt
    have hHq395 := Lib.hid (hHq388.out.below bq391)
    refine hK.out _ _ ⟨hSq389.1.below bq391 hSq389.1.lt, hSq389.2.1.below bq391 hSq389.2.1.lt, hSq389.2.2.1.below bq391 hSq389.2.2.1.lt, hSq389.2.2.2.trans (bq391.mono (hSq389.2.2.2.size))⟩ (fun hSq396 => ?_)
    clear hK K hSq389 bq391
    refine wpAnyH_take (i := 14) (v := .bool true) rfl (by kernel_rfl) (by kernel_rfl) (by kernel_rfl) (fun _ _ _ h => h) (Or.inl ⟨by rfl, fun x hx => by go_simp⟩) hSq396 ?_
    simp only [Act.put, List.getElem_toArray, List.getElem_cons_zero, List.getElem_cons_succ, List.setIfInBounds_toArray, List.set_cons_zero, List.set_cons_succ]
    refine wpAnyH_take (i := 15) (v := .bool true) rfl (by kernel_rfl) (by kernel_rfl) (by kernel_rfl) (fun _ _ _ h => h) (Or.inl ⟨by rfl, fun x hx => by go_simp⟩) hSq396 ?_
    simp only [Act.put, List.getElem_toArray, List.getElem_cons_zero, List.getElem_cons_succ, List.setIfInBounds_toArray, List.set_cons_zero, List.set_cons_succ]
    refine wpAnyH_ready (rs := [16]) (by kernel_rfl) (by simp) ?_
    refine AllReadyH.cons rfl (fun K hK => ?_) AllReadyH.nil
    go_simp
    refine hK.out _ _ hSq396 (fun hSq397 => ?_)
    clear hK K hSq396
    refine wpAnyH_done (by kernel_rfl) ?_ _
    have hfin := hSq397.2.2.2
    clear hSq397
    go_wp2_with fail
    go_returns
    exact ⟨rfl, hfin⟩
  refine AllReadyH.cons rfl (fun K hK => ?_) AllReadyH.nil
  rw [if_pos (by rfl)]
  refine wp_bs32 34 23 (.tmp 11) rfl a2 H2.out (by rfl) Try.underlying34 Try.infoHash2 ?_
  intro gq401 yq399 egq402 ezq403 bq398 hEq400
  have lgq404 : w.heap.size ≤ gq401 := by rw [egq402]; exact hSq349.2.2.2.size
  have lbq405 : w.heap.size < gq401 := by rw [egq402]; exact hSq349.1.lt
  have lbq406 : wq1.heap.size < gq401 := by rw [egq402]; exact hSq349.2.1.lt
  have lbq407 : wq6.heap.size < gq401 := by rw [egq402]; exact hSq349.2.2.1.lt
  have hEq408 := hEq341.below bq398 hEq341.lt
  refine hK.out _ _ ⟨hSq349.1.below bq398 hSq349.1.lt, hSq349.2.1.below bq398 hSq349.2.1.lt, hSq349.2.2.1.below bq398 hSq349.2.2.1.lt, hSq349.2.2.2.trans (bq398.mono (hSq349.2.2.2.size))⟩ (fun hSq409 => ?_)
  clear hK K hSq349 bq398 egq402 ezq403
  refine wpAnyH_ready (rs := [3]) (by kernel_rfl) (by simp) ?_
  refine AllReadyH.cons rfl (fun K hK => ?_) AllReadyH.nil
  rw [if_pos (by rfl)]
  refine wp_bs96 34 23 (.tmp 7) (.tmp 8) (.tmp 9) rfl a1 a2 a3 H1.out H2.out H3.out (by rfl) (by rfl) (by rfl) Try.underlying34 Try.infoHash2 ?_
  intro gq413 yq411 egq414 ezq415 bq410 hEq412
  have lgq416 : w.heap.size ≤ gq413 := by rw [egq414]; exact hSq409.2.2.2.size
  have lbq417 : w.heap.size < gq413 := by rw [egq414]; exact hSq409.1.lt
  have lbq418 : wq1.heap.size < gq413 := by rw [egq414]; exact hSq409.2.1.lt
  have lbq419 : wq6.heap.size < gq413 := by rw [egq414]; exact hSq409.2.2.1.lt
  have hEq420 := hEq408.below bq410 hEq408.lt
  have hEq421 := hEq400.below bq410 hEq400.lt
  refine hK.out _ _ ⟨hSq409.1.below bq410 hSq409.1.lt, hSq409.2.1.below bq410 hSq409.2.1.lt, hSq409.2.2.1.below bq410 hSq409.2.2.1.lt, hSq409.2.2.2.trans (bq410.mono (hSq409.2.2.2.size))⟩ (fun hSq422 => ?_)
  clear hK K hSq409 bq410 egq414 ezq415
  refine wpAnyH_ready (rs := [6]) (by kernel_rfl) (by simp) ?_
  refine AllReadyH.cons rfl (fun K hK => ?_) AllReadyH.nil
  go_simp
  go_wp2_with (go_at_call 37; refine (cW _ _ _ (hashes_three hEq412 H1.out H2.out H3.out (by omega)) (hashes_one hEq421 H2.out (by omega))).mono ?_; rintro e yq423 ⟨vq425, rfl, hvq426, bq424⟩)
  have hEq428 := hEq420.below bq424 hEq420.lt
  have hEq429 := hEq421.below bq424 hEq421.lt
  have hEq430 := hEq412.below bq424 hEq412.lt
  have Hvq425 := Lib.hid hvq426
  refine hK.out _ _ ⟨hSq422.1.below bq424 hSq422.1.lt, hSq422.2.1.below bq424 hSq422.2.1.lt, hSq422.2.2.1.below bq424 hSq422.2.2.1.lt, hSq422.2.2.2.trans (bq424.mono (hSq422.2.2.2.size))⟩ (fun hSq427 => ?_)
  clear hK K hSq422 bq424 hvq426
  refine wpAnyH_ready (rs := [10]) (by kernel_rfl) (by simp) ?_
  refine AllReadyH.cons rfl (fun K hK => ?_) AllReadyH.nil
  go_simp
  go_wp2_with (go_at_call 36; refine (cS _ _ _ Hvq425.out (hashes_two hEq428 H1.out H3.out (by omega))).mono ?_; rintro e yq431 ⟨rfl, bq432⟩)
  have hEq433 := hEq428.below bq432 hEq428.lt
  have hEq434 := hEq429.below bq432 hEq429.lt
  have hEq435 := hEq430.below bq432 hEq430.lt
  have hHq436 := Lib.hid (Hvq425.out.below bq432)
  refine hK.out _ _ ⟨hSq427.1.below bq432 hSq427.1.lt, hSq427.2.1.below bq432 hSq427.2.1.lt, hSq427.2.2.1.below bq432 hSq427.2.2.1.lt, hSq427.2.2.2.trans (bq432.mono (hSq427.2.2.2.size))⟩ (fun hSq437 => ?_)
  clear hK K hSq427 bq432
  refine wpAnyH_take (i := 11) (v := .bool true) rfl (by kernel_rfl) (by kernel_rfl) (by kernel_rfl) (fun _ _ _ h => h) (Or.inl ⟨by rfl, fun x hx => by go_simp⟩) hSq437 ?_
  simp only [Act.put, List.getElem_toArray, List.getElem_cons_zero, List.getElem_cons_succ, List.setIfInBounds_toArray, List.set_cons_zero, List.set_cons_succ]
  refine wpAnyH_take (i := 12) rfl (by kernel_rfl) (by kernel_rfl) (by kernel_rfl) (fun _ _ _ h => h) (yieldsIf_build (by rfl) 109 #[(0, .const (.int .i64 4))] rfl pkD (by kernel_rfl)) hSq437 ?_
  simp only [Act.put, List.getElem_toArray, List.getElem_cons_zero, List.getElem_cons_succ, List.setIfInBounds_toArray, List.set_cons_zero, List.set_cons_succ]
  refine wpAnyH_ready (rs := [13]) (by kernel_rfl) (by simp) ?_
  refine AllReadyH.cons rfl (fun K hK => ?_) AllReadyH.nil
  go_simp
  go_wp2_with (go_at_call 59; refine (PackD_calls _).mono ?_; rintro e yq438 ⟨rfl, bq439⟩)
  have hEq440 := hEq433.below bq439 hEq433.lt
  have hEq441 := hEq434.below bq439 hEq434.lt
  have hEq442 := hEq435.below bq439 hEq435.lt
  have hHq443 := Lib.hid (hHq436.out.below bq439)
  refine hK.out _ _ ⟨hSq437.1.below bq439 hSq437.1.lt, hSq437.2.1.below bq439 hSq437.2.1.lt, hSq437.2.2.1.below bq439 hSq437.2.2.1.lt, hSq437.2.2.2.trans (bq439.mono (hSq437.2.2.2.size))⟩ (fun hSq444 => ?_)
  clear hK K hSq437 bq439
  refine wpAnyH_take (i := 14) (v := .bool true) rfl (by kernel_rfl) (by kernel_rfl) (by kernel_rfl) (fun _ _ _ h => h) (Or.inl ⟨by rfl, fun x hx => by go_simp⟩) hSq444 ?_
  simp only [Act.put, List.getElem_toArray, List.getElem_cons_zero, List.getElem_cons_succ, List.setIfInBounds_toArray, List.set_cons_zero, List.set_cons_succ]
  refine wpAnyH_take (i := 15) (v := .bool true) rfl (by kernel_rfl) (by kernel_rfl) (by kernel_rfl) (fun _ _ _ h => h) (Or.inl ⟨by rfl, fun x hx => by go_simp⟩) hSq444 ?_
  simp only [Act.put, List.getElem_toArray, List.getElem_cons_zero, List.getElem_cons_succ, List.setIfInBounds_toArray, List.set_cons_zero, List.set_cons_succ]
  refine wpAnyH_ready (rs := [16]) (by kernel_rfl) (by simp) ?_
  refine AllReadyH.cons rfl (fun K hK => ?_) AllReadyH.nil
  go_simp
  refine hK.out _ _ hSq444 (fun hSq445 => ?_)
  clear hK K hSq444
  refine wpAnyH_done (by kernel_rfl) ?_ _
  have hfin := hSq445.2.2.2
  clear hSq445
  go_wp2_with fail
  go_returns
  exact ⟨rfl, hfin⟩
end Go.Proofs.Ytlomofcnknpciaa
