/-
  keys.Make with a book, or none.
  keys.App with a book, or none.
-/
import Derived.Test.YtnfegmcdljejnaaKeysMake
import Derived.Test.YtnfegmcdljejnaaPrimBk
import Derived.Test.YtnfegmcdljejnaaKeysApp
set_option linter.unusedSimpArgs false
set_option linter.unusedVariables false
namespace Go.Proofs.Ytnfegmcdljejnaa
open Go.RowKit

/-- What keys.Make notes. -/
def makeNotes (o : Option BkSt) (a c : List UInt8) : Option BkSt :=
  bkNote (bkNote (bkNote (bkNote (bkNote (bkNote o ⟨[a], [derive a lWelcome []]⟩) ⟨[a], [epochT a c]⟩) ⟨[epochT a c], [derive (epochT a c) lInit []]⟩) ⟨[epochT a c], [derive (epochT a c) lConfirm []]⟩) ⟨[epochT a c], [derive (epochT a c) lApps []]⟩) ⟨[epochT a c], [derive (epochT a c) lExport []]⟩
set_option maxHeartbeats 16000000 in
set_option maxRecDepth 100000 in
theorem MakeO_calls {A : Nat → Prop} (a c : List UInt8) (B : Nat) (o : Option BkSt) (pv : Value) (hpv : pv = bkPtr o) (w : World) (ho : BkAt A w B o) (hr : BkRoom 6 o) (hB : B ≤ w.heap.size) (hAw : ∀ q, A q → q < w.heap.size) (ha : a.length = 32) (hc : c.length ≤ 68719476736) :
    Calls Try.prog 30 #[pv, .agg (a.map bv).toArray, .string (str c)] w fun e w' => e = .returned (.agg ((secsT a c).map bv).toArray) ∧ BkAt A w' B (makeNotes o a c) ∧ BkFrm A o w w' ∧ Below B w w' := by
  have HO := Lib.hid ho
  have HRM0 := Lib.hid hr
  have HAW := Lib.hid hAw
  have HPV := Lib.hid hpv
  clear ho hr hAw hpv
  have HA := Lib.hid ha
  have HC := Lib.hid hc
  clear ha hc
  have hA0 : Blk ((w.alloc (.cells (a.map bv).toArray 23)).alloc (.cells Try.zeroCells31 31)) w.heap.size (a.map bv).toArray 23 := (Blk.new _ _ _).alloc _
  have hb0 : Below w.heap.size w ((w.alloc (.cells (a.map bv).toArray 23)).alloc (.cells Try.zeroCells31 31)) := ((Below.refl _ _).alloc (Nat.le_refl _) _).alloc (by simp) _
  have hbu : Try.prog.built 31 [(0, .agg (a.map bv).toArray)] = some ((s7 a z32 z32 z32 z32 z32 z32).map bv).toArray := by
    rw [built_struct Try.infoSecs Try.underlying31 (places := [(0, 32), (32, 32), (64, 32), (96, 32), (128, 32), (160, 32), (192, 32)]) (by kernel_rfl), Value.cells, Try.zeroSecs]
    rw [fill_mid (A := []) (B := z32) (C := z32 ++ (z32 ++ (z32 ++ (z32 ++ (z32 ++ z32))))) (v := a) (by rfl) (by rw [HA.out]; rfl) (by rw [HA.out]; rfl)]
    rfl
  have hS0 : Blk (((w.alloc (.cells (a.map bv).toArray 23)).alloc (.cells Try.zeroCells31 31)).alloc (.cells Try.zeroCells31 31)) (w.heap.size + 1 + 1) Try.zeroCells31 31 := blk_new2 _ _ _ _ _ _ _
  have hR0 : Blk (((w.alloc (.cells (a.map bv).toArray 23)).alloc (.cells Try.zeroCells31 31)).alloc (.cells Try.zeroCells31 31)) (w.heap.size + 1) Try.zeroCells31 31 := (blk_new1 _ _ _ _).alloc _
  have hb1 := hb0.alloc hb0.size (.cells Try.zeroCells31 31)
  have hA1 := hA0.alloc (.cells Try.zeroCells31 31)
  have hl224 : (((s7 a z32 z32 z32 z32 z32 z32).map bv).toArray).size = 224 := by simp [s7, HA.out, z32]
  have hz224 : Try.zeroCells31.size = 224 := by rw [Try.zeroSecs]; simp [s7, z32]
  go_enter Try.func30, Try.ntmps30
  go_wp2_with (first | ((with_reducible show wpList _ _ _ (⟨some 10, _, _, _, _, _⟩ :: _) _ _); refine wpList_loadBlk rfl 23 (.tmp 4) rfl w.heap.size (by rfl) _ _ _ hA0 Try.underlying23 rfl (by rw [bv_size, HA.out]; exact Try.sizeHash) ?_) | ((with_reducible show wpList _ _ _ (⟨some 11, _, _, _, _, _⟩ :: _) _ _); refine wpList_buildCells rfl 31 _ rfl _ hbu ?_) | ((with_reducible show wpList _ _ _ (⟨none, Op.store _ (.tmp 7) _, _, _, _, _⟩ :: _) _ _); refine wpList_storeBlk rfl 31 (.tmp 7) (.tmp 11) rfl (w.heap.size + 1 + 1) ((s7 a z32 z32 z32 z32 z32 z32).map bv).toArray (by rfl) (by rfl) _ _ hS0 (by rw [hl224]; exact Try.sizeSecs) (by rw [hl224, hz224]) (bv_all _) ?_; intro w1 hS1 g1; have hA2 := hA1.grown g1 (by simp; omega); have hR2 := hR0.grown g1 (by simp); have hb2 := below_new hb1 g1 (by omega) hb1.size) | ((with_reducible show wpList _ _ _ (⟨some 13, _, _, _, _, _⟩ :: _) _ _); refine wpList_loadBlk rfl 23 (.tmp 4) rfl w.heap.size (by rfl) _ _ _ hA2 Try.underlying23 rfl (by rw [bv_size, HA.out]; exact Try.sizeHash) ?_))
  clear hb0 hb1 hA1 hA0 hS0 hR0 hbu g1
  obtain ⟨N, hN⟩ : ∃ N, N = w1.heap.size := ⟨_, rfl⟩
  have HRU1 : Hid (BkRun A o o w w1 B N) := by show BkRun _ _ _ _ _ _ _; rw [hN]; exact BkRun.start hb2 HO.out hB HAW.out
  have HSN : Hid (w.heap.size + 1 + 1 < N) := by show _ < _; rw [hN]; exact hS1.lt
  clear hN hb2
  have lS := hS1.lt
  refine (PDeriveO_calls a lWelcome [] B _ pv (HRU1.out.pv HPV.out) _ HRU1.out.at_ (HRM0.out.less (by omega)) HRU1.out.le HRU1.out.aw HA.out (by decide) (by simp)).mono ?_
  rintro e w2 ⟨rfl, k2, f2, b2⟩
  obtain ⟨W, hW⟩ : ∃ y, y = derive a lWelcome [] := ⟨_, rfl⟩
  have LW : Hid (W.length = 32) := by show _ = _; rw [hW]; exact hmac_len _ _
  have HW := Lib.hid hW
  rw [← hW] at k2 ⊢
  obtain ⟨o1, ho1⟩ : ∃ x, x = bkNote o ⟨[a], [W]⟩ := ⟨_, rfl⟩
  have HO1 := Lib.hid ho1
  have HRM1 : Hid (BkRoom 5 o1) := by show BkRoom _ _; rw [ho1]; exact HRM0.out.note (by simp)
  have HRU2 : Hid (BkRun A o o1 w w2 B N) := by show BkRun _ _ _ _ _ _ _; rw [ho1]; exact HRU1.out.note k2 f2 b2
  clear ho1 HRU1
  have hS2 := hS1.frm f2 (by unfold NT; decide)
  have hA3 := hA2.frm f2 (by unfold NT; decide)
  have hR3 := hR2.frm f2 (by unfold NT; decide)
  clear hW hS1 hA2 hR2 k2 f2 b2
  go_wp2_with (first | ((with_reducible show wpList _ _ _ (⟨none, Op.store _ (.tmp 15) _, _, _, _, _⟩ :: _) _ _); refine wpList_storeMid rfl 23 (.tmp 15) (.tmp 14) rfl (w.heap.size + 1 + 1) 32 W (by rfl) (by rfl) _ _ a z32 (z32 ++ (z32 ++ (z32 ++ (z32 ++ z32)))) hS2 (by rfl) HA.out (by rw [LW.out]; rfl) (by rw [LW.out]; exact Try.sizeHash) ?_; intro w3 hS3 g3; have hA4 := hA3.grown g3 (by simp; omega); have hR4 := hR3.grown g3 (by simp); have HRU3 := Lib.hid (HRU2.out.store g3 (by omega) HSN.out)) | ((with_reducible show wpList _ _ _ (⟨some 17, _, _, _, _, _⟩ :: _) _ _); refine wpList_loadBlk rfl 23 (.tmp 4) rfl w.heap.size (by rfl) _ _ _ hA4 Try.underlying23 rfl (by rw [bv_size, HA.out]; exact Try.sizeHash) ?_))
  clear HRU2 hR3 hS2 hA3 g3
  refine (PDeriveO_calls a lEpoch c B _ pv (HRU3.out.pv HPV.out) _ HRU3.out.at_ (HRM1.out.less (by omega)) HRU3.out.le HRU3.out.aw HA.out (by decide) HC.out).mono ?_
  rintro e w4 ⟨rfl, k4, f4, b4⟩
  obtain ⟨E, hE⟩ : ∃ y, y = derive a lEpoch c := ⟨_, rfl⟩
  have LE : Hid (E.length = 32) := by show _ = _; rw [hE]; exact hmac_len _ _
  have HE := Lib.hid hE
  rw [← hE] at k4 ⊢
  obtain ⟨o2, ho2⟩ : ∃ x, x = bkNote o1 ⟨[a], [E]⟩ := ⟨_, rfl⟩
  have HO2 := Lib.hid ho2
  have HRM2 : Hid (BkRoom 4 o2) := by show BkRoom _ _; rw [ho2]; exact HRM1.out.note (by simp)
  have HRU4 : Hid (BkRun A o o2 w w4 B N) := by show BkRun _ _ _ _ _ _ _; rw [ho2]; exact HRU3.out.note k4 f4 b4
  clear ho2 HRU3
  have hS4 := hS3.frm f4 (by unfold NT; decide)
  have hR5 := hR4.frm f4 (by unfold NT; decide)
  clear hE hS3 hA4 hR4 k4 f4 b4
  go_wp2_with (first | ((with_reducible show wpList _ _ _ (⟨none, Op.store _ (.tmp 20) _, _, _, _, _⟩ :: _) _ _); refine wpList_storeMid rfl 23 (.tmp 20) (.tmp 19) rfl (w.heap.size + 1 + 1) 64 E (by rfl) (by rfl) _ _ (a ++ W) z32 (z32 ++ (z32 ++ (z32 ++ z32))) hS4 (by simp [s7]) (by rw [List.length_append, HA.out, LW.out]) (by rw [LE.out]; rfl) (by rw [LE.out]; exact Try.sizeHash) ?_; intro w5 hS5 g5; have hR6 := hR5.grown g5 (by simp); have HRU6 := Lib.hid (HRU4.out.store g5 (by omega) HSN.out)))
  clear hR5 hS4 HRU4 --rounds
  refine wp_loop_rounds 5 ?_
  clear g5
  rw [rounds_succ]
  have hN0 := Blk.new w5 #[Value.pointer none, Value.string ⟨#[]⟩] 129
  have hSa0 := hS5.alloc (.cells #[Value.pointer none, Value.string ⟨#[]⟩] 129)
  have hRa0 := hR6.alloc (.cells #[Value.pointer none, Value.string ⟨#[]⟩] 129)
  have lS0 := hS5.lt
  have hix : ∀ x, (Instr.index 130 (.agg #[.pointer (some ⟨w.heap.size + 1 + 1, 96, none⟩), .string ⟨#[105, 110, 105, 116]⟩, .pointer (some ⟨w.heap.size + 1 + 1, 128, none⟩), .string ⟨#[99, 111, 110, 102, 105, 114, 109]⟩, .pointer (some ⟨w.heap.size + 1 + 1, 160, none⟩), .string ⟨#[97, 112, 112, 115]⟩, .pointer (some ⟨w.heap.size + 1 + 1, 192, none⟩), .string ⟨#[101, 120, 112, 111, 114, 116]⟩]) (.int .i64 0)).run Try.prog x = .ok (.agg #[.pointer (some ⟨w.heap.size + 1 + 1, 96, none⟩), .string (str lInit)]) x := four_index0 _ _ _ _
  go_wp2_with ((with_reducible show wpList _ _ _ (⟨none, Op.store _ (.tmp 9) _, _, _, _, _⟩ :: _) _ _); refine wpList_storeBlk rfl 129 (.tmp 9) (.tmp 32) rfl w5.heap.size #[.pointer (some ⟨w.heap.size + 1 + 1, 96, none⟩), .string (str lInit)] (by rfl) (by rfl) _ _ hN0 Try.sizeT129 rfl (by first | rfl | simp [Value.oneCell'] | kernel_rfl) ?_; intro u0 hX0 g0; have hSb0 := hSa0.grown g0 (by simp; omega); have hRb0 := hRa0.grown g0 (by simp; omega); have hbb0 := Lib.hid (HRU6.out.below (below_new ((Below.refl w5.heap.size w5).alloc (Nat.le_refl _) _) g0 (Nat.le_refl _) (by simp))))
  clear hix hN0 hSa0 hRa0 g0 hS5 hR6 HRU6
  refine wp_region_held_drew (S := fun x => x.rangeAt (w.heap.size + 1 + 1) 64 (E.map bv) ∧ Blk x w5.heap.size #[.pointer (some ⟨w.heap.size + 1 + 1, 96, none⟩), .string (str lInit)] 129) (by kernel_rfl) ⟨blk_mid (A := a ++ W) (v := E) (C := (z32 ++ (z32 ++ (z32 ++ z32)))) hSb0.drew (by simp) (by rw [List.length_append, HA.out, LW.out]), hX0.drew⟩ (fun hHeld => ?_)
  have lX0 := hX0.lt
  clear hX0
  have hSc0 := hSb0.drew
  have hRc0 := hRb0.drew
  have hbc0 := Lib.hid (hbb0.out.drew)
  clear hSb0 hRb0 hbb0
  refine wpAnyH_take (i := 0) (v := .pointer (some ⟨w5.heap.size, 0, none⟩)) rfl (by kernel_rfl) (by kernel_rfl) (by kernel_rfl) (fun _ _ _ h => h) (Or.inl ⟨by rfl, fun x hx => by go_simp⟩) hHeld ?_
  simp only [Act.put, List.setIfInBounds_toArray, List.set_cons_zero, List.set_cons_succ]
  refine wpAnyH_take (i := 1) (v := .pointer (some ⟨w.heap.size + 1 + 1, 96, none⟩)) rfl (by kernel_rfl) (by kernel_rfl) (by kernel_rfl) (fun _ _ _ h => h) (Or.inl ⟨by rfl, fun x hx => by have hc := hx.2.cell 0 _ rfl; go_simp⟩) hHeld ?_
  simp only [Act.put, List.setIfInBounds_toArray, List.set_cons_zero, List.set_cons_succ]
  refine wpAnyH_take (i := 2) (v := pv) rfl (by kernel_rfl) (by kernel_rfl) (by kernel_rfl) (fun _ _ _ h => h) (Or.inl ⟨by rfl, fun x hx => by go_simp⟩) hHeld ?_
  simp only [Act.put, List.setIfInBounds_toArray, List.set_cons_zero, List.set_cons_succ]
  refine wpAnyH_take (i := 3) (v := .pointer (some ⟨w.heap.size + 1 + 1, 64, none⟩)) rfl (by kernel_rfl) (by kernel_rfl) (by kernel_rfl) (fun _ _ _ h => h) (Or.inl ⟨by rfl, fun x hx => by go_simp⟩) hHeld ?_
  simp only [Act.put, List.setIfInBounds_toArray, List.set_cons_zero, List.set_cons_succ]
  refine wpAnyH_take (i := 4) rfl (by kernel_rfl) (by kernel_rfl) (by kernel_rfl) (fun _ _ _ h => h) (yieldsIf_load_mid (by rfl) 23 (.tmp 36) rfl (w.heap.size + 1 + 1) 64 (by rfl) (E.map bv) _ (fun x hx => hx.1) Try.underlying23 rfl (by rw [List.length_map, LE.out]; exact Try.sizeHash)) hHeld ?_
  simp only [Act.put, List.setIfInBounds_toArray, List.set_cons_zero, List.set_cons_succ]
  refine wpAnyH_take (i := 5) (v := .pointer (some ⟨w5.heap.size, 1, none⟩)) rfl (by kernel_rfl) (by kernel_rfl) (by kernel_rfl) (fun _ _ _ h => h) (Or.inl ⟨by rfl, fun x hx => by go_simp⟩) hHeld ?_
  simp only [Act.put, List.setIfInBounds_toArray, List.set_cons_zero, List.set_cons_succ]
  refine wpAnyH_take (i := 6) (v := .string (str lInit)) rfl (by kernel_rfl) (by kernel_rfl) (by kernel_rfl) (fun _ _ _ h => h) (Or.inl ⟨by rfl, fun x hx => by have hc := hx.2.cell 1 _ rfl; go_simp⟩) hHeld ?_
  simp only [Act.put, List.setIfInBounds_toArray, List.set_cons_zero, List.set_cons_succ]
  refine wpAnyH_ready (rs := [7]) (by kernel_rfl) (by simp) ?_
  refine AllReadyH.cons rfl (fun K hK => ?_) AllReadyH.nil
  go_simp
  go_wp2_with (go_at_call 66; refine (PDeriveO_calls E lInit [] B _ pv (hbc0.out.pv HPV.out) _ hbc0.out.at_ (HRM2.out.less (by omega)) hbc0.out.le hbc0.out.aw LE.out (by decide) (by simp)).mono ?_; rintro e v0 ⟨rfl, k0, f0, b0⟩)
  obtain ⟨I, hV⟩ : ∃ y, y = derive E lInit [] := ⟨_, rfl⟩
  have LI : Hid (I.length = 32) := by show _ = _; rw [hV]; exact hmac_len _ _
  have HI := Lib.hid hV
  rw [← hV] at k0 ⊢
  clear hV
  obtain ⟨o3, ho3⟩ : ∃ x, x = bkNote o2 ⟨[E], [I]⟩ := ⟨_, rfl⟩
  have HO3 := Lib.hid ho3
  have HRM3 : Hid (BkRoom 3 o3) := by show BkRoom _ _; rw [ho3]; exact HRM2.out.note (by simp)
  have hbd0 : Hid (BkRun A o o3 w v0 B N) := by show BkRun _ _ _ _ _ _ _; rw [ho3]; exact hbc0.out.note k0 f0 b0
  clear ho3
  have hSd0 := hSc0.frm f0 (by unfold NT; decide)
  have hRd0 := hRc0.frm f0 (by unfold NT; decide)
  have lV0 := b0.size
  refine hK.out _ _ ⟨blk_mid (A := a ++ W) (v := E) (C := (z32 ++ (z32 ++ (z32 ++ z32)))) hSd0 (by simp) (by rw [List.length_append, HA.out, LW.out]), hHeld.2.frm f0 (by unfold NT; decide)⟩ (fun hHeld2 => ?_)
  clear hK K hHeld b0 k0 f0 hSc0 hRc0 hbc0
  refine wpAnyH_ready (rs := [8]) (by kernel_rfl) (by simp) ?_
  refine AllReadyH.cons rfl (fun K hK => ?_) AllReadyH.nil
  go_simp
  refine hK.out _ _ hHeld2 (fun hHeld3 => ?_)
  clear hK K hHeld2
  refine wpAnyH_ready (rs := [9]) (by kernel_rfl) (by simp) ?_
  refine AllReadyH.cons rfl (fun K hK => ?_) AllReadyH.nil
  rw [if_pos (by rfl)]
  refine wp_storeMid 23 (.tmp 41) (.tmp 40) rfl (w.heap.size + 1 + 1) 96 I (by rfl) (by rfl) _ _ (a ++ (W ++ E)) z32 (z32 ++ (z32 ++ z32)) hSd0 (by simp) (by simp only [List.length_append, HA.out, LW.out, LE.out]) (by rw [LI.out]; rfl) (by rw [LI.out]; exact Try.sizeHash) ?_
  intro t0 hT0 gt0
  have hRt0 := hRd0.grown gt0 (by simp)
  have hbt0 := Lib.hid (hbd0.out.store gt0 (by omega) HSN.out)
  refine hK.out _ _ ⟨blk_mid (A := a ++ W) (v := E) (C := (I ++ (z32 ++ (z32 ++ z32)))) hT0 (by simp) (by rw [List.length_append, HA.out, LW.out]), hHeld3.2.grown gt0 (by simp; omega)⟩ (fun hHeld4 => ?_)
  clear hK K hHeld3 hHeld4 hSd0 hRd0 hbd0 gt0
  refine wpAnyH_done (by kernel_rfl) ?_ _
  go_wp2_with fail
  rw [rounds_succ]
  have hN1 := Blk.new t0 #[Value.pointer none, Value.string ⟨#[]⟩] 129
  have hSa1 := hT0.alloc (.cells #[Value.pointer none, Value.string ⟨#[]⟩] 129)
  have hRa1 := hRt0.alloc (.cells #[Value.pointer none, Value.string ⟨#[]⟩] 129)
  have lS1 := hT0.lt
  have hix : ∀ x, (Instr.index 130 (.agg #[.pointer (some ⟨w.heap.size + 1 + 1, 96, none⟩), .string ⟨#[105, 110, 105, 116]⟩, .pointer (some ⟨w.heap.size + 1 + 1, 128, none⟩), .string ⟨#[99, 111, 110, 102, 105, 114, 109]⟩, .pointer (some ⟨w.heap.size + 1 + 1, 160, none⟩), .string ⟨#[97, 112, 112, 115]⟩, .pointer (some ⟨w.heap.size + 1 + 1, 192, none⟩), .string ⟨#[101, 120, 112, 111, 114, 116]⟩]) (.int .i64 1)).run Try.prog x = .ok (.agg #[.pointer (some ⟨w.heap.size + 1 + 1, 128, none⟩), .string (str lConfirm)]) x := four_index1 _ _ _ _
  go_wp2_with ((with_reducible show wpList _ _ _ (⟨none, Op.store _ (.tmp 9) _, _, _, _, _⟩ :: _) _ _); refine wpList_storeBlk rfl 129 (.tmp 9) (.tmp 32) rfl t0.heap.size #[.pointer (some ⟨w.heap.size + 1 + 1, 128, none⟩), .string (str lConfirm)] (by rfl) (by rfl) _ _ hN1 Try.sizeT129 rfl (by first | rfl | simp [Value.oneCell'] | kernel_rfl) ?_; intro u1 hX1 g1; have hSb1 := hSa1.grown g1 (by simp; omega); have hRb1 := hRa1.grown g1 (by simp; omega); have hbb1 := Lib.hid (hbt0.out.below (below_new ((Below.refl t0.heap.size t0).alloc (Nat.le_refl _) _) g1 (Nat.le_refl _) (by simp))))
  clear hix hN1 hSa1 hRa1 g1 hT0 hRt0 hbt0
  refine wp_region_held_drew (S := fun x => x.rangeAt (w.heap.size + 1 + 1) 64 (E.map bv) ∧ Blk x t0.heap.size #[.pointer (some ⟨w.heap.size + 1 + 1, 128, none⟩), .string (str lConfirm)] 129) (by kernel_rfl) ⟨blk_mid (A := a ++ W) (v := E) (C := (I ++ (z32 ++ (z32 ++ z32)))) hSb1.drew (by simp) (by rw [List.length_append, HA.out, LW.out]), hX1.drew⟩ (fun hHeld => ?_)
  have lX1 := hX1.lt
  clear hX1
  have hSc1 := hSb1.drew
  have hRc1 := hRb1.drew
  have hbc1 := Lib.hid (hbb1.out.drew)
  clear hSb1 hRb1 hbb1
  refine wpAnyH_take (i := 0) (v := .pointer (some ⟨t0.heap.size, 0, none⟩)) rfl (by kernel_rfl) (by kernel_rfl) (by kernel_rfl) (fun _ _ _ h => h) (Or.inl ⟨by rfl, fun x hx => by go_simp⟩) hHeld ?_
  simp only [Act.put, List.setIfInBounds_toArray, List.set_cons_zero, List.set_cons_succ]
  refine wpAnyH_take (i := 1) (v := .pointer (some ⟨w.heap.size + 1 + 1, 128, none⟩)) rfl (by kernel_rfl) (by kernel_rfl) (by kernel_rfl) (fun _ _ _ h => h) (Or.inl ⟨by rfl, fun x hx => by have hc := hx.2.cell 0 _ rfl; go_simp⟩) hHeld ?_
  simp only [Act.put, List.setIfInBounds_toArray, List.set_cons_zero, List.set_cons_succ]
  refine wpAnyH_take (i := 2) (v := pv) rfl (by kernel_rfl) (by kernel_rfl) (by kernel_rfl) (fun _ _ _ h => h) (Or.inl ⟨by rfl, fun x hx => by go_simp⟩) hHeld ?_
  simp only [Act.put, List.setIfInBounds_toArray, List.set_cons_zero, List.set_cons_succ]
  refine wpAnyH_take (i := 3) (v := .pointer (some ⟨w.heap.size + 1 + 1, 64, none⟩)) rfl (by kernel_rfl) (by kernel_rfl) (by kernel_rfl) (fun _ _ _ h => h) (Or.inl ⟨by rfl, fun x hx => by go_simp⟩) hHeld ?_
  simp only [Act.put, List.setIfInBounds_toArray, List.set_cons_zero, List.set_cons_succ]
  refine wpAnyH_take (i := 4) rfl (by kernel_rfl) (by kernel_rfl) (by kernel_rfl) (fun _ _ _ h => h) (yieldsIf_load_mid (by rfl) 23 (.tmp 36) rfl (w.heap.size + 1 + 1) 64 (by rfl) (E.map bv) _ (fun x hx => hx.1) Try.underlying23 rfl (by rw [List.length_map, LE.out]; exact Try.sizeHash)) hHeld ?_
  simp only [Act.put, List.setIfInBounds_toArray, List.set_cons_zero, List.set_cons_succ]
  refine wpAnyH_take (i := 5) (v := .pointer (some ⟨t0.heap.size, 1, none⟩)) rfl (by kernel_rfl) (by kernel_rfl) (by kernel_rfl) (fun _ _ _ h => h) (Or.inl ⟨by rfl, fun x hx => by go_simp⟩) hHeld ?_
  simp only [Act.put, List.setIfInBounds_toArray, List.set_cons_zero, List.set_cons_succ]
  refine wpAnyH_take (i := 6) (v := .string (str lConfirm)) rfl (by kernel_rfl) (by kernel_rfl) (by kernel_rfl) (fun _ _ _ h => h) (Or.inl ⟨by rfl, fun x hx => by have hc := hx.2.cell 1 _ rfl; go_simp⟩) hHeld ?_
  simp only [Act.put, List.setIfInBounds_toArray, List.set_cons_zero, List.set_cons_succ]
  refine wpAnyH_ready (rs := [7]) (by kernel_rfl) (by simp) ?_
  refine AllReadyH.cons rfl (fun K hK => ?_) AllReadyH.nil
  go_simp
  go_wp2_with (go_at_call 66; refine (PDeriveO_calls E lConfirm [] B _ pv (hbc1.out.pv HPV.out) _ hbc1.out.at_ (HRM3.out.less (by omega)) hbc1.out.le hbc1.out.aw LE.out (by decide) (by simp)).mono ?_; rintro e v1 ⟨rfl, k1, f1, b1⟩)
  obtain ⟨F, hV⟩ : ∃ y, y = derive E lConfirm [] := ⟨_, rfl⟩
  have LF : Hid (F.length = 32) := by show _ = _; rw [hV]; exact hmac_len _ _
  have HF := Lib.hid hV
  rw [← hV] at k1 ⊢
  clear hV
  obtain ⟨o4, ho4⟩ : ∃ x, x = bkNote o3 ⟨[E], [F]⟩ := ⟨_, rfl⟩
  have HO4 := Lib.hid ho4
  have HRM4 : Hid (BkRoom 2 o4) := by show BkRoom _ _; rw [ho4]; exact HRM3.out.note (by simp)
  have hbd1 : Hid (BkRun A o o4 w v1 B N) := by show BkRun _ _ _ _ _ _ _; rw [ho4]; exact hbc1.out.note k1 f1 b1
  clear ho4
  have hSd1 := hSc1.frm f1 (by unfold NT; decide)
  have hRd1 := hRc1.frm f1 (by unfold NT; decide)
  have lV1 := b1.size
  refine hK.out _ _ ⟨blk_mid (A := a ++ W) (v := E) (C := (I ++ (z32 ++ (z32 ++ z32)))) hSd1 (by simp) (by rw [List.length_append, HA.out, LW.out]), hHeld.2.frm f1 (by unfold NT; decide)⟩ (fun hHeld2 => ?_)
  clear hK K hHeld b1 k1 f1 hSc1 hRc1 hbc1
  refine wpAnyH_ready (rs := [8]) (by kernel_rfl) (by simp) ?_
  refine AllReadyH.cons rfl (fun K hK => ?_) AllReadyH.nil
  go_simp
  refine hK.out _ _ hHeld2 (fun hHeld3 => ?_)
  clear hK K hHeld2
  refine wpAnyH_ready (rs := [9]) (by kernel_rfl) (by simp) ?_
  refine AllReadyH.cons rfl (fun K hK => ?_) AllReadyH.nil
  rw [if_pos (by rfl)]
  refine wp_storeMid 23 (.tmp 41) (.tmp 40) rfl (w.heap.size + 1 + 1) 128 F (by rfl) (by rfl) _ _ (a ++ (W ++ (E ++ I))) z32 (z32 ++ z32) hSd1 (by simp) (by simp only [List.length_append, HA.out, LW.out, LE.out, LI.out]) (by rw [LF.out]; rfl) (by rw [LF.out]; exact Try.sizeHash) ?_
  intro t1 hT1 gt1
  have hRt1 := hRd1.grown gt1 (by simp)
  have hbt1 := Lib.hid (hbd1.out.store gt1 (by omega) HSN.out)
  refine hK.out _ _ ⟨blk_mid (A := a ++ W) (v := E) (C := (I ++ (F ++ (z32 ++ z32)))) hT1 (by simp) (by rw [List.length_append, HA.out, LW.out]), hHeld3.2.grown gt1 (by simp; omega)⟩ (fun hHeld4 => ?_)
  clear hK K hHeld3 hHeld4 hSd1 hRd1 hbd1 gt1
  refine wpAnyH_done (by kernel_rfl) ?_ _
  go_wp2_with fail
  rw [rounds_succ]
  have hN2 := Blk.new t1 #[Value.pointer none, Value.string ⟨#[]⟩] 129
  have hSa2 := hT1.alloc (.cells #[Value.pointer none, Value.string ⟨#[]⟩] 129)
  have hRa2 := hRt1.alloc (.cells #[Value.pointer none, Value.string ⟨#[]⟩] 129)
  have lS2 := hT1.lt
  have hix : ∀ x, (Instr.index 130 (.agg #[.pointer (some ⟨w.heap.size + 1 + 1, 96, none⟩), .string ⟨#[105, 110, 105, 116]⟩, .pointer (some ⟨w.heap.size + 1 + 1, 128, none⟩), .string ⟨#[99, 111, 110, 102, 105, 114, 109]⟩, .pointer (some ⟨w.heap.size + 1 + 1, 160, none⟩), .string ⟨#[97, 112, 112, 115]⟩, .pointer (some ⟨w.heap.size + 1 + 1, 192, none⟩), .string ⟨#[101, 120, 112, 111, 114, 116]⟩]) (.int .i64 2)).run Try.prog x = .ok (.agg #[.pointer (some ⟨w.heap.size + 1 + 1, 160, none⟩), .string (str lApps)]) x := four_index2 _ _ _ _
  go_wp2_with ((with_reducible show wpList _ _ _ (⟨none, Op.store _ (.tmp 9) _, _, _, _, _⟩ :: _) _ _); refine wpList_storeBlk rfl 129 (.tmp 9) (.tmp 32) rfl t1.heap.size #[.pointer (some ⟨w.heap.size + 1 + 1, 160, none⟩), .string (str lApps)] (by rfl) (by rfl) _ _ hN2 Try.sizeT129 rfl (by first | rfl | simp [Value.oneCell'] | kernel_rfl) ?_; intro u2 hX2 g2; have hSb2 := hSa2.grown g2 (by simp; omega); have hRb2 := hRa2.grown g2 (by simp; omega); have hbb2 := Lib.hid (hbt1.out.below (below_new ((Below.refl t1.heap.size t1).alloc (Nat.le_refl _) _) g2 (Nat.le_refl _) (by simp))))
  clear hix hN2 hSa2 hRa2 g2 hT1 hRt1 hbt1
  refine wp_region_held_drew (S := fun x => x.rangeAt (w.heap.size + 1 + 1) 64 (E.map bv) ∧ Blk x t1.heap.size #[.pointer (some ⟨w.heap.size + 1 + 1, 160, none⟩), .string (str lApps)] 129) (by kernel_rfl) ⟨blk_mid (A := a ++ W) (v := E) (C := (I ++ (F ++ (z32 ++ z32)))) hSb2.drew (by simp) (by rw [List.length_append, HA.out, LW.out]), hX2.drew⟩ (fun hHeld => ?_)
  have lX2 := hX2.lt
  clear hX2
  have hSc2 := hSb2.drew
  have hRc2 := hRb2.drew
  have hbc2 := Lib.hid (hbb2.out.drew)
  clear hSb2 hRb2 hbb2
  refine wpAnyH_take (i := 0) (v := .pointer (some ⟨t1.heap.size, 0, none⟩)) rfl (by kernel_rfl) (by kernel_rfl) (by kernel_rfl) (fun _ _ _ h => h) (Or.inl ⟨by rfl, fun x hx => by go_simp⟩) hHeld ?_
  simp only [Act.put, List.setIfInBounds_toArray, List.set_cons_zero, List.set_cons_succ]
  refine wpAnyH_take (i := 1) (v := .pointer (some ⟨w.heap.size + 1 + 1, 160, none⟩)) rfl (by kernel_rfl) (by kernel_rfl) (by kernel_rfl) (fun _ _ _ h => h) (Or.inl ⟨by rfl, fun x hx => by have hc := hx.2.cell 0 _ rfl; go_simp⟩) hHeld ?_
  simp only [Act.put, List.setIfInBounds_toArray, List.set_cons_zero, List.set_cons_succ]
  refine wpAnyH_take (i := 2) (v := pv) rfl (by kernel_rfl) (by kernel_rfl) (by kernel_rfl) (fun _ _ _ h => h) (Or.inl ⟨by rfl, fun x hx => by go_simp⟩) hHeld ?_
  simp only [Act.put, List.setIfInBounds_toArray, List.set_cons_zero, List.set_cons_succ]
  refine wpAnyH_take (i := 3) (v := .pointer (some ⟨w.heap.size + 1 + 1, 64, none⟩)) rfl (by kernel_rfl) (by kernel_rfl) (by kernel_rfl) (fun _ _ _ h => h) (Or.inl ⟨by rfl, fun x hx => by go_simp⟩) hHeld ?_
  simp only [Act.put, List.setIfInBounds_toArray, List.set_cons_zero, List.set_cons_succ]
  refine wpAnyH_take (i := 4) rfl (by kernel_rfl) (by kernel_rfl) (by kernel_rfl) (fun _ _ _ h => h) (yieldsIf_load_mid (by rfl) 23 (.tmp 36) rfl (w.heap.size + 1 + 1) 64 (by rfl) (E.map bv) _ (fun x hx => hx.1) Try.underlying23 rfl (by rw [List.length_map, LE.out]; exact Try.sizeHash)) hHeld ?_
  simp only [Act.put, List.setIfInBounds_toArray, List.set_cons_zero, List.set_cons_succ]
  refine wpAnyH_take (i := 5) (v := .pointer (some ⟨t1.heap.size, 1, none⟩)) rfl (by kernel_rfl) (by kernel_rfl) (by kernel_rfl) (fun _ _ _ h => h) (Or.inl ⟨by rfl, fun x hx => by go_simp⟩) hHeld ?_
  simp only [Act.put, List.setIfInBounds_toArray, List.set_cons_zero, List.set_cons_succ]
  refine wpAnyH_take (i := 6) (v := .string (str lApps)) rfl (by kernel_rfl) (by kernel_rfl) (by kernel_rfl) (fun _ _ _ h => h) (Or.inl ⟨by rfl, fun x hx => by have hc := hx.2.cell 1 _ rfl; go_simp⟩) hHeld ?_
  simp only [Act.put, List.setIfInBounds_toArray, List.set_cons_zero, List.set_cons_succ]
  refine wpAnyH_ready (rs := [7]) (by kernel_rfl) (by simp) ?_
  refine AllReadyH.cons rfl (fun K hK => ?_) AllReadyH.nil
  go_simp
  go_wp2_with (go_at_call 66; refine (PDeriveO_calls E lApps [] B _ pv (hbc2.out.pv HPV.out) _ hbc2.out.at_ (HRM4.out.less (by omega)) hbc2.out.le hbc2.out.aw LE.out (by decide) (by simp)).mono ?_; rintro e v2 ⟨rfl, k2, f2, b2⟩)
  obtain ⟨P, hV⟩ : ∃ y, y = derive E lApps [] := ⟨_, rfl⟩
  have LP : Hid (P.length = 32) := by show _ = _; rw [hV]; exact hmac_len _ _
  have HP := Lib.hid hV
  rw [← hV] at k2 ⊢
  clear hV
  obtain ⟨o5, ho5⟩ : ∃ x, x = bkNote o4 ⟨[E], [P]⟩ := ⟨_, rfl⟩
  have HO5 := Lib.hid ho5
  have HRM5 : Hid (BkRoom 1 o5) := by show BkRoom _ _; rw [ho5]; exact HRM4.out.note (by simp)
  have hbd2 : Hid (BkRun A o o5 w v2 B N) := by show BkRun _ _ _ _ _ _ _; rw [ho5]; exact hbc2.out.note k2 f2 b2
  clear ho5
  have hSd2 := hSc2.frm f2 (by unfold NT; decide)
  have hRd2 := hRc2.frm f2 (by unfold NT; decide)
  have lV2 := b2.size
  refine hK.out _ _ ⟨blk_mid (A := a ++ W) (v := E) (C := (I ++ (F ++ (z32 ++ z32)))) hSd2 (by simp) (by rw [List.length_append, HA.out, LW.out]), hHeld.2.frm f2 (by unfold NT; decide)⟩ (fun hHeld2 => ?_)
  clear hK K hHeld b2 k2 f2 hSc2 hRc2 hbc2
  refine wpAnyH_ready (rs := [8]) (by kernel_rfl) (by simp) ?_
  refine AllReadyH.cons rfl (fun K hK => ?_) AllReadyH.nil
  go_simp
  refine hK.out _ _ hHeld2 (fun hHeld3 => ?_)
  clear hK K hHeld2
  refine wpAnyH_ready (rs := [9]) (by kernel_rfl) (by simp) ?_
  refine AllReadyH.cons rfl (fun K hK => ?_) AllReadyH.nil
  rw [if_pos (by rfl)]
  refine wp_storeMid 23 (.tmp 41) (.tmp 40) rfl (w.heap.size + 1 + 1) 160 P (by rfl) (by rfl) _ _ (a ++ (W ++ (E ++ (I ++ F)))) z32 z32 hSd2 (by simp) (by simp only [List.length_append, HA.out, LW.out, LE.out, LI.out, LF.out]) (by rw [LP.out]; rfl) (by rw [LP.out]; exact Try.sizeHash) ?_
  intro t2 hT2 gt2
  have hRt2 := hRd2.grown gt2 (by simp)
  have hbt2 := Lib.hid (hbd2.out.store gt2 (by omega) HSN.out)
  refine hK.out _ _ ⟨blk_mid (A := a ++ W) (v := E) (C := (I ++ (F ++ (P ++ z32)))) hT2 (by simp) (by rw [List.length_append, HA.out, LW.out]), hHeld3.2.grown gt2 (by simp; omega)⟩ (fun hHeld4 => ?_)
  clear hK K hHeld3 hHeld4 hSd2 hRd2 hbd2 gt2
  refine wpAnyH_done (by kernel_rfl) ?_ _
  go_wp2_with fail
  rw [rounds_succ]
  have hN3 := Blk.new t2 #[Value.pointer none, Value.string ⟨#[]⟩] 129
  have hSa3 := hT2.alloc (.cells #[Value.pointer none, Value.string ⟨#[]⟩] 129)
  have hRa3 := hRt2.alloc (.cells #[Value.pointer none, Value.string ⟨#[]⟩] 129)
  have lS3 := hT2.lt
  have hix : ∀ x, (Instr.index 130 (.agg #[.pointer (some ⟨w.heap.size + 1 + 1, 96, none⟩), .string ⟨#[105, 110, 105, 116]⟩, .pointer (some ⟨w.heap.size + 1 + 1, 128, none⟩), .string ⟨#[99, 111, 110, 102, 105, 114, 109]⟩, .pointer (some ⟨w.heap.size + 1 + 1, 160, none⟩), .string ⟨#[97, 112, 112, 115]⟩, .pointer (some ⟨w.heap.size + 1 + 1, 192, none⟩), .string ⟨#[101, 120, 112, 111, 114, 116]⟩]) (.int .i64 3)).run Try.prog x = .ok (.agg #[.pointer (some ⟨w.heap.size + 1 + 1, 192, none⟩), .string (str lExport)]) x := four_index3 _ _ _ _
  go_wp2_with ((with_reducible show wpList _ _ _ (⟨none, Op.store _ (.tmp 9) _, _, _, _, _⟩ :: _) _ _); refine wpList_storeBlk rfl 129 (.tmp 9) (.tmp 32) rfl t2.heap.size #[.pointer (some ⟨w.heap.size + 1 + 1, 192, none⟩), .string (str lExport)] (by rfl) (by rfl) _ _ hN3 Try.sizeT129 rfl (by first | rfl | simp [Value.oneCell'] | kernel_rfl) ?_; intro u3 hX3 g3; have hSb3 := hSa3.grown g3 (by simp; omega); have hRb3 := hRa3.grown g3 (by simp; omega); have hbb3 := Lib.hid (hbt2.out.below (below_new ((Below.refl t2.heap.size t2).alloc (Nat.le_refl _) _) g3 (Nat.le_refl _) (by simp))))
  clear hix hN3 hSa3 hRa3 g3 hT2 hRt2 hbt2
  refine wp_region_held_drew (S := fun x => x.rangeAt (w.heap.size + 1 + 1) 64 (E.map bv) ∧ Blk x t2.heap.size #[.pointer (some ⟨w.heap.size + 1 + 1, 192, none⟩), .string (str lExport)] 129) (by kernel_rfl) ⟨blk_mid (A := a ++ W) (v := E) (C := (I ++ (F ++ (P ++ z32)))) hSb3.drew (by simp) (by rw [List.length_append, HA.out, LW.out]), hX3.drew⟩ (fun hHeld => ?_)
  have lX3 := hX3.lt
  clear hX3
  have hSc3 := hSb3.drew
  have hRc3 := hRb3.drew
  have hbc3 := Lib.hid (hbb3.out.drew)
  clear hSb3 hRb3 hbb3
  refine wpAnyH_take (i := 0) (v := .pointer (some ⟨t2.heap.size, 0, none⟩)) rfl (by kernel_rfl) (by kernel_rfl) (by kernel_rfl) (fun _ _ _ h => h) (Or.inl ⟨by rfl, fun x hx => by go_simp⟩) hHeld ?_
  simp only [Act.put, List.setIfInBounds_toArray, List.set_cons_zero, List.set_cons_succ]
  refine wpAnyH_take (i := 1) (v := .pointer (some ⟨w.heap.size + 1 + 1, 192, none⟩)) rfl (by kernel_rfl) (by kernel_rfl) (by kernel_rfl) (fun _ _ _ h => h) (Or.inl ⟨by rfl, fun x hx => by have hc := hx.2.cell 0 _ rfl; go_simp⟩) hHeld ?_
  simp only [Act.put, List.setIfInBounds_toArray, List.set_cons_zero, List.set_cons_succ]
  refine wpAnyH_take (i := 2) (v := pv) rfl (by kernel_rfl) (by kernel_rfl) (by kernel_rfl) (fun _ _ _ h => h) (Or.inl ⟨by rfl, fun x hx => by go_simp⟩) hHeld ?_
  simp only [Act.put, List.setIfInBounds_toArray, List.set_cons_zero, List.set_cons_succ]
  refine wpAnyH_take (i := 3) (v := .pointer (some ⟨w.heap.size + 1 + 1, 64, none⟩)) rfl (by kernel_rfl) (by kernel_rfl) (by kernel_rfl) (fun _ _ _ h => h) (Or.inl ⟨by rfl, fun x hx => by go_simp⟩) hHeld ?_
  simp only [Act.put, List.setIfInBounds_toArray, List.set_cons_zero, List.set_cons_succ]
  refine wpAnyH_take (i := 4) rfl (by kernel_rfl) (by kernel_rfl) (by kernel_rfl) (fun _ _ _ h => h) (yieldsIf_load_mid (by rfl) 23 (.tmp 36) rfl (w.heap.size + 1 + 1) 64 (by rfl) (E.map bv) _ (fun x hx => hx.1) Try.underlying23 rfl (by rw [List.length_map, LE.out]; exact Try.sizeHash)) hHeld ?_
  simp only [Act.put, List.setIfInBounds_toArray, List.set_cons_zero, List.set_cons_succ]
  refine wpAnyH_take (i := 5) (v := .pointer (some ⟨t2.heap.size, 1, none⟩)) rfl (by kernel_rfl) (by kernel_rfl) (by kernel_rfl) (fun _ _ _ h => h) (Or.inl ⟨by rfl, fun x hx => by go_simp⟩) hHeld ?_
  simp only [Act.put, List.setIfInBounds_toArray, List.set_cons_zero, List.set_cons_succ]
  refine wpAnyH_take (i := 6) (v := .string (str lExport)) rfl (by kernel_rfl) (by kernel_rfl) (by kernel_rfl) (fun _ _ _ h => h) (Or.inl ⟨by rfl, fun x hx => by have hc := hx.2.cell 1 _ rfl; go_simp⟩) hHeld ?_
  simp only [Act.put, List.setIfInBounds_toArray, List.set_cons_zero, List.set_cons_succ]
  refine wpAnyH_ready (rs := [7]) (by kernel_rfl) (by simp) ?_
  refine AllReadyH.cons rfl (fun K hK => ?_) AllReadyH.nil
  go_simp
  go_wp2_with (go_at_call 66; refine (PDeriveO_calls E lExport [] B _ pv (hbc3.out.pv HPV.out) _ hbc3.out.at_ (HRM5.out.less (by omega)) hbc3.out.le hbc3.out.aw LE.out (by decide) (by simp)).mono ?_; rintro e v3 ⟨rfl, k3, f3, b3⟩)
  obtain ⟨X, hV⟩ : ∃ y, y = derive E lExport [] := ⟨_, rfl⟩
  have LX : Hid (X.length = 32) := by show _ = _; rw [hV]; exact hmac_len _ _
  have HX := Lib.hid hV
  rw [← hV] at k3 ⊢
  clear hV
  obtain ⟨o6, ho6⟩ : ∃ x, x = bkNote o5 ⟨[E], [X]⟩ := ⟨_, rfl⟩
  have HO6 := Lib.hid ho6
  have HRM6 : Hid (BkRoom 0 o6) := by show BkRoom _ _; rw [ho6]; exact HRM5.out.note (by simp)
  have hbd3 : Hid (BkRun A o o6 w v3 B N) := by show BkRun _ _ _ _ _ _ _; rw [ho6]; exact hbc3.out.note k3 f3 b3
  clear ho6
  have hSd3 := hSc3.frm f3 (by unfold NT; decide)
  have hRd3 := hRc3.frm f3 (by unfold NT; decide)
  have lV3 := b3.size
  refine hK.out _ _ ⟨blk_mid (A := a ++ W) (v := E) (C := (I ++ (F ++ (P ++ z32)))) hSd3 (by simp) (by rw [List.length_append, HA.out, LW.out]), hHeld.2.frm f3 (by unfold NT; decide)⟩ (fun hHeld2 => ?_)
  clear hK K hHeld b3 k3 f3 hSc3 hRc3 hbc3
  refine wpAnyH_ready (rs := [8]) (by kernel_rfl) (by simp) ?_
  refine AllReadyH.cons rfl (fun K hK => ?_) AllReadyH.nil
  go_simp
  refine hK.out _ _ hHeld2 (fun hHeld3 => ?_)
  clear hK K hHeld2
  refine wpAnyH_ready (rs := [9]) (by kernel_rfl) (by simp) ?_
  refine AllReadyH.cons rfl (fun K hK => ?_) AllReadyH.nil
  rw [if_pos (by rfl)]
  refine wp_storeMid 23 (.tmp 41) (.tmp 40) rfl (w.heap.size + 1 + 1) 192 X (by rfl) (by rfl) _ _ (a ++ (W ++ (E ++ (I ++ (F ++ P))))) z32 [] hSd3 (by simp) (by simp only [List.length_append, HA.out, LW.out, LE.out, LI.out, LF.out, LP.out]) (by rw [LX.out]; rfl) (by rw [LX.out]; exact Try.sizeHash) ?_
  intro t3 hT3 gt3
  have hRt3 := hRd3.grown gt3 (by simp)
  have hbt3 := Lib.hid (hbd3.out.store gt3 (by omega) HSN.out)
  refine hK.out _ _ ⟨blk_mid (A := a ++ W) (v := E) (C := (I ++ (F ++ (P ++ X)))) hT3 (by simp) (by rw [List.length_append, HA.out, LW.out]), hHeld3.2.grown gt3 (by simp; omega)⟩ (fun hHeld4 => ?_)
  clear hK K hHeld3 hHeld4 hSd3 hRd3 hbd3 gt3
  refine wpAnyH_done (by kernel_rfl) ?_ _
  go_wp2_with fail
  rw [rounds_succ]
  have hfin : a ++ (W ++ (E ++ (I ++ (F ++ P)))) ++ (X ++ []) = secsT a c := by
    rw [HX.out, HP.out, HF.out, HI.out, HW.out, HE.out]
    simp only [secsT, s7, epochT, List.append_nil, List.append_assoc]
  have hlen : (secsT a c).length = 224 := by rw [← hfin]; simp only [List.length_append, HA.out, LW.out, LE.out, LI.out, LF.out, LP.out, LX.out, List.length_nil]
  rw [hfin] at hT3
  obtain ⟨Y, hY⟩ : ∃ y, y = secsT a c := ⟨_, rfl⟩
  have LY : Hid (Y.length = 224) := by show _ = _; rw [hY]; exact hlen
  have HY := Lib.hid hY
  rw [← hY] at hT3
  clear hfin hlen hY
  have lT := hT3.lt
  go_wp2_with (first | ((with_reducible show wpList _ _ _ (⟨some 43, _, _, _, _, _⟩ :: _) _ _); refine wpList_loadBlk rfl 31 (.tmp 7) rfl (w.heap.size + 1 + 1) (by rfl) _ _ _ hT3 Try.underlying31 rfl (by rw [bv_size, LY.out]; exact Try.sizeSecs) ?_) | ((with_reducible show wpList _ _ _ (⟨none, Op.store _ (.tmp 6) _, _, _, _, _⟩ :: _) _ _); refine wpList_storeBlk rfl 31 (.tmp 6) (.tmp 43) rfl (w.heap.size + 1) (Y.map bv).toArray (by rfl) (by rfl) _ _ hRt3 (by rw [bv_size, LY.out]; exact Try.sizeSecs) (by rw [bv_size, LY.out, hz224]) (bv_all _) ?_; intro w9 hB9 g9; have h9 := hbt3.out.store g9 (by omega) (Nat.lt_of_succ_lt HSN.out)))
  refine ret_blk rfl (w.heap.size + 1) _ _ _ (by rfl) hB9 Try.underlying31 rfl (by rw [bv_size, LY.out]; exact Try.sizeSecs) rfl ?_
  have hno : o6 = makeNotes o a c := by
    rw [HO6.out, HO5.out, HO4.out, HO3.out, HO2.out, HO1.out, HX.out, HP.out, HF.out, HI.out, HW.out, HE.out]
    rfl
  have h10 := h9.done
  rw [hno] at h10
  rw [← HY.out]
  exact ⟨rfl, h10⟩
end Go.Proofs.Ytnfegmcdljejnaa
set_option linter.unusedSimpArgs false
set_option linter.unusedVariables false
namespace Go.Proofs.Ytnfegmcdljejnaa
open Go.RowKit

set_option maxHeartbeats 8000000 in
set_option maxRecDepth 100000 in
theorem AppO_calls {A : Nat → Prop} (a : List UInt8) (n : Int) (B : Nat) (o : Option BkSt) (pv : Value) (hpv : pv = bkPtr o) (w : World) (ho : BkAt A w B o) (hr : BkRoom 1 o) (hB : B ≤ w.heap.size) (hAw : ∀ q, A q → q < w.heap.size) (ha : a.length = 32) (h0 : 0 ≤ n) (h1 : n < 64) :
    Calls Try.prog 32 #[pv, .agg (a.map bv).toArray, .int .i64 n] w fun e w' => e = .returned (.agg ((appT a n.toNat).map bv).toArray) ∧ BkAt A w' B (bkNote o ⟨[a], [appT a n.toNat]⟩) ∧ BkFrm A o w w' ∧ Below B w w' := by
  have HO := Lib.hid ho
  have HRM := Lib.hid hr
  have HAW := Lib.hid hAw
  have HPV := Lib.hid hpv
  clear ho hr hAw hpv
  have HA := Lib.hid ha
  clear ha
  have hA0 : Blk ((w.alloc (.cells (a.map bv).toArray 23)).alloc (.cells Z32 23)) w.heap.size (a.map bv).toArray 23 := (Blk.new _ _ _).alloc _
  have hR0 : Blk ((w.alloc (.cells (a.map bv).toArray 23)).alloc (.cells Z32 23)) (w.heap.size + 1) Z32 23 := blk_new1 _ _ _ _
  have hb0 : Below w.heap.size w ((w.alloc (.cells (a.map bv).toArray 23)).alloc (.cells Z32 23)) := ((Below.refl _ _).alloc (Nat.le_refl _) _).alloc (by simp) _
  go_enter Try.func32, Try.ntmps32
  go_wp2_with fail
  generalize (w.alloc (.cells (a.map bv).toArray 23)).alloc (.cells Z32 23) = W0 at hA0 hR0 hb0 ⊢
  have lA := hA0.lt
  have lR := hR0.lt
  refine (New_calls _).mono ?_
  rintro e w1 ⟨rfl, k1, b1⟩
  have hA1 := hA0.below b1 lA
  have hR1 := hR0.below b1 lR
  clear hA0 hR0
  go_wp2_with fail
  refine (num_calls W0.heap.size _ _ _ n _ k1 b1.size (by simp) h0 (by omega)).mono ?_
  rintro e w2 ⟨rfl, k2, b2⟩
  have hA2 := hA1.below b2.below lA
  have hR2 := hR1.below b2.below lR
  have bb2 := b1.trans b2.below
  clear hA1 hR1 k1
  go_wp2_with fail
  refine (endOk_calls W0.heap.size _ _ _ k2).mono ?_
  rintro e w3 ⟨rfl, rfl⟩
  rw [List.nil_append]
  have hn8 := numB_len n.toNat
  go_wp2_with ((with_reducible show wpList _ _ _ (⟨some 27, _, _, _, _, _⟩ :: _) _ _); refine wpList_loadBlk rfl 23 (.tmp 4) rfl w.heap.size (by rfl) _ _ _ hA2 Try.underlying23 rfl (by rw [bv_size, HA.out]; exact Try.sizeHash) ?_)
  have hbW := hb0.trans (bb2.mono hb0.size)
  have HRU := Lib.hid (BkRun.start hbW HO.out hB HAW.out)
  have lR2 := hR2.lt
  refine (PDeriveO_calls a [97, 112, 112] (numB n.toNat) B o pv HPV.out _ HRU.out.at_ HRM.out HRU.out.le HRU.out.aw HA.out (by simp) (by omega)).mono ?_
  rintro e w4 ⟨rfl, k4, f4, b4⟩
  have hR4 := hR2.frm f4 (by unfold NT; decide)
  have HR5 := Lib.hid (HRU.out.note k4 f4 b4)
  clear k4 f4 b4 hR2 hA2
  rw [show derive a [97, 112, 112] (numB n.toNat) = appT a n.toNat from rfl] at HR5 ⊢
  have h32 : Hid ((appT a n.toNat).length = 32) := appT_len _ _
  go_wp2_with ((with_reducible show wpList _ _ _ (⟨none, Op.store _ (.tmp 6) _, _, _, _, _⟩ :: _) _ _); refine wpList_storeBlk rfl 23 (.tmp 6) (.tmp 29) rfl (w.heap.size + 1) ((appT a n.toNat).map bv).toArray (by rfl) (by rfl) _ _ hR4 (by rw [bv_size, h32.out]; exact Try.sizeHash) (by rw [bv_size, h32.out, Z32_size]) (bv_all _) ?_; intro w9 hB9 g9; have h9 := (HR5.out.store g9 (by omega) lR2).done)
  refine ret_blk rfl (w.heap.size + 1) _ _ _ (by rfl) hB9 Try.underlying23 rfl (by rw [bv_size, h32.out]; exact Try.sizeHash) rfl ?_
  exact ⟨rfl, h9⟩
set_option maxHeartbeats 4000000 in
set_option maxRecDepth 100000 in
theorem AppBadO_calls (pv : Value) (a : List UInt8) (n : Int) (w : World) (ha : a.length = 32) (hn : n < 0 ∨ 64 ≤ n) :
    Calls Try.prog 32 #[pv, .agg (a.map bv).toArray, .int .i64 n] w fun e w' => e = .returned (.agg ((List.replicate 32 (0 : UInt8)).map bv).toArray) ∧ Below w.heap.size w w' := by
  have HA := Lib.hid ha
  clear ha
  have hR0 : Blk ((w.alloc (.cells (a.map bv).toArray 23)).alloc (.cells Z32 23)) (w.heap.size + 1) Z32 23 := blk_new1 _ _ _ _
  have hb0 : Below w.heap.size w ((w.alloc (.cells (a.map bv).toArray 23)).alloc (.cells Z32 23)) := ((Below.refl _ _).alloc (Nat.le_refl _) _).alloc (by simp) _
  rcases hn with hn | hn
  all_goals
    go_enter Try.func32, Try.ntmps32
    go_wp2_with ((with_reducible show wpList _ _ _ (⟨none, Op.store _ (.tmp 6) _, _, _, _, _⟩ :: _) _ _); refine wpList_storeBlk rfl 23 (.tmp 6) (.tmp 16) rfl (w.heap.size + 1) Z32 (by rfl) (by rfl) _ _ hR0 (by rw [Z32_size]; exact Try.sizeHash) (by rw [Z32_size]) Z32_all ?_; intro w9 hB9 g9; have h9 := hb0.trans (grown_below g9 (by omega) hb0.size))
    refine ret_blk rfl (w.heap.size + 1) _ _ _ (by rfl) hB9 Try.underlying23 rfl (by rw [Z32_size]; exact Try.sizeHash) rfl ?_
    exact ⟨rfl, h9⟩
end Go.Proofs.Ytnfegmcdljejnaa
