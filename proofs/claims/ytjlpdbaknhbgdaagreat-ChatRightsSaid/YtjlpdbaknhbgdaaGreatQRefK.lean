/-
  Where the seven secrets lie. bevyref11.Make: an epoch's secrets, by the document. bevyref11.App.
-/
import Derived.Test.YtjlpdbaknhbgdaaGreatQKeys
import Derived.Test.YtjlpdbaknhbgdaaGreatTreeRight
import Derived.Test.YtjlpdbaknhbgdaaGreatQRef
import Derived.Test.YtjlpdbaknhbgdaaGreatQWire
import Derived.WalkLawsBesides
import Derived.Outline
import Derived.Handy
set_option linter.unusedSimpArgs false
set_option linter.unusedVariables false
namespace Go.Proofs.YtjlpdbaknhbgdaaGreat
open Go.RowKit

theorem s7_at {w : World} {g o : Nat} {a b c d e f x : List UInt8} (ha : a.length = 32) (hb : b.length = 32) (hc : c.length = 32) (hd : d.length = 32) (he : e.length = 32) (hf : f.length = 32) (h : w.rangeAt g o ((s7 a b c d e f x).map bv)) :
    w.rangeAt g (o + 64) (c.map bv) ∧ w.rangeAt g (o + 96) (d.map bv) ∧ w.rangeAt g (o + 160) (f.map bv) ∧ w.rangeAt g (o + 192) (x.map bv) := by
  simp only [s7, List.map_append] at h
  refine ⟨?_, ?_, ?_, ?_⟩
  · exact range_mid (A := a.map bv ++ b.map bv) (C := d.map bv ++ (e.map bv ++ (f.map bv ++ x.map bv))) (by simpa using h) (by simp [ha, hb])
  · exact range_mid (A := a.map bv ++ b.map bv ++ c.map bv) (C := e.map bv ++ (f.map bv ++ x.map bv)) (by simpa using h) (by simp [ha, hb, hc])
  · exact range_mid (A := a.map bv ++ b.map bv ++ c.map bv ++ d.map bv ++ e.map bv) (C := x.map bv) (by simpa using h) (by simp [ha, hb, hc, hd, he])
  · exact range_mid (A := a.map bv ++ b.map bv ++ c.map bv ++ d.map bv ++ e.map bv ++ f.map bv) (C := []) (by simpa using h) (by simp [ha, hb, hc, hd, he, hf])
theorem wrap_succ (i : Nat) (h : i < 64) : wrap64 ((i : Int) + 1) = ((i + 1 : Nat) : Int) := by unfold wrap64; omega
theorem meas64 (n i : Nat) (x : Int) (hx : x = ((i + 1 : Nat) : Int)) (h : i < n) : n - (intOf (.int .i64 x)).toNat < n - (intOf (.int .i64 (i : Int))).toNat := by
  subst hx
  simp [intOf]
  omega
end Go.Proofs.YtjlpdbaknhbgdaaGreat
set_option linter.unusedSimpArgs false
set_option linter.unusedVariables false
namespace Go.Proofs.YtjlpdbaknhbgdaaGreat
open Go.RowKit

theorem Tryz.zeroRefSecs : Tryz.zeroCells133 = ((s7 z32 z32 z32 z32 z32 z32 z32).map bv).toArray := by kernel_rfl
theorem Tryz.infoRefSecs : (Tryz.prog.info? 133).bind (·.zero) = some (.agg Tryz.zeroCells133) := by kernel_rfl
theorem Tryz.sizeRefSecs : (Tryz.prog.info? 133).map (·.size) = some 224 := by kernel_rfl
theorem built_secs (a W E I F P X : List UInt8) (ha : a.length = 32) (hW : W.length = 32) (hE : E.length = 32) (hI : I.length = 32) (hF : F.length = 32) (hP : P.length = 32) (hX : X.length = 32) :
    Tryz.prog.built 133 [(0, .agg (a.map bv).toArray), (1, .agg (W.map bv).toArray), (2, .agg (E.map bv).toArray), (3, .agg (I.map bv).toArray), (4, .agg (F.map bv).toArray), (5, .agg (P.map bv).toArray), (6, .agg (X.map bv).toArray)] = some ((s7 a W E I F P X).map bv).toArray := by
  have hz : z32.length = 32 := rfl
  rw [built_struct Tryz.infoRefSecs Tryz.underlying133 (places := [(0, 32), (32, 32), (64, 32), (96, 32), (128, 32), (160, 32), (192, 32)]) (by kernel_rfl), Value.cells, Tryz.zeroRefSecs]
  rw [fill_mid (A := []) (B := z32) (C := z32 ++ (z32 ++ (z32 ++ (z32 ++ (z32 ++ z32))))) (v := a) (by rfl) (by rw [ha]; rfl) (by rw [ha]; rfl)]
  rw [fill_mid (A := a) (B := z32) (C := z32 ++ (z32 ++ (z32 ++ (z32 ++ z32)))) (v := W) (by simp) (by rw [ha, hW]; rfl) (by rw [hW]; rfl)]
  rw [fill_mid (A := a ++ W) (B := z32) (C := z32 ++ (z32 ++ (z32 ++ z32))) (v := E) (by simp) (by simp only [List.length_append, ha, hW, hE]; rfl) (by rw [hE]; rfl)]
  rw [fill_mid (A := a ++ (W ++ E)) (B := z32) (C := z32 ++ (z32 ++ z32)) (v := I) (by simp) (by simp only [List.length_append, ha, hW, hE, hI]; rfl) (by rw [hI]; rfl)]
  rw [fill_mid (A := a ++ (W ++ (E ++ I))) (B := z32) (C := z32 ++ z32) (v := F) (by simp) (by simp only [List.length_append, ha, hW, hE, hI, hF]; rfl) (by rw [hF]; rfl)]
  rw [fill_mid (A := a ++ (W ++ (E ++ (I ++ F)))) (B := z32) (C := z32) (v := P) (by simp) (by simp only [List.length_append, ha, hW, hE, hI, hF, hP]; rfl) (by rw [hP]; rfl)]
  rw [fill_mid (A := a ++ (W ++ (E ++ (I ++ (F ++ P))))) (B := z32) (C := []) (v := X) (by simp) (by simp only [List.length_append, ha, hW, hE, hI, hF, hP, hX]; rfl) (by rw [hX]; rfl)]
  simp [Instr.fill, s7]

set_option maxHeartbeats 4000000 in
set_option maxRecDepth 100000 in
theorem RefMake_calls (a c : List UInt8) (w : World) (ha : a.length = 32) (hc : c.length ≤ 68719476736) :
    Calls Tryz.prog 55 #[.agg (a.map bv).toArray, .string (str c)] w fun e w' => e = .returned (.agg ((secsT a c).map bv).toArray) ∧ Below w.heap.size w w' := by
  have HA := Lib.hid ha
  have HC := Lib.hid hc
  clear ha hc
  have hA0 : Blk ((w.alloc (.cells (a.map bv).toArray 22)).alloc (.cells Tryz.zeroCells133 133)) w.heap.size (a.map bv).toArray 22 := (Blk.new _ _ _).alloc _
  have hR0 : Blk ((w.alloc (.cells (a.map bv).toArray 22)).alloc (.cells Tryz.zeroCells133 133)) (w.heap.size + 1) Tryz.zeroCells133 133 := blk_new1 _ _ _ _
  have hb0 : Below w.heap.size w ((w.alloc (.cells (a.map bv).toArray 22)).alloc (.cells Tryz.zeroCells133 133)) := ((Below.refl _ _).alloc (Nat.le_refl _) _).alloc (by simp) _
  have hz224 : Tryz.zeroCells133.size = 224 := by rw [Tryz.zeroRefSecs]; simp [s7, z32]
  go_enter Tryz.func55, Tryz.ntmps55
  go_wp2_with ((with_reducible show wpList _ _ _ (⟨some 6, _, _, _, _, _⟩ :: _) _ _); refine wpList_loadBlk rfl 22 (.tmp 2) rfl w.heap.size (by rfl) _ _ _ hA0 Tryz.underlying22 rfl (by rw [bv_size, HA.out]; exact Tryz.sizeA32) ?_)
  generalize (w.alloc (.cells (a.map bv).toArray 22)).alloc (.cells Tryz.zeroCells133 133) = W0 at hA0 hR0 hb0 ⊢
  refine (RefDerive_calls a lEpoch c _ HA.out (by decide) HC.out).mono ?_
  rintro e w1 ⟨rfl, b1⟩
  obtain ⟨E, hE⟩ : ∃ y, y = derive a lEpoch c := ⟨_, rfl⟩
  have LE : Hid (E.length = 32) := by show _ = _; rw [hE]; exact hmac_len _ _
  have HE := Lib.hid hE
  rw [← hE]
  have hA1 := hA0.below b1 hA0.lt
  have hR1 := hR0.below b1 hR0.lt
  have hb1 := hb0.trans (b1.mono hb0.size)
  clear hE hA0 hR0 hb0 b1
  have lR := hR1.lt
  have hN := Blk.new w1 Z32 22
  have hA2 := hA1.alloc (.cells Z32 22)
  have hR2 := hR1.alloc (.cells Z32 22)
  have hb2 := hb1.alloc hb1.size (.cells Z32 22)
  clear hA1 hR1 hb1
  go_wp2_with ((with_reducible show wpList _ _ _ (⟨none, Op.store _ (.tmp 5) _, _, _, _, _⟩ :: _) _ _); refine wpList_storeBlk rfl 22 (.tmp 5) (.tmp 8) rfl w1.heap.size (E.map bv).toArray (by rfl) (by rfl) _ _ hN (by rw [bv_size, LE.out]; exact Tryz.sizeA32) (by rw [bv_size, LE.out, Z32_size]) (bv_all _) ?_; intro w2 hE2 g2; have hA3 := hA2.grown g2 (by simp; omega); have hR3 := hR2.grown g2 (by simp; omega); have hb3 := below_new hb2 g2 (by omega) (by simp; omega))
  clear hN hA2 hR2 hb2 g2
  have lE := hE2.lt
  refine wp_region_held_drew (S := fun x => Blk x w.heap.size (a.map bv).toArray 22 ∧ Blk x w1.heap.size (E.map bv).toArray 22) (by kernel_rfl) ⟨hA3.drew, hE2.drew⟩ (fun hHeld => ?_)
  have hRc := hR3.drew
  have hbc := below_drewN hb3 1
  clear hA3 hE2 hR3 hb3
  refine wpAnyH_take (i := 0) rfl (by kernel_rfl) (by kernel_rfl) (by kernel_rfl) (fun _ _ _ h => h) (yieldsIf_load_mid (by rfl) 22 (.tmp 2) rfl w.heap.size 0 (by rfl) (a.map bv) _ (fun x hx => blk_range hx.1) Tryz.underlying22 rfl (by rw [List.length_map, HA.out]; exact Tryz.sizeA32)) hHeld ?_
  simp only [Act.put, List.setIfInBounds_toArray, List.set_cons_zero, List.set_cons_succ]
  refine wpAnyH_take (i := 1) rfl (by kernel_rfl) (by kernel_rfl) (by kernel_rfl) (fun _ _ _ h => h) (yieldsIf_load_mid (by rfl) 22 (.tmp 2) rfl w.heap.size 0 (by rfl) (a.map bv) _ (fun x hx => blk_range hx.1) Tryz.underlying22 rfl (by rw [List.length_map, HA.out]; exact Tryz.sizeA32)) hHeld ?_
  simp only [Act.put, List.setIfInBounds_toArray, List.set_cons_zero, List.set_cons_succ]
  refine wpAnyH_take (i := 3) rfl (by kernel_rfl) (by kernel_rfl) (by kernel_rfl) (fun _ _ _ h => h) (yieldsIf_load_mid (by rfl) 22 (.tmp 5) rfl w1.heap.size 0 (by rfl) (E.map bv) _ (fun x hx => blk_range hx.2) Tryz.underlying22 rfl (by rw [List.length_map, LE.out]; exact Tryz.sizeA32)) hHeld ?_
  simp only [Act.put, List.setIfInBounds_toArray, List.set_cons_zero, List.set_cons_succ]
  refine wpAnyH_take (i := 4) rfl (by kernel_rfl) (by kernel_rfl) (by kernel_rfl) (fun _ _ _ h => h) (yieldsIf_load_mid (by rfl) 22 (.tmp 5) rfl w1.heap.size 0 (by rfl) (E.map bv) _ (fun x hx => blk_range hx.2) Tryz.underlying22 rfl (by rw [List.length_map, LE.out]; exact Tryz.sizeA32)) hHeld ?_
  simp only [Act.put, List.setIfInBounds_toArray, List.set_cons_zero, List.set_cons_succ]
  refine wpAnyH_take (i := 6) rfl (by kernel_rfl) (by kernel_rfl) (by kernel_rfl) (fun _ _ _ h => h) (yieldsIf_load_mid (by rfl) 22 (.tmp 5) rfl w1.heap.size 0 (by rfl) (E.map bv) _ (fun x hx => blk_range hx.2) Tryz.underlying22 rfl (by rw [List.length_map, LE.out]; exact Tryz.sizeA32)) hHeld ?_
  simp only [Act.put, List.setIfInBounds_toArray, List.set_cons_zero, List.set_cons_succ]
  refine wpAnyH_take (i := 8) rfl (by kernel_rfl) (by kernel_rfl) (by kernel_rfl) (fun _ _ _ h => h) (yieldsIf_load_mid (by rfl) 22 (.tmp 5) rfl w1.heap.size 0 (by rfl) (E.map bv) _ (fun x hx => blk_range hx.2) Tryz.underlying22 rfl (by rw [List.length_map, LE.out]; exact Tryz.sizeA32)) hHeld ?_
  simp only [Act.put, List.setIfInBounds_toArray, List.set_cons_zero, List.set_cons_succ]
  refine wpAnyH_take (i := 10) rfl (by kernel_rfl) (by kernel_rfl) (by kernel_rfl) (fun _ _ _ h => h) (yieldsIf_load_mid (by rfl) 22 (.tmp 5) rfl w1.heap.size 0 (by rfl) (E.map bv) _ (fun x hx => blk_range hx.2) Tryz.underlying22 rfl (by rw [List.length_map, LE.out]; exact Tryz.sizeA32)) hHeld ?_
  simp only [Act.put, List.setIfInBounds_toArray, List.set_cons_zero, List.set_cons_succ]
  refine wpAnyH_ready (rs := [2]) (by kernel_rfl) (by simp) ?_
  refine AllReadyH.cons rfl (fun K hK => ?_) AllReadyH.nil
  go_simp
  go_wp2_with (go_at_call 100; refine (RefDerive_calls a lWelcome [] _ HA.out (by decide) (by simp)).mono ?_; rintro e v0 ⟨rfl, b0⟩)
  obtain ⟨W, hV⟩ : ∃ y, y = derive a lWelcome [] := ⟨_, rfl⟩
  have LW : Hid (W.length = 32) := by show _ = _; rw [hV]; exact hmac_len _ _
  have HW := Lib.hid hV
  rw [← hV]
  clear hV
  have hRd0 := hRc.below b0 hRc.lt
  have hbd0 := hbc.trans (b0.mono hbc.size)
  clear hRc hbc
  have hRc := hRd0
  have hbc := hbd0
  clear hRd0 hbd0
  refine hK.out _ _ ⟨hHeld.1.below b0 hHeld.1.lt, hHeld.2.below b0 hHeld.2.lt⟩ (fun hHeld0 => ?_)
  clear hK K hHeld b0
  refine wpAnyH_ready (rs := [5]) (by kernel_rfl) (by simp) ?_
  refine AllReadyH.cons rfl (fun K hK => ?_) AllReadyH.nil
  go_simp
  go_wp2_with (go_at_call 100; refine (RefDerive_calls E lInit [] _ LE.out (by decide) (by simp)).mono ?_; rintro e v1 ⟨rfl, b1⟩)
  obtain ⟨I, hV⟩ : ∃ y, y = derive E lInit [] := ⟨_, rfl⟩
  have LI : Hid (I.length = 32) := by show _ = _; rw [hV]; exact hmac_len _ _
  have HI := Lib.hid hV
  rw [← hV]
  clear hV
  have hRd1 := hRc.below b1 hRc.lt
  have hbd1 := hbc.trans (b1.mono hbc.size)
  clear hRc hbc
  have hRc := hRd1
  have hbc := hbd1
  clear hRd1 hbd1
  refine hK.out _ _ ⟨hHeld0.1.below b1 hHeld0.1.lt, hHeld0.2.below b1 hHeld0.2.lt⟩ (fun hHeld1 => ?_)
  clear hK K hHeld0 b1
  refine wpAnyH_ready (rs := [7]) (by kernel_rfl) (by simp) ?_
  refine AllReadyH.cons rfl (fun K hK => ?_) AllReadyH.nil
  go_simp
  go_wp2_with (go_at_call 100; refine (RefDerive_calls E lConfirm [] _ LE.out (by decide) (by simp)).mono ?_; rintro e v2 ⟨rfl, b2⟩)
  obtain ⟨F, hV⟩ : ∃ y, y = derive E lConfirm [] := ⟨_, rfl⟩
  have LF : Hid (F.length = 32) := by show _ = _; rw [hV]; exact hmac_len _ _
  have HF := Lib.hid hV
  rw [← hV]
  clear hV
  have hRd2 := hRc.below b2 hRc.lt
  have hbd2 := hbc.trans (b2.mono hbc.size)
  clear hRc hbc
  have hRc := hRd2
  have hbc := hbd2
  clear hRd2 hbd2
  refine hK.out _ _ ⟨hHeld1.1.below b2 hHeld1.1.lt, hHeld1.2.below b2 hHeld1.2.lt⟩ (fun hHeld2 => ?_)
  clear hK K hHeld1 b2
  refine wpAnyH_ready (rs := [9]) (by kernel_rfl) (by simp) ?_
  refine AllReadyH.cons rfl (fun K hK => ?_) AllReadyH.nil
  go_simp
  go_wp2_with (go_at_call 100; refine (RefDerive_calls E lApps [] _ LE.out (by decide) (by simp)).mono ?_; rintro e v3 ⟨rfl, b3⟩)
  obtain ⟨P, hV⟩ : ∃ y, y = derive E lApps [] := ⟨_, rfl⟩
  have LP : Hid (P.length = 32) := by show _ = _; rw [hV]; exact hmac_len _ _
  have HP := Lib.hid hV
  rw [← hV]
  clear hV
  have hRd3 := hRc.below b3 hRc.lt
  have hbd3 := hbc.trans (b3.mono hbc.size)
  clear hRc hbc
  have hRc := hRd3
  have hbc := hbd3
  clear hRd3 hbd3
  refine hK.out _ _ ⟨hHeld2.1.below b3 hHeld2.1.lt, hHeld2.2.below b3 hHeld2.2.lt⟩ (fun hHeld3 => ?_)
  clear hK K hHeld2 b3
  refine wpAnyH_ready (rs := [11]) (by kernel_rfl) (by simp) ?_
  refine AllReadyH.cons rfl (fun K hK => ?_) AllReadyH.nil
  go_simp
  go_wp2_with (go_at_call 100; refine (RefDerive_calls E lExport [] _ LE.out (by decide) (by simp)).mono ?_; rintro e v4 ⟨rfl, b4⟩)
  obtain ⟨X, hV⟩ : ∃ y, y = derive E lExport [] := ⟨_, rfl⟩
  have LX : Hid (X.length = 32) := by show _ = _; rw [hV]; exact hmac_len _ _
  have HX := Lib.hid hV
  rw [← hV]
  clear hV
  have hRd4 := hRc.below b4 hRc.lt
  have hbd4 := hbc.trans (b4.mono hbc.size)
  clear hRc hbc
  have hRc := hRd4
  have hbc := hbd4
  clear hRd4 hbd4
  refine hK.out _ _ ⟨hHeld3.1.below b4 hHeld3.1.lt, hHeld3.2.below b4 hHeld3.2.lt⟩ (fun hHeld4 => ?_)
  clear hK K hHeld3 b4
  have hbu := built_secs a W E I F P X HA.out LW.out LE.out LI.out LF.out LP.out LX.out
  have hfin : s7 a W E I F P X = secsT a c := by
    rw [HX.out, HP.out, HF.out, HI.out, HW.out, HE.out]
    simp only [secsT, epochT]
  have hlen : (secsT a c).length = 224 := by rw [← hfin]; simp only [s7, List.length_append, HA.out, LW.out, LE.out, LI.out, LF.out, LP.out, LX.out]
  rw [hfin] at hbu
  obtain ⟨Y, hY⟩ : ∃ y, y = secsT a c := ⟨_, rfl⟩
  have LY : Hid (Y.length = 224) := by show _ = _; rw [hY]; exact hlen
  have HY := Lib.hid hY
  rw [← hY] at hbu
  clear hfin hlen hY
  refine wpAnyH_take (i := 12) rfl (by kernel_rfl) (by kernel_rfl) (by kernel_rfl) (fun _ _ _ h => h) (yieldsIf_build (by rfl) 133 #[(0, .tmp 9), (1, .tmp 11), (2, .tmp 12), (3, .tmp 14), (4, .tmp 16), (5, .tmp 18), (6, .tmp 20)] rfl (Y.map bv).toArray hbu) hHeld4 ?_
  simp only [Act.put, List.getElem_toArray, List.getElem_cons_zero, List.getElem_cons_succ, List.setIfInBounds_toArray, List.set_cons_zero, List.set_cons_succ]
  clear hbu
  have hHeldA := hHeld4
  clear hHeld4
  refine wpAnyH_ready (rs := [13]) (by kernel_rfl) (by simp) ?_
  refine AllReadyH.cons rfl (fun K hK => ?_) AllReadyH.nil
  rw [if_pos (by rfl)]
  refine wp_storeBlk 133 (.tmp 4) (.tmp 21) rfl (w.heap.size + 1) (Y.map bv).toArray (by rfl) (by rfl) _ _ hRc (by rw [bv_size, LY.out]; exact Tryz.sizeRefSecs) (by rw [bv_size, LY.out, hz224]) (bv_all _) ?_
  intro w9 hB9 g9
  have h9 := hbc.trans (grown_below g9 (by omega) hbc.size)
  refine hK.out _ _ ⟨hHeldA.1.grown g9 (by simp), hHeldA.2.grown g9 (by simp; omega)⟩ (fun hHeldB => ?_)
  clear hK K hHeldA
  refine wpAnyH_done (by kernel_rfl) ?_ _
  go_wp2_with fail
  refine ret_blk rfl (w.heap.size + 1) _ _ _ (by rfl) hB9 Tryz.underlying133 rfl (by rw [bv_size, LY.out]; exact Tryz.sizeRefSecs) rfl ?_
  rw [← HY.out]
  exact ⟨rfl, h9⟩
end Go.Proofs.YtjlpdbaknhbgdaaGreat
set_option linter.unusedSimpArgs false
set_option linter.unusedVariables false
namespace Go.Proofs.YtjlpdbaknhbgdaaGreat
open Go.RowKit

set_option maxHeartbeats 4000000 in
set_option maxRecDepth 100000 in
theorem RefApp_calls (a : List UInt8) (n : Int) (w : World) (ha : a.length = 32) (h0 : 0 ≤ n) (h1 : n ≤ 4611686018427387903) :
    Calls Tryz.prog 132 #[.agg (a.map bv).toArray, .int .i64 n] w fun e w' => e = .returned (.agg ((appT a n.toNat).map bv).toArray) ∧ Below w.heap.size w w' := by
  have HA := Lib.hid ha
  clear ha
  have hA0 : Blk ((w.alloc (.cells (a.map bv).toArray 22)).alloc (.cells Z32 22)) w.heap.size (a.map bv).toArray 22 := (Blk.new _ _ _).alloc _
  have hR0 : Blk ((w.alloc (.cells (a.map bv).toArray 22)).alloc (.cells Z32 22)) (w.heap.size + 1) Z32 22 := blk_new1 _ _ _ _
  have hb0 : Below w.heap.size w ((w.alloc (.cells (a.map bv).toArray 22)).alloc (.cells Z32 22)) := ((Below.refl _ _).alloc (Nat.le_refl _) _).alloc (by simp) _
  go_enter Tryz.func132, Tryz.ntmps132
  go_wp2_with fail
  generalize (w.alloc (.cells (a.map bv).toArray 22)).alloc (.cells Z32 22) = W0 at hA0 hR0 hb0 ⊢
  have HA0 := Lib.hid hA0
  have HR0 := Lib.hid hR0
  have Hb0 := Lib.hid hb0
  clear hA0 hR0 hb0
  have hn8 := numB_len n.toNat
  refine wp_region_held_drew (S := fun x => Blk x w.heap.size (a.map bv).toArray 22 ∧ Below w.heap.size w x) (by kernel_rfl) ⟨HA0.out.drew, below_drewN Hb0.out 1⟩ (fun hHeld => ?_)
  refine wpAnyH_take (i := 0) rfl (by kernel_rfl) (by kernel_rfl) (by kernel_rfl) (fun _ _ _ h => h) (yieldsIf_load_mid (by rfl) 22 (.tmp 2) rfl w.heap.size 0 (by rfl) (a.map bv) _ (fun x hx => blk_range hx.1) Tryz.underlying22 rfl (by rw [List.length_map, HA.out]; exact Tryz.sizeA32)) hHeld ?_
  simp only [Act.put, List.setIfInBounds_toArray, List.set_cons_zero, List.set_cons_succ]
  refine wpAnyH_take (i := 1) (v := .int .i64 n) rfl (by kernel_rfl) (by kernel_rfl) (by kernel_rfl) (fun _ _ _ h => h) (Or.inl ⟨by rfl, fun x hx => by go_simp⟩) hHeld ?_
  simp only [Act.put, List.setIfInBounds_toArray, List.set_cons_zero, List.set_cons_succ]
  refine wpAnyH_ready (rs := [2]) (by kernel_rfl) (by simp) ?_
  refine AllReadyH.cons rfl (fun K hK => ?_) AllReadyH.nil
  go_simp
  go_wp2_with (go_at_call 160; refine (RefNum_calls n _ h0 h1).mono ?_; rintro e w8 ⟨rfl, b8⟩)
  have hR8 := HR0.out.drew.below b8 HR0.out.drew.lt
  refine hK.out _ _ ⟨hHeld.1.below b8 hHeld.1.lt, hHeld.2.trans (b8.mono hHeld.2.size)⟩ (fun hHeld2 => ?_)
  clear hK K hHeld
  refine wpAnyH_ready (rs := [3]) (by kernel_rfl) (by simp) ?_
  refine AllReadyH.cons rfl (fun K hK => ?_) AllReadyH.nil
  go_simp
  go_wp2_with (go_at_call 100; refine (RefDerive_calls a [97, 112, 112] (numB n.toNat) _ HA.out (by simp) (by omega)).mono ?_; rintro e w9 ⟨rfl, b9⟩)
  have hR9 := hR8.below b9 hR8.lt
  refine hK.out _ _ ⟨hHeld2.1.below b9 hHeld2.1.lt, hHeld2.2.trans (b9.mono hHeld2.2.size)⟩ (fun hHeld3 => ?_)
  clear hK K hHeld2
  have hst9 := store32 (P := Tryz.prog) (h := appT a n.toNat) (hmac_len _ _) hR9
  refine wpAnyH_ready (rs := [4]) (by kernel_rfl) (by simp) ?_
  refine AllReadyH.cons rfl (fun K hK => ?_) AllReadyH.nil
  rw [show derive a [97, 112, 112] (numB n.toNat) = appT a n.toNat from rfl]
  go_simp
  rw [if_pos (show (appT a n.toNat).length = 32 from hmac_len _ _)]
  go_simp
  have g9 := grown_row w9 (w.heap.size + 1) ((appT a n.toNat).map bv).toArray
  have hB9 := Blk.setRow hR9 ((appT a n.toNat).map bv).toArray
  have h9 := hHeld3.2.trans (grown_below g9 (by omega) hHeld3.2.size)
  have h32 : Hid ((appT a n.toNat).length = 32) := hmac_len _ _
  refine hK.out _ _ ⟨Blk.grown hHeld3.1 g9 (by simp), h9⟩ (fun hHeld4 => ?_)
  clear hK K hHeld3
  refine wpAnyH_done (by kernel_rfl) ?_ _
  go_wp2_with fail
  refine ret_blk rfl (w.heap.size + 1) _ _ _ (by rfl) hB9 Tryz.underlying22 rfl (by rw [bv_size, h32.out]; exact Tryz.sizeA32) rfl ?_
  exact ⟨rfl, h9⟩
end Go.Proofs.YtjlpdbaknhbgdaaGreat
