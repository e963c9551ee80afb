/-
  keys.Context. keys.App, with a nil book. keys.Make, with a nil book: an epoch's secrets.
-/
import Derived.Test.YtjlpdbaknhbgdaaGreatQWire
import Derived.Test.YtjlpdbaknhbgdaaGreatQRef
import Derived.Test.YtjlpdbaknhbgdaaGreatQBase
import Derived.OrdersHeld
set_option linter.unusedSimpArgs false
set_option linter.unusedVariables false
namespace Go.Proofs.YtjlpdbaknhbgdaaGreat
open Go.RowKit

theorem blk_new2 (w : World) (A B C : Array Value) (t u v : TypeId) : Blk (((w.alloc (.cells A t)).alloc (.cells B u)).alloc (.cells C v)) (w.heap.size + 1 + 1) C v := by
  have := Blk.new ((w.alloc (.cells A t)).alloc (.cells B u)) C v
  rwa [show ((w.alloc (.cells A t)).alloc (.cells B u)).heap.size = w.heap.size + 1 + 1 by simp] at this

end Go.Proofs.YtjlpdbaknhbgdaaGreat
set_option linter.unusedSimpArgs false
set_option linter.unusedVariables false
namespace Go.Proofs.YtjlpdbaknhbgdaaGreat
open Go.RowKit

def appT (a : List UInt8) (n : Nat) : List UInt8 := derive a [97, 112, 112] (numB n)
theorem appT_len (a : List UInt8) (n : Nat) : (appT a n).length = 32 := hmac_len _ _
set_option maxHeartbeats 4000000 in
set_option maxRecDepth 100000 in
theorem App_calls (a : List UInt8) (n : Int) (w : World) (ha : a.length = 32) (h0 : 0 ≤ n) (h1 : n < 64) :
    Calls Tryz.prog 128 #[.pointer none, .agg (a.map bv).toArray, .int .i64 n] w fun e w' => e = .returned (.agg ((appT a n.toNat).map bv).toArray) ∧ Below w.heap.size w w' := by
  have HA := Lib.hid ha
  clear ha
  have hA0 : Blk ((w.alloc (.cells (a.map bv).toArray 23)).alloc (.cells Z32 23)) w.heap.size (a.map bv).toArray 23 := (Blk.new _ _ _).alloc _
  have hR0 : Blk ((w.alloc (.cells (a.map bv).toArray 23)).alloc (.cells Z32 23)) (w.heap.size + 1) Z32 23 := blk_new1 _ _ _ _
  have hb0 : Below w.heap.size w ((w.alloc (.cells (a.map bv).toArray 23)).alloc (.cells Z32 23)) := ((Below.refl _ _).alloc (Nat.le_refl _) _).alloc (by simp) _
  go_enter Tryz.func128, Tryz.ntmps128
  go_wp2_with fail
  generalize (w.alloc (.cells (a.map bv).toArray 23)).alloc (.cells Z32 23) = W0 at hA0 hR0 hb0 ⊢
  have lA := hA0.lt
  have lR := hR0.lt
  refine (New_calls _).mono ?_
  rintro e w1 ⟨rfl, k1, b1⟩
  have hA1 := hA0.below b1 lA
  have hR1 := hR0.below b1 lR
  clear hA0 hR0
  go_wp2_with fail
  refine (num_calls W0.heap.size _ _ _ n _ k1 b1.size (by simp) h0 (by omega)).mono ?_
  rintro e w2 ⟨rfl, k2, b2⟩
  have hA2 := hA1.below b2.below lA
  have hR2 := hR1.below b2.below lR
  have bb2 := b1.trans b2.below
  clear hA1 hR1 k1
  go_wp2_with fail
  refine (endOk_calls W0.heap.size _ _ _ k2).mono ?_
  rintro e w3 ⟨rfl, rfl⟩
  rw [List.nil_append]
  have hn8 := numB_len n.toNat
  go_wp2_with ((with_reducible show wpList _ _ _ (⟨some 27, _, _, _, _, _⟩ :: _) _ _); refine wpList_loadBlk rfl 23 (.tmp 4) rfl w.heap.size (by rfl) _ _ _ hA2 Tryz.underlying23 rfl (by rw [bv_size, HA.out]; exact Tryz.sizeHash) ?_)
  refine (PDerive_calls a [97, 112, 112] (numB n.toNat) _ HA.out (by simp) (by omega)).mono ?_
  rintro e w4 ⟨rfl, b4⟩
  have s2 := bb2.size
  have hR4 := hR2.below b4 (by omega)
  have bb4 := hb0.trans ((bb2.mono hb0.size).trans (b4.mono (by have := hb0.size; omega)))
  rw [show derive a [97, 112, 112] (numB n.toNat) = appT a n.toNat from rfl]
  have h32 : Hid ((appT a n.toNat).length = 32) := appT_len _ _
  go_wp2_with ((with_reducible show wpList _ _ _ (⟨none, Op.store _ (.tmp 6) _, _, _, _, _⟩ :: _) _ _); refine wpList_storeBlk rfl 23 (.tmp 6) (.tmp 29) rfl (w.heap.size + 1) ((appT a n.toNat).map bv).toArray (by rfl) (by rfl) _ _ hR4 (by rw [bv_size, h32.out]; exact Tryz.sizeHash) (by rw [bv_size, h32.out, Z32_size]) (bv_all _) ?_; intro w9 hB9 g9; have h9 := bb4.trans (grown_below g9 (by omega) bb4.size))
  refine ret_blk rfl (w.heap.size + 1) _ _ _ (by rfl) hB9 Tryz.underlying23 rfl (by rw [bv_size, h32.out]; exact Tryz.sizeHash) rfl ?_
  exact ⟨rfl, h9⟩

end Go.Proofs.YtjlpdbaknhbgdaaGreat
set_option linter.unusedSimpArgs false
set_option linter.unusedVariables false
namespace Go.Proofs.YtjlpdbaknhbgdaaGreat
open Go.RowKit

def z32 : List UInt8 := List.replicate 32 0
/-- Seven digests, one behind the other. -/
def s7 (a b c d e f g : List UInt8) : List UInt8 := a ++ (b ++ (c ++ (d ++ (e ++ (f ++ g)))))
def lWelcome : List UInt8 := [119, 101, 108, 99, 111, 109, 101]
def lEpoch : List UInt8 := [101, 112, 111, 99, 104]
def lInit : List UInt8 := [105, 110, 105, 116]
def lConfirm : List UInt8 := [99, 111, 110, 102, 105, 114, 109]
def lApps : List UInt8 := [97, 112, 112, 115]
def lExport : List UInt8 := [101, 120, 112, 111, 114, 116]
def epochT (j c : List UInt8) : List UInt8 := derive j lEpoch c
def secsT (j c : List UInt8) : List UInt8 := s7 j (derive j lWelcome []) (epochT j c) (derive (epochT j c) lInit []) (derive (epochT j c) lConfirm []) (derive (epochT j c) lApps []) (derive (epochT j c) lExport [])
theorem Tryz.zeroSecs : Tryz.zeroCells129 = ((s7 z32 z32 z32 z32 z32 z32 z32).map bv).toArray := by kernel_rfl
theorem Tryz.infoSecs : (Tryz.prog.info? 129).bind (·.zero) = some (.agg Tryz.zeroCells129) := by kernel_rfl
theorem Tryz.sizeSecs : (Tryz.prog.info? 129).map (·.size) = some 224 := by kernel_rfl

theorem Tryz.sizeT129 : (Tryz.prog.info? 217).map (·.size) = some 2 := by kernel_rfl
theorem four_index0 (p0 p1 p2 p3 : Option Addr) : ∀ x, (Instr.index 218 (.agg #[.pointer p0, .string (str lInit), .pointer p1, .string (str lConfirm), .pointer p2, .string (str lApps), .pointer p3, .string (str lExport)]) (.int .i64 0)).run Tryz.prog x = .ok (.agg #[.pointer p0, .string (str lInit)]) x := fun _ => by kernel_rfl
theorem four_index1 (p0 p1 p2 p3 : Option Addr) : ∀ x, (Instr.index 218 (.agg #[.pointer p0, .string (str lInit), .pointer p1, .string (str lConfirm), .pointer p2, .string (str lApps), .pointer p3, .string (str lExport)]) (.int .i64 1)).run Tryz.prog x = .ok (.agg #[.pointer p1, .string (str lConfirm)]) x := fun _ => by kernel_rfl
theorem four_index2 (p0 p1 p2 p3 : Option Addr) : ∀ x, (Instr.index 218 (.agg #[.pointer p0, .string (str lInit), .pointer p1, .string (str lConfirm), .pointer p2, .string (str lApps), .pointer p3, .string (str lExport)]) (.int .i64 2)).run Tryz.prog x = .ok (.agg #[.pointer p2, .string (str lApps)]) x := fun _ => by kernel_rfl
theorem four_index3 (p0 p1 p2 p3 : Option Addr) : ∀ x, (Instr.index 218 (.agg #[.pointer p0, .string (str lInit), .pointer p1, .string (str lConfirm), .pointer p2, .string (str lApps), .pointer p3, .string (str lExport)]) (.int .i64 3)).run Tryz.prog x = .ok (.agg #[.pointer p3, .string (str lExport)]) x := fun _ => by kernel_rfl
set_option maxHeartbeats 4000000 in
set_option maxRecDepth 100000 in
theorem Make_calls (a c : List UInt8) (w : World) (ha : a.length = 32) (hc : c.length ≤ 68719476736) :
    Calls Tryz.prog 53 #[.pointer none, .agg (a.map bv).toArray, .string (str c)] w fun e w' => e = .returned (.agg ((secsT a c).map bv).toArray) ∧ Below w.heap.size w w' := by
  have HA := Lib.hid ha
  have HC := Lib.hid hc
  clear ha hc
  have hA0 : Blk ((w.alloc (.cells (a.map bv).toArray 23)).alloc (.cells Tryz.zeroCells129 129)) w.heap.size (a.map bv).toArray 23 := (Blk.new _ _ _).alloc _
  have hb0 : Below w.heap.size w ((w.alloc (.cells (a.map bv).toArray 23)).alloc (.cells Tryz.zeroCells129 129)) := ((Below.refl _ _).alloc (Nat.le_refl _) _).alloc (by simp) _
  have hbu : Tryz.prog.built 129 [(0, .agg (a.map bv).toArray)] = some ((s7 a z32 z32 z32 z32 z32 z32).map bv).toArray := by
    rw [built_struct Tryz.infoSecs Tryz.underlying129 (places := [(0, 32), (32, 32), (64, 32), (96, 32), (128, 32), (160, 32), (192, 32)]) (by kernel_rfl), Value.cells, Tryz.zeroSecs]
    rw [fill_mid (A := []) (B := z32) (C := z32 ++ (z32 ++ (z32 ++ (z32 ++ (z32 ++ z32))))) (v := a) (by rfl) (by rw [HA.out]; rfl) (by rw [HA.out]; rfl)]
    rfl
  have hS0 : Blk (((w.alloc (.cells (a.map bv).toArray 23)).alloc (.cells Tryz.zeroCells129 129)).alloc (.cells Tryz.zeroCells129 129)) (w.heap.size + 1 + 1) Tryz.zeroCells129 129 := blk_new2 _ _ _ _ _ _ _
  have hR0 : Blk (((w.alloc (.cells (a.map bv).toArray 23)).alloc (.cells Tryz.zeroCells129 129)).alloc (.cells Tryz.zeroCells129 129)) (w.heap.size + 1) Tryz.zeroCells129 129 := (blk_new1 _ _ _ _).alloc _
  have hb1 := hb0.alloc hb0.size (.cells Tryz.zeroCells129 129)
  have hA1 := hA0.alloc (.cells Tryz.zeroCells129 129)
  have hl224 : (((s7 a z32 z32 z32 z32 z32 z32).map bv).toArray).size = 224 := by simp [s7, HA.out, z32]
  have hz224 : Tryz.zeroCells129.size = 224 := by rw [Tryz.zeroSecs]; simp [s7, z32]
  go_enter Tryz.func53, Tryz.ntmps53
  go_wp2_with (first | ((with_reducible show wpList _ _ _ (⟨some 10, _, _, _, _, _⟩ :: _) _ _); refine wpList_loadBlk rfl 23 (.tmp 4) rfl w.heap.size (by rfl) _ _ _ hA0 Tryz.underlying23 rfl (by rw [bv_size, HA.out]; exact Tryz.sizeHash) ?_) | ((with_reducible show wpList _ _ _ (⟨some 11, _, _, _, _, _⟩ :: _) _ _); refine wpList_buildCells rfl 129 _ rfl _ hbu ?_) | ((with_reducible show wpList _ _ _ (⟨none, Op.store _ (.tmp 7) _, _, _, _, _⟩ :: _) _ _); refine wpList_storeBlk rfl 129 (.tmp 7) (.tmp 11) rfl (w.heap.size + 1 + 1) ((s7 a z32 z32 z32 z32 z32 z32).map bv).toArray (by rfl) (by rfl) _ _ hS0 (by rw [hl224]; exact Tryz.sizeSecs) (by rw [hl224, hz224]) (bv_all _) ?_; intro w1 hS1 g1; have hA2 := hA1.grown g1 (by simp; omega); have hR2 := hR0.grown g1 (by simp); have hb2 := below_new hb1 g1 (by omega) hb1.size) | ((with_reducible show wpList _ _ _ (⟨some 13, _, _, _, _, _⟩ :: _) _ _); refine wpList_loadBlk rfl 23 (.tmp 4) rfl w.heap.size (by rfl) _ _ _ hA2 Tryz.underlying23 rfl (by rw [bv_size, HA.out]; exact Tryz.sizeHash) ?_))
  clear hb0 hb1 hA1 hA0 hS0 hR0 hbu g1
  have lS := hS1.lt
  refine (PDerive_calls a lWelcome [] _ HA.out (by decide) (by simp)).mono ?_
  rintro e w2 ⟨rfl, b2⟩
  obtain ⟨W, hW⟩ : ∃ y, y = derive a lWelcome [] := ⟨_, rfl⟩
  have LW : Hid (W.length = 32) := by show _ = _; rw [hW]; exact hmac_len _ _
  have HW := Lib.hid hW
  rw [← hW]
  have hS2 := hS1.below b2 hS1.lt
  have hA3 := hA2.below b2 hA2.lt
  have hR3 := hR2.below b2 hR2.lt
  have hb3 := hb2.trans (b2.mono hb2.size)
  clear hW hS1 hA2 hR2 hb2 b2
  go_wp2_with (first | ((with_reducible show wpList _ _ _ (⟨none, Op.store _ (.tmp 15) _, _, _, _, _⟩ :: _) _ _); refine wpList_storeMid rfl 23 (.tmp 15) (.tmp 14) rfl (w.heap.size + 1 + 1) 32 W (by rfl) (by rfl) _ _ a z32 (z32 ++ (z32 ++ (z32 ++ (z32 ++ z32)))) hS2 (by rfl) HA.out (by rw [LW.out]; rfl) (by rw [LW.out]; exact Tryz.sizeHash) ?_; intro w3 hS3 g3; have hA4 := hA3.grown g3 (by simp; omega); have hR4 := hR3.grown g3 (by simp); have hb4 := below_new hb3 g3 (by omega) hb3.size) | ((with_reducible show wpList _ _ _ (⟨some 17, _, _, _, _, _⟩ :: _) _ _); refine wpList_loadBlk rfl 23 (.tmp 4) rfl w.heap.size (by rfl) _ _ _ hA4 Tryz.underlying23 rfl (by rw [bv_size, HA.out]; exact Tryz.sizeHash) ?_))
  clear hb3 hR3 hS2 hA3 g3
  refine (PDerive_calls a lEpoch c _ HA.out (by decide) HC.out).mono ?_
  rintro e w4 ⟨rfl, b4⟩
  obtain ⟨E, hE⟩ : ∃ y, y = derive a lEpoch c := ⟨_, rfl⟩
  have LE : Hid (E.length = 32) := by show _ = _; rw [hE]; exact hmac_len _ _
  have HE := Lib.hid hE
  rw [← hE]
  have hS4 := hS3.below b4 hS3.lt
  have hR5 := hR4.below b4 hR4.lt
  have hb5 := hb4.trans (b4.mono hb4.size)
  clear hE hS3 hA4 hR4 hb4 b4
  go_wp2_with (first | ((with_reducible show wpList _ _ _ (⟨none, Op.store _ (.tmp 20) _, _, _, _, _⟩ :: _) _ _); refine wpList_storeMid rfl 23 (.tmp 20) (.tmp 19) rfl (w.heap.size + 1 + 1) 64 E (by rfl) (by rfl) _ _ (a ++ W) z32 (z32 ++ (z32 ++ (z32 ++ z32))) hS4 (by simp [s7]) (by rw [List.length_append, HA.out, LW.out]) (by rw [LE.out]; rfl) (by rw [LE.out]; exact Tryz.sizeHash) ?_; intro w5 hS5 g5; have hR6 := hR5.grown g5 (by simp); have hb6 := below_new hb5 g5 (by omega) hb5.size))
  clear hb5 hR5 hS4 --rounds
  refine wp_loop_rounds 5 ?_
  clear g5
  rw [rounds_succ]
  have hN0 := Blk.new w5 #[Value.pointer none, Value.string ⟨#[]⟩] 217
  have hSa0 := hS5.alloc (.cells #[Value.pointer none, Value.string ⟨#[]⟩] 217)
  have hRa0 := hR6.alloc (.cells #[Value.pointer none, Value.string ⟨#[]⟩] 217)
  have hba0 := hb6.alloc hb6.size (.cells #[Value.pointer none, Value.string ⟨#[]⟩] 217)
  have lS0 := hS5.lt
  have hix : ∀ x, (Instr.index 218 (.agg #[.pointer (some ⟨w.heap.size + 1 + 1, 96, none⟩), .string ⟨#[105, 110, 105, 116]⟩, .pointer (some ⟨w.heap.size + 1 + 1, 128, none⟩), .string ⟨#[99, 111, 110, 102, 105, 114, 109]⟩, .pointer (some ⟨w.heap.size + 1 + 1, 160, none⟩), .string ⟨#[97, 112, 112, 115]⟩, .pointer (some ⟨w.heap.size + 1 + 1, 192, none⟩), .string ⟨#[101, 120, 112, 111, 114, 116]⟩]) (.int .i64 0)).run Tryz.prog x = .ok (.agg #[.pointer (some ⟨w.heap.size + 1 + 1, 96, none⟩), .string (str lInit)]) x := four_index0 _ _ _ _
  go_wp2_with ((with_reducible show wpList _ _ _ (⟨none, Op.store _ (.tmp 9) _, _, _, _, _⟩ :: _) _ _); refine wpList_storeBlk rfl 217 (.tmp 9) (.tmp 32) rfl w5.heap.size #[.pointer (some ⟨w.heap.size + 1 + 1, 96, none⟩), .string (str lInit)] (by rfl) (by rfl) _ _ hN0 Tryz.sizeT129 rfl (by first | rfl | simp [Value.oneCell'] | kernel_rfl) ?_; intro u0 hX0 g0; have hSb0 := hSa0.grown g0 (by simp; omega); have hRb0 := hRa0.grown g0 (by simp; omega); have hbb0 := below_new hba0 g0 (by omega) hba0.size)
  clear hix hN0 hSa0 hRa0 hba0 g0 hS5 hR6 hb6
  refine wp_region_held_drew (S := fun x => x.rangeAt (w.heap.size + 1 + 1) 64 (E.map bv) ∧ Blk x w5.heap.size #[.pointer (some ⟨w.heap.size + 1 + 1, 96, none⟩), .string (str lInit)] 217) (by kernel_rfl) ⟨blk_mid (A := a ++ W) (v := E) (C := (z32 ++ (z32 ++ (z32 ++ z32)))) hSb0.drew (by simp) (by rw [List.length_append, HA.out, LW.out]), hX0.drew⟩ (fun hHeld => ?_)
  have lX0 := hX0.lt
  clear hX0
  have hSc0 := hSb0.drew
  have hRc0 := hRb0.drew
  have hbc0 := below_drewN hbb0 1
  clear hSb0 hRb0 hbb0
  refine wpAnyH_take (i := 0) (v := .pointer (some ⟨w5.heap.size, 0, none⟩)) rfl (by kernel_rfl) (by kernel_rfl) (by kernel_rfl) (fun _ _ _ h => h) (Or.inl ⟨by rfl, fun x hx => by go_simp⟩) hHeld ?_
  simp only [Act.put, List.setIfInBounds_toArray, List.set_cons_zero, List.set_cons_succ]
  refine wpAnyH_take (i := 1) (v := .pointer (some ⟨w.heap.size + 1 + 1, 96, none⟩)) rfl (by kernel_rfl) (by kernel_rfl) (by kernel_rfl) (fun _ _ _ h => h) (Or.inl ⟨by rfl, fun x hx => by have hc := hx.2.cell 0 _ rfl; go_simp⟩) hHeld ?_
  simp only [Act.put, List.setIfInBounds_toArray, List.set_cons_zero, List.set_cons_succ]
  refine wpAnyH_take (i := 2) (v := .pointer none) rfl (by kernel_rfl) (by kernel_rfl) (by kernel_rfl) (fun _ _ _ h => h) (Or.inl ⟨by rfl, fun x hx => by go_simp⟩) hHeld ?_
  simp only [Act.put, List.setIfInBounds_toArray, List.set_cons_zero, List.set_cons_succ]
  refine wpAnyH_take (i := 3) (v := .pointer (some ⟨w.heap.size + 1 + 1, 64, none⟩)) rfl (by kernel_rfl) (by kernel_rfl) (by kernel_rfl) (fun _ _ _ h => h) (Or.inl ⟨by rfl, fun x hx => by go_simp⟩) hHeld ?_
  simp only [Act.put, List.setIfInBounds_toArray, List.set_cons_zero, List.set_cons_succ]
  refine wpAnyH_take (i := 4) rfl (by kernel_rfl) (by kernel_rfl) (by kernel_rfl) (fun _ _ _ h => h) (yieldsIf_load_mid (by rfl) 23 (.tmp 36) rfl (w.heap.size + 1 + 1) 64 (by rfl) (E.map bv) _ (fun x hx => hx.1) Tryz.underlying23 rfl (by rw [List.length_map, LE.out]; exact Tryz.sizeHash)) hHeld ?_
  simp only [Act.put, List.setIfInBounds_toArray, List.set_cons_zero, List.set_cons_succ]
  refine wpAnyH_take (i := 5) (v := .pointer (some ⟨w5.heap.size, 1, none⟩)) rfl (by kernel_rfl) (by kernel_rfl) (by kernel_rfl) (fun _ _ _ h => h) (Or.inl ⟨by rfl, fun x hx => by go_simp⟩) hHeld ?_
  simp only [Act.put, List.setIfInBounds_toArray, List.set_cons_zero, List.set_cons_succ]
  refine wpAnyH_take (i := 6) (v := .string (str lInit)) rfl (by kernel_rfl) (by kernel_rfl) (by kernel_rfl) (fun _ _ _ h => h) (Or.inl ⟨by rfl, fun x hx => by have hc := hx.2.cell 1 _ rfl; go_simp⟩) hHeld ?_
  simp only [Act.put, List.setIfInBounds_toArray, List.set_cons_zero, List.set_cons_succ]
  refine wpAnyH_ready (rs := [7]) (by kernel_rfl) (by simp) ?_
  refine AllReadyH.cons rfl (fun K hK => ?_) AllReadyH.nil
  go_simp
  go_wp2_with (go_at_call 95; refine (PDerive_calls E lInit [] _ LE.out (by decide) (by simp)).mono ?_; rintro e v0 ⟨rfl, b0⟩)
  obtain ⟨I, hV⟩ : ∃ y, y = derive E lInit [] := ⟨_, rfl⟩
  have LI : Hid (I.length = 32) := by show _ = _; rw [hV]; exact hmac_len _ _
  have HI := Lib.hid hV
  rw [← hV]
  clear hV
  have hSd0 := hSc0.below b0 hSc0.lt
  have hRd0 := hRc0.below b0 hRc0.lt
  have hbd0 := hbc0.trans (b0.mono hbc0.size)
  have lV0 := b0.size
  refine hK.out _ _ ⟨blk_mid (A := a ++ W) (v := E) (C := (z32 ++ (z32 ++ (z32 ++ z32)))) hSd0 (by simp) (by rw [List.length_append, HA.out, LW.out]), hHeld.2.below b0 hHeld.2.lt⟩ (fun hHeld2 => ?_)
  clear hK K hHeld b0 hSc0 hRc0 hbc0
  refine wpAnyH_ready (rs := [8]) (by kernel_rfl) (by simp) ?_
  refine AllReadyH.cons rfl (fun K hK => ?_) AllReadyH.nil
  go_simp
  refine hK.out _ _ hHeld2 (fun hHeld3 => ?_)
  clear hK K hHeld2
  refine wpAnyH_ready (rs := [9]) (by kernel_rfl) (by simp) ?_
  refine AllReadyH.cons rfl (fun K hK => ?_) AllReadyH.nil
  rw [if_pos (by rfl)]
  refine wp_storeMid 23 (.tmp 41) (.tmp 40) rfl (w.heap.size + 1 + 1) 96 I (by rfl) (by rfl) _ _ (a ++ (W ++ E)) z32 (z32 ++ (z32 ++ z32)) hSd0 (by simp) (by simp only [List.length_append, HA.out, LW.out, LE.out]) (by rw [LI.out]; rfl) (by rw [LI.out]; exact Tryz.sizeHash) ?_
  intro t0 hT0 gt0
  have hRt0 := hRd0.grown gt0 (by simp)
  have hbt0 := below_new hbd0 gt0 (by omega) hbd0.size
  refine hK.out _ _ ⟨blk_mid (A := a ++ W) (v := E) (C := (I ++ (z32 ++ (z32 ++ z32)))) hT0 (by simp) (by rw [List.length_append, HA.out, LW.out]), hHeld3.2.grown gt0 (by simp; omega)⟩ (fun hHeld4 => ?_)
  clear hK K hHeld3 hHeld4 hSd0 hRd0 hbd0 gt0
  refine wpAnyH_done (by kernel_rfl) ?_ _
  go_wp2_with fail
  rw [rounds_succ]
  have hN1 := Blk.new t0 #[Value.pointer none, Value.string ⟨#[]⟩] 217
  have hSa1 := hT0.alloc (.cells #[Value.pointer none, Value.string ⟨#[]⟩] 217)
  have hRa1 := hRt0.alloc (.cells #[Value.pointer none, Value.string ⟨#[]⟩] 217)
  have hba1 := hbt0.alloc hbt0.size (.cells #[Value.pointer none, Value.string ⟨#[]⟩] 217)
  have lS1 := hT0.lt
  have hix : ∀ x, (Instr.index 218 (.agg #[.pointer (some ⟨w.heap.size + 1 + 1, 96, none⟩), .string ⟨#[105, 110, 105, 116]⟩, .pointer (some ⟨w.heap.size + 1 + 1, 128, none⟩), .string ⟨#[99, 111, 110, 102, 105, 114, 109]⟩, .pointer (some ⟨w.heap.size + 1 + 1, 160, none⟩), .string ⟨#[97, 112, 112, 115]⟩, .pointer (some ⟨w.heap.size + 1 + 1, 192, none⟩), .string ⟨#[101, 120, 112, 111, 114, 116]⟩]) (.int .i64 1)).run Tryz.prog x = .ok (.agg #[.pointer (some ⟨w.heap.size + 1 + 1, 128, none⟩), .string (str lConfirm)]) x := four_index1 _ _ _ _
  go_wp2_with ((with_reducible show wpList _ _ _ (⟨none, Op.store _ (.tmp 9) _, _, _, _, _⟩ :: _) _ _); refine wpList_storeBlk rfl 217 (.tmp 9) (.tmp 32) rfl t0.heap.size #[.pointer (some ⟨w.heap.size + 1 + 1, 128, none⟩), .string (str lConfirm)] (by rfl) (by rfl) _ _ hN1 Tryz.sizeT129 rfl (by first | rfl | simp [Value.oneCell'] | kernel_rfl) ?_; intro u1 hX1 g1; have hSb1 := hSa1.grown g1 (by simp; omega); have hRb1 := hRa1.grown g1 (by simp; omega); have hbb1 := below_new hba1 g1 (by omega) hba1.size)
  clear hix hN1 hSa1 hRa1 hba1 g1 hT0 hRt0 hbt0
  refine wp_region_held_drew (S := fun x => x.rangeAt (w.heap.size + 1 + 1) 64 (E.map bv) ∧ Blk x t0.heap.size #[.pointer (some ⟨w.heap.size + 1 + 1, 128, none⟩), .string (str lConfirm)] 217) (by kernel_rfl) ⟨blk_mid (A := a ++ W) (v := E) (C := (I ++ (z32 ++ (z32 ++ z32)))) hSb1.drew (by simp) (by rw [List.length_append, HA.out, LW.out]), hX1.drew⟩ (fun hHeld => ?_)
  have lX1 := hX1.lt
  clear hX1
  have hSc1 := hSb1.drew
  have hRc1 := hRb1.drew
  have hbc1 := below_drewN hbb1 1
  clear hSb1 hRb1 hbb1
  refine wpAnyH_take (i := 0) (v := .pointer (some ⟨t0.heap.size, 0, none⟩)) rfl (by kernel_rfl) (by kernel_rfl) (by kernel_rfl) (fun _ _ _ h => h) (Or.inl ⟨by rfl, fun x hx => by go_simp⟩) hHeld ?_
  simp only [Act.put, List.setIfInBounds_toArray, List.set_cons_zero, List.set_cons_succ]
  refine wpAnyH_take (i := 1) (v := .pointer (some ⟨w.heap.size + 1 + 1, 128, none⟩)) rfl (by kernel_rfl) (by kernel_rfl) (by kernel_rfl) (fun _ _ _ h => h) (Or.inl ⟨by rfl, fun x hx => by have hc := hx.2.cell 0 _ rfl; go_simp⟩) hHeld ?_
  simp only [Act.put, List.setIfInBounds_toArray, List.set_cons_zero, List.set_cons_succ]
  refine wpAnyH_take (i := 2) (v := .pointer none) rfl (by kernel_rfl) (by kernel_rfl) (by kernel_rfl) (fun _ _ _ h => h) (Or.inl ⟨by rfl, fun x hx => by go_simp⟩) hHeld ?_
  simp only [Act.put, List.setIfInBounds_toArray, List.set_cons_zero, List.set_cons_succ]
  refine wpAnyH_take (i := 3) (v := .pointer (some ⟨w.heap.size + 1 + 1, 64, none⟩)) rfl (by kernel_rfl) (by kernel_rfl) (by kernel_rfl) (fun _ _ _ h => h) (Or.inl ⟨by rfl, fun x hx => by go_simp⟩) hHeld ?_
  simp only [Act.put, List.setIfInBounds_toArray, List.set_cons_zero, List.set_cons_succ]
  refine wpAnyH_take (i := 4) rfl (by kernel_rfl) (by kernel_rfl) (by kernel_rfl) (fun _ _ _ h => h) (yieldsIf_load_mid (by rfl) 23 (.tmp 36) rfl (w.heap.size + 1 + 1) 64 (by rfl) (E.map bv) _ (fun x hx => hx.1) Tryz.underlying23 rfl (by rw [List.length_map, LE.out]; exact Tryz.sizeHash)) hHeld ?_
  simp only [Act.put, List.setIfInBounds_toArray, List.set_cons_zero, List.set_cons_succ]
  refine wpAnyH_take (i := 5) (v := .pointer (some ⟨t0.heap.size, 1, none⟩)) rfl (by kernel_rfl) (by kernel_rfl) (by kernel_rfl) (fun _ _ _ h => h) (Or.inl ⟨by rfl, fun x hx => by go_simp⟩) hHeld ?_
  simp only [Act.put, List.setIfInBounds_toArray, List.set_cons_zero, List.set_cons_succ]
  refine wpAnyH_take (i := 6) (v := .string (str lConfirm)) rfl (by kernel_rfl) (by kernel_rfl) (by kernel_rfl) (fun _ _ _ h => h) (Or.inl ⟨by rfl, fun x hx => by have hc := hx.2.cell 1 _ rfl; go_simp⟩) hHeld ?_
  simp only [Act.put, List.setIfInBounds_toArray, List.set_cons_zero, List.set_cons_succ]
  refine wpAnyH_ready (rs := [7]) (by kernel_rfl) (by simp) ?_
  refine AllReadyH.cons rfl (fun K hK => ?_) AllReadyH.nil
  go_simp
  go_wp2_with (go_at_call 95; refine (PDerive_calls E lConfirm [] _ LE.out (by decide) (by simp)).mono ?_; rintro e v1 ⟨rfl, b1⟩)
  obtain ⟨F, hV⟩ : ∃ y, y = derive E lConfirm [] := ⟨_, rfl⟩
  have LF : Hid (F.length = 32) := by show _ = _; rw [hV]; exact hmac_len _ _
  have HF := Lib.hid hV
  rw [← hV]
  clear hV
  have hSd1 := hSc1.below b1 hSc1.lt
  have hRd1 := hRc1.below b1 hRc1.lt
  have hbd1 := hbc1.trans (b1.mono hbc1.size)
  have lV1 := b1.size
  refine hK.out _ _ ⟨blk_mid (A := a ++ W) (v := E) (C := (I ++ (z32 ++ (z32 ++ z32)))) hSd1 (by simp) (by rw [List.length_append, HA.out, LW.out]), hHeld.2.below b1 hHeld.2.lt⟩ (fun hHeld2 => ?_)
  clear hK K hHeld b1 hSc1 hRc1 hbc1
  refine wpAnyH_ready (rs := [8]) (by kernel_rfl) (by simp) ?_
  refine AllReadyH.cons rfl (fun K hK => ?_) AllReadyH.nil
  go_simp
  refine hK.out _ _ hHeld2 (fun hHeld3 => ?_)
  clear hK K hHeld2
  refine wpAnyH_ready (rs := [9]) (by kernel_rfl) (by simp) ?_
  refine AllReadyH.cons rfl (fun K hK => ?_) AllReadyH.nil
  rw [if_pos (by rfl)]
  refine wp_storeMid 23 (.tmp 41) (.tmp 40) rfl (w.heap.size + 1 + 1) 128 F (by rfl) (by rfl) _ _ (a ++ (W ++ (E ++ I))) z32 (z32 ++ z32) hSd1 (by simp) (by simp only [List.length_append, HA.out, LW.out, LE.out, LI.out]) (by rw [LF.out]; rfl) (by rw [LF.out]; exact Tryz.sizeHash) ?_
  intro t1 hT1 gt1
  have hRt1 := hRd1.grown gt1 (by simp)
  have hbt1 := below_new hbd1 gt1 (by omega) hbd1.size
  refine hK.out _ _ ⟨blk_mid (A := a ++ W) (v := E) (C := (I ++ (F ++ (z32 ++ z32)))) hT1 (by simp) (by rw [List.length_append, HA.out, LW.out]), hHeld3.2.grown gt1 (by simp; omega)⟩ (fun hHeld4 => ?_)
  clear hK K hHeld3 hHeld4 hSd1 hRd1 hbd1 gt1
  refine wpAnyH_done (by kernel_rfl) ?_ _
  go_wp2_with fail
  rw [rounds_succ]
  have hN2 := Blk.new t1 #[Value.pointer none, Value.string ⟨#[]⟩] 217
  have hSa2 := hT1.alloc (.cells #[Value.pointer none, Value.string ⟨#[]⟩] 217)
  have hRa2 := hRt1.alloc (.cells #[Value.pointer none, Value.string ⟨#[]⟩] 217)
  have hba2 := hbt1.alloc hbt1.size (.cells #[Value.pointer none, Value.string ⟨#[]⟩] 217)
  have lS2 := hT1.lt
  have hix : ∀ x, (Instr.index 218 (.agg #[.pointer (some ⟨w.heap.size + 1 + 1, 96, none⟩), .string ⟨#[105, 110, 105, 116]⟩, .pointer (some ⟨w.heap.size + 1 + 1, 128, none⟩), .string ⟨#[99, 111, 110, 102, 105, 114, 109]⟩, .pointer (some ⟨w.heap.size + 1 + 1, 160, none⟩), .string ⟨#[97, 112, 112, 115]⟩, .pointer (some ⟨w.heap.size + 1 + 1, 192, none⟩), .string ⟨#[101, 120, 112, 111, 114, 116]⟩]) (.int .i64 2)).run Tryz.prog x = .ok (.agg #[.pointer (some ⟨w.heap.size + 1 + 1, 160, none⟩), .string (str lApps)]) x := four_index2 _ _ _ _
  go_wp2_with ((with_reducible show wpList _ _ _ (⟨none, Op.store _ (.tmp 9) _, _, _, _, _⟩ :: _) _ _); refine wpList_storeBlk rfl 217 (.tmp 9) (.tmp 32) rfl t1.heap.size #[.pointer (some ⟨w.heap.size + 1 + 1, 160, none⟩), .string (str lApps)] (by rfl) (by rfl) _ _ hN2 Tryz.sizeT129 rfl (by first | rfl | simp [Value.oneCell'] | kernel_rfl) ?_; intro u2 hX2 g2; have hSb2 := hSa2.grown g2 (by simp; omega); have hRb2 := hRa2.grown g2 (by simp; omega); have hbb2 := below_new hba2 g2 (by omega) hba2.size)
  clear hix hN2 hSa2 hRa2 hba2 g2 hT1 hRt1 hbt1
  refine wp_region_held_drew (S := fun x => x.rangeAt (w.heap.size + 1 + 1) 64 (E.map bv) ∧ Blk x t1.heap.size #[.pointer (some ⟨w.heap.size + 1 + 1, 160, none⟩), .string (str lApps)] 217) (by kernel_rfl) ⟨blk_mid (A := a ++ W) (v := E) (C := (I ++ (F ++ (z32 ++ z32)))) hSb2.drew (by simp) (by rw [List.length_append, HA.out, LW.out]), hX2.drew⟩ (fun hHeld => ?_)
  have lX2 := hX2.lt
  clear hX2
  have hSc2 := hSb2.drew
  have hRc2 := hRb2.drew
  have hbc2 := below_drewN hbb2 1
  clear hSb2 hRb2 hbb2
  refine wpAnyH_take (i := 0) (v := .pointer (some ⟨t1.heap.size, 0, none⟩)) rfl (by kernel_rfl) (by kernel_rfl) (by kernel_rfl) (fun _ _ _ h => h) (Or.inl ⟨by rfl, fun x hx => by go_simp⟩) hHeld ?_
  simp only [Act.put, List.setIfInBounds_toArray, List.set_cons_zero, List.set_cons_succ]
  refine wpAnyH_take (i := 1) (v := .pointer (some ⟨w.heap.size + 1 + 1, 160, none⟩)) rfl (by kernel_rfl) (by kernel_rfl) (by kernel_rfl) (fun _ _ _ h => h) (Or.inl ⟨by rfl, fun x hx => by have hc := hx.2.cell 0 _ rfl; go_simp⟩) hHeld ?_
  simp only [Act.put, List.setIfInBounds_toArray, List.set_cons_zero, List.set_cons_succ]
  refine wpAnyH_take (i := 2) (v := .pointer none) rfl (by kernel_rfl) (by kernel_rfl) (by kernel_rfl) (fun _ _ _ h => h) (Or.inl ⟨by rfl, fun x hx => by go_simp⟩) hHeld ?_
  simp only [Act.put, List.setIfInBounds_toArray, List.set_cons_zero, List.set_cons_succ]
  refine wpAnyH_take (i := 3) (v := .pointer (some ⟨w.heap.size + 1 + 1, 64, none⟩)) rfl (by kernel_rfl) (by kernel_rfl) (by kernel_rfl) (fun _ _ _ h => h) (Or.inl ⟨by rfl, fun x hx => by go_simp⟩) hHeld ?_
  simp only [Act.put, List.setIfInBounds_toArray, List.set_cons_zero, List.set_cons_succ]
  refine wpAnyH_take (i := 4) rfl (by kernel_rfl) (by kernel_rfl) (by kernel_rfl) (fun _ _ _ h => h) (yieldsIf_load_mid (by rfl) 23 (.tmp 36) rfl (w.heap.size + 1 + 1) 64 (by rfl) (E.map bv) _ (fun x hx => hx.1) Tryz.underlying23 rfl (by rw [List.length_map, LE.out]; exact Tryz.sizeHash)) hHeld ?_
  simp only [Act.put, List.setIfInBounds_toArray, List.set_cons_zero, List.set_cons_succ]
  refine wpAnyH_take (i := 5) (v := .pointer (some ⟨t1.heap.size, 1, none⟩)) rfl (by kernel_rfl) (by kernel_rfl) (by kernel_rfl) (fun _ _ _ h => h) (Or.inl ⟨by rfl, fun x hx => by go_simp⟩) hHeld ?_
  simp only [Act.put, List.setIfInBounds_toArray, List.set_cons_zero, List.set_cons_succ]
  refine wpAnyH_take (i := 6) (v := .string (str lApps)) rfl (by kernel_rfl) (by kernel_rfl) (by kernel_rfl) (fun _ _ _ h => h) (Or.inl ⟨by rfl, fun x hx => by have hc := hx.2.cell 1 _ rfl; go_simp⟩) hHeld ?_
  simp only [Act.put, List.setIfInBounds_toArray, List.set_cons_zero, List.set_cons_succ]
  refine wpAnyH_ready (rs := [7]) (by kernel_rfl) (by simp) ?_
  refine AllReadyH.cons rfl (fun K hK => ?_) AllReadyH.nil
  go_simp
  go_wp2_with (go_at_call 95; refine (PDerive_calls E lApps [] _ LE.out (by decide) (by simp)).mono ?_; rintro e v2 ⟨rfl, b2⟩)
  obtain ⟨P, hV⟩ : ∃ y, y = derive E lApps [] := ⟨_, rfl⟩
  have LP : Hid (P.length = 32) := by show _ = _; rw [hV]; exact hmac_len _ _
  have HP := Lib.hid hV
  rw [← hV]
  clear hV
  have hSd2 := hSc2.below b2 hSc2.lt
  have hRd2 := hRc2.below b2 hRc2.lt
  have hbd2 := hbc2.trans (b2.mono hbc2.size)
  have lV2 := b2.size
  refine hK.out _ _ ⟨blk_mid (A := a ++ W) (v := E) (C := (I ++ (F ++ (z32 ++ z32)))) hSd2 (by simp) (by rw [List.length_append, HA.out, LW.out]), hHeld.2.below b2 hHeld.2.lt⟩ (fun hHeld2 => ?_)
  clear hK K hHeld b2 hSc2 hRc2 hbc2
  refine wpAnyH_ready (rs := [8]) (by kernel_rfl) (by simp) ?_
  refine AllReadyH.cons rfl (fun K hK => ?_) AllReadyH.nil
  go_simp
  refine hK.out _ _ hHeld2 (fun hHeld3 => ?_)
  clear hK K hHeld2
  refine wpAnyH_ready (rs := [9]) (by kernel_rfl) (by simp) ?_
  refine AllReadyH.cons rfl (fun K hK => ?_) AllReadyH.nil
  rw [if_pos (by rfl)]
  refine wp_storeMid 23 (.tmp 41) (.tmp 40) rfl (w.heap.size + 1 + 1) 160 P (by rfl) (by rfl) _ _ (a ++ (W ++ (E ++ (I ++ F)))) z32 z32 hSd2 (by simp) (by simp only [List.length_append, HA.out, LW.out, LE.out, LI.out, LF.out]) (by rw [LP.out]; rfl) (by rw [LP.out]; exact Tryz.sizeHash) ?_
  intro t2 hT2 gt2
  have hRt2 := hRd2.grown gt2 (by simp)
  have hbt2 := below_new hbd2 gt2 (by omega) hbd2.size
  refine hK.out _ _ ⟨blk_mid (A := a ++ W) (v := E) (C := (I ++ (F ++ (P ++ z32)))) hT2 (by simp) (by rw [List.length_append, HA.out, LW.out]), hHeld3.2.grown gt2 (by simp; omega)⟩ (fun hHeld4 => ?_)
  clear hK K hHeld3 hHeld4 hSd2 hRd2 hbd2 gt2
  refine wpAnyH_done (by kernel_rfl) ?_ _
  go_wp2_with fail
  rw [rounds_succ]
  have hN3 := Blk.new t2 #[Value.pointer none, Value.string ⟨#[]⟩] 217
  have hSa3 := hT2.alloc (.cells #[Value.pointer none, Value.string ⟨#[]⟩] 217)
  have hRa3 := hRt2.alloc (.cells #[Value.pointer none, Value.string ⟨#[]⟩] 217)
  have hba3 := hbt2.alloc hbt2.size (.cells #[Value.pointer none, Value.string ⟨#[]⟩] 217)
  have lS3 := hT2.lt
  have hix : ∀ x, (Instr.index 218 (.agg #[.pointer (some ⟨w.heap.size + 1 + 1, 96, none⟩), .string ⟨#[105, 110, 105, 116]⟩, .pointer (some ⟨w.heap.size + 1 + 1, 128, none⟩), .string ⟨#[99, 111, 110, 102, 105, 114, 109]⟩, .pointer (some ⟨w.heap.size + 1 + 1, 160, none⟩), .string ⟨#[97, 112, 112, 115]⟩, .pointer (some ⟨w.heap.size + 1 + 1, 192, none⟩), .string ⟨#[101, 120, 112, 111, 114, 116]⟩]) (.int .i64 3)).run Tryz.prog x = .ok (.agg #[.pointer (some ⟨w.heap.size + 1 + 1, 192, none⟩), .string (str lExport)]) x := four_index3 _ _ _ _
  go_wp2_with ((with_reducible show wpList _ _ _ (⟨none, Op.store _ (.tmp 9) _, _, _, _, _⟩ :: _) _ _); refine wpList_storeBlk rfl 217 (.tmp 9) (.tmp 32) rfl t2.heap.size #[.pointer (some ⟨w.heap.size + 1 + 1, 192, none⟩), .string (str lExport)] (by rfl) (by rfl) _ _ hN3 Tryz.sizeT129 rfl (by first | rfl | simp [Value.oneCell'] | kernel_rfl) ?_; intro u3 hX3 g3; have hSb3 := hSa3.grown g3 (by simp; omega); have hRb3 := hRa3.grown g3 (by simp; omega); have hbb3 := below_new hba3 g3 (by omega) hba3.size)
  clear hix hN3 hSa3 hRa3 hba3 g3 hT2 hRt2 hbt2
  refine wp_region_held_drew (S := fun x => x.rangeAt (w.heap.size + 1 + 1) 64 (E.map bv) ∧ Blk x t2.heap.size #[.pointer (some ⟨w.heap.size + 1 + 1, 192, none⟩), .string (str lExport)] 217) (by kernel_rfl) ⟨blk_mid (A := a ++ W) (v := E) (C := (I ++ (F ++ (P ++ z32)))) hSb3.drew (by simp) (by rw [List.length_append, HA.out, LW.out]), hX3.drew⟩ (fun hHeld => ?_)
  have lX3 := hX3.lt
  clear hX3
  have hSc3 := hSb3.drew
  have hRc3 := hRb3.drew
  have hbc3 := below_drewN hbb3 1
  clear hSb3 hRb3 hbb3
  refine wpAnyH_take (i := 0) (v := .pointer (some ⟨t2.heap.size, 0, none⟩)) rfl (by kernel_rfl) (by kernel_rfl) (by kernel_rfl) (fun _ _ _ h => h) (Or.inl ⟨by rfl, fun x hx => by go_simp⟩) hHeld ?_
  simp only [Act.put, List.setIfInBounds_toArray, List.set_cons_zero, List.set_cons_succ]
  refine wpAnyH_take (i := 1) (v := .pointer (some ⟨w.heap.size + 1 + 1, 192, none⟩)) rfl (by kernel_rfl) (by kernel_rfl) (by kernel_rfl) (fun _ _ _ h => h) (Or.inl ⟨by rfl, fun x hx => by have hc := hx.2.cell 0 _ rfl; go_simp⟩) hHeld ?_
  simp only [Act.put, List.setIfInBounds_toArray, List.set_cons_zero, List.set_cons_succ]
  refine wpAnyH_take (i := 2) (v := .pointer none) rfl (by kernel_rfl) (by kernel_rfl) (by kernel_rfl) (fun _ _ _ h => h) (Or.inl ⟨by rfl, fun x hx => by go_simp⟩) hHeld ?_
  simp only [Act.put, List.setIfInBounds_toArray, List.set_cons_zero, List.set_cons_succ]
  refine wpAnyH_take (i := 3) (v := .pointer (some ⟨w.heap.size + 1 + 1, 64, none⟩)) rfl (by kernel_rfl) (by kernel_rfl) (by kernel_rfl) (fun _ _ _ h => h) (Or.inl ⟨by rfl, fun x hx => by go_simp⟩) hHeld ?_
  simp only [Act.put, List.setIfInBounds_toArray, List.set_cons_zero, List.set_cons_succ]
  refine wpAnyH_take (i := 4) rfl (by kernel_rfl) (by kernel_rfl) (by kernel_rfl) (fun _ _ _ h => h) (yieldsIf_load_mid (by rfl) 23 (.tmp 36) rfl (w.heap.size + 1 + 1) 64 (by rfl) (E.map bv) _ (fun x hx => hx.1) Tryz.underlying23 rfl (by rw [List.length_map, LE.out]; exact Tryz.sizeHash)) hHeld ?_
  simp only [Act.put, List.setIfInBounds_toArray, List.set_cons_zero, List.set_cons_succ]
  refine wpAnyH_take (i := 5) (v := .pointer (some ⟨t2.heap.size, 1, none⟩)) rfl (by kernel_rfl) (by kernel_rfl) (by kernel_rfl) (fun _ _ _ h => h) (Or.inl ⟨by rfl, fun x hx => by go_simp⟩) hHeld ?_
  simp only [Act.put, List.setIfInBounds_toArray, List.set_cons_zero, List.set_cons_succ]
  refine wpAnyH_take (i := 6) (v := .string (str lExport)) rfl (by kernel_rfl) (by kernel_rfl) (by kernel_rfl) (fun _ _ _ h => h) (Or.inl ⟨by rfl, fun x hx => by have hc := hx.2.cell 1 _ rfl; go_simp⟩) hHeld ?_
  simp only [Act.put, List.setIfInBounds_toArray, List.set_cons_zero, List.set_cons_succ]
  refine wpAnyH_ready (rs := [7]) (by kernel_rfl) (by simp) ?_
  refine AllReadyH.cons rfl (fun K hK => ?_) AllReadyH.nil
  go_simp
  go_wp2_with (go_at_call 95; refine (PDerive_calls E lExport [] _ LE.out (by decide) (by simp)).mono ?_; rintro e v3 ⟨rfl, b3⟩)
  obtain ⟨X, hV⟩ : ∃ y, y = derive E lExport [] := ⟨_, rfl⟩
  have LX : Hid (X.length = 32) := by show _ = _; rw [hV]; exact hmac_len _ _
  have HX := Lib.hid hV
  rw [← hV]
  clear hV
  have hSd3 := hSc3.below b3 hSc3.lt
  have hRd3 := hRc3.below b3 hRc3.lt
  have hbd3 := hbc3.trans (b3.mono hbc3.size)
  have lV3 := b3.size
  refine hK.out _ _ ⟨blk_mid (A := a ++ W) (v := E) (C := (I ++ (F ++ (P ++ z32)))) hSd3 (by simp) (by rw [List.length_append, HA.out, LW.out]), hHeld.2.below b3 hHeld.2.lt⟩ (fun hHeld2 => ?_)
  clear hK K hHeld b3 hSc3 hRc3 hbc3
  refine wpAnyH_ready (rs := [8]) (by kernel_rfl) (by simp) ?_
  refine AllReadyH.cons rfl (fun K hK => ?_) AllReadyH.nil
  go_simp
  refine hK.out _ _ hHeld2 (fun hHeld3 => ?_)
  clear hK K hHeld2
  refine wpAnyH_ready (rs := [9]) (by kernel_rfl) (by simp) ?_
  refine AllReadyH.cons rfl (fun K hK => ?_) AllReadyH.nil
  rw [if_pos (by rfl)]
  refine wp_storeMid 23 (.tmp 41) (.tmp 40) rfl (w.heap.size + 1 + 1) 192 X (by rfl) (by rfl) _ _ (a ++ (W ++ (E ++ (I ++ (F ++ P))))) z32 [] hSd3 (by simp) (by simp only [List.length_append, HA.out, LW.out, LE.out, LI.out, LF.out, LP.out]) (by rw [LX.out]; rfl) (by rw [LX.out]; exact Tryz.sizeHash) ?_
  intro t3 hT3 gt3
  have hRt3 := hRd3.grown gt3 (by simp)
  have hbt3 := below_new hbd3 gt3 (by omega) hbd3.size
  refine hK.out _ _ ⟨blk_mid (A := a ++ W) (v := E) (C := (I ++ (F ++ (P ++ X)))) hT3 (by simp) (by rw [List.length_append, HA.out, LW.out]), hHeld3.2.grown gt3 (by simp; omega)⟩ (fun hHeld4 => ?_)
  clear hK K hHeld3 hHeld4 hSd3 hRd3 hbd3 gt3
  refine wpAnyH_done (by kernel_rfl) ?_ _
  go_wp2_with fail
  rw [rounds_succ]
  have hfin : a ++ (W ++ (E ++ (I ++ (F ++ P)))) ++ (X ++ []) = secsT a c := by
    rw [HX.out, HP.out, HF.out, HI.out, HW.out, HE.out]
    simp only [secsT, s7, epochT, List.append_nil, List.append_assoc]
  have hlen : (secsT a c).length = 224 := by rw [← hfin]; simp only [List.length_append, HA.out, LW.out, LE.out, LI.out, LF.out, LP.out, LX.out, List.length_nil]
  rw [hfin] at hT3
  obtain ⟨Y, hY⟩ : ∃ y, y = secsT a c := ⟨_, rfl⟩
  have LY : Hid (Y.length = 224) := by show _ = _; rw [hY]; exact hlen
  have HY := Lib.hid hY
  rw [← hY] at hT3
  clear hfin hlen hY
  have lT := hT3.lt
  go_wp2_with (first | ((with_reducible show wpList _ _ _ (⟨some 43, _, _, _, _, _⟩ :: _) _ _); refine wpList_loadBlk rfl 129 (.tmp 7) rfl (w.heap.size + 1 + 1) (by rfl) _ _ _ hT3 Tryz.underlying129 rfl (by rw [bv_size, LY.out]; exact Tryz.sizeSecs) ?_) | ((with_reducible show wpList _ _ _ (⟨none, Op.store _ (.tmp 6) _, _, _, _, _⟩ :: _) _ _); refine wpList_storeBlk rfl 129 (.tmp 6) (.tmp 43) rfl (w.heap.size + 1) (Y.map bv).toArray (by rfl) (by rfl) _ _ hRt3 (by rw [bv_size, LY.out]; exact Tryz.sizeSecs) (by rw [bv_size, LY.out, hz224]) (bv_all _) ?_; intro w9 hB9 g9; have h9 := hbt3.trans (grown_below g9 (by omega) hbt3.size)))
  refine ret_blk rfl (w.heap.size + 1) _ _ _ (by rfl) hB9 Tryz.underlying129 rfl (by rw [bv_size, LY.out]; exact Tryz.sizeSecs) rfl ?_
  rw [← HY.out]
  exact ⟨rfl, h9⟩
end Go.Proofs.YtjlpdbaknhbgdaaGreat
