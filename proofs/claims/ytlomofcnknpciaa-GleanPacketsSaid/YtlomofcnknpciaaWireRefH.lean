/-
  The document's reader: Hash.
-/
import Derived.Test.YtlomofcnknpciaaF0
import Derived.Test.YtlomofcnknpciaaWireRefR2
set_option linter.unusedSimpArgs false
set_option linter.unusedVariables false
namespace Go.Proofs.Ytlomofcnknpciaa
open Go.RowKit

theorem rHash_raw (s : List UInt8 × Int) : rHash s = (if (rRaw 32 s).1.length = 32 then (rRaw 32 s).1 else List.replicate 32 0, (rRaw 32 s).2) ∧ ((rRaw 32 s).1.length = 32 ∨ (rRaw 32 s).1 = []) := by
  unfold rHash rRaw
  by_cases h : s.2 = 0
  · simp only [h]
    simp only [if_neg (show ¬ ((0 : Int) ≠ 0) by simp)]
    by_cases hl : s.1.length < 32
    · simp [if_pos hl]
    · simp only [if_neg hl, List.length_take]
      rw [if_pos (by omega)]
      exact ⟨rfl, .inl (by omega)⟩
  · simp [h]

set_option maxHeartbeats 1000000 in
theorem RefRHash_calls (b : Nat) (s : List UInt8 × Int) (w : World) (h : RefIs w b s) (hm : s.1.length ≤ 1099511627776) :
    Calls Try.prog 132 #[.pointer (some ⟨b, 0, none⟩)] w fun e w' => e = .returned (.agg ((rHash s).1.map bv).toArray) ∧ RefIs w' b (rHash s).2 ∧ w.grownBy w' (some b) := by
  have hbw : b < w.heap.size := Blk.lt h
  have hB0 : Blk ((w.alloc (.cells Z32 22)).alloc (.cells Z32 22)) w.heap.size Z32 22 := (Blk.new _ _ _).alloc _
  have hB1 : Blk ((w.alloc (.cells Z32 22)).alloc (.cells Z32 22)) (w.heap.size + 1) Z32 22 := by have := Blk.new (w.alloc (.cells Z32 22)) Z32 22; simpa using this
  have hR : RefIs ((w.alloc (.cells Z32 22)).alloc (.cells Z32 22)) b s := Blk.alloc (Blk.alloc h _) _
  have hG : w.grownBy ((w.alloc (.cells Z32 22)).alloc (.cells Z32 22)) (some b) := grown_alloc (grown_alloc (World.grownBy.refl _ _) _) _
  obtain ⟨hr1, hr2⟩ := rHash_raw s
  have HR1 := Lib.hid hr1
  have HR2 := Lib.hid hr2
  clear hr1 hr2
  go_enter Try.func132, Try.ntmps132
  go_wp2_with fail
  generalize (w.alloc (.cells Z32 22)).alloc (.cells Z32 22) = W0 at hB0 hB1 hR hG ⊢
  refine (RefRRaw_calls b s 32 _ hR hm).mono ?_
  rintro e w1 ⟨rfl, hR1, hg⟩
  replace hB0 := hB0.grown hg (by simp; omega)
  replace hB1 := hB1.grown hg (by simp; omega)
  replace hG := grown_trans hG hg
  obtain ⟨r, hr⟩ : ∃ r, r = rRaw 32 s := ⟨_, rfl⟩
  have HH : Hid (rHash s = (if r.1.length = 32 then r.1 else List.replicate 32 0, r.2)) := by show _ = _; rw [hr]; exact HR1.out
  have HX : Hid (r.1.length = 32 ∨ r.1 = []) := by show _ ∨ _; rw [hr]; exact HR2.out
  rw [← hr] at hR1 ⊢
  clear hr HR1 HR2 hg hR h
  obtain ⟨x, st⟩ := r
  have hx32 : x.length ≤ 32 := by rcases HX.out with e | e <;> simp at e <;> simp [e]
  have hZ : Z32 = fillB 32 0 x := by rw [Z32_eq]; simp [fillB]
  rw [hZ] at hB1
  clear hZ
  obtain ⟨C, hC⟩ : ∃ C, C = w.heap.size := ⟨_, rfl⟩
  rw [← hC] at hB0 hB1 hbw ⊢
  have HC := Lib.hid hC
  clear hC
  go_wp2_with fail
  go_loopw [5] (fun i wr => ∃ k : Nat, k ≤ x.length ∧ i = .int .i64 k ∧ Blk wr (C + 1) (fillB 32 k x) 22 ∧ Blk wr C Z32 22 ∧ RefIs wr b st ∧ w.grownBy wr (some b)) (fun i _ => x.length - (intOf i).toNat)
  case atStart => exact ⟨0, by omega, rfl, hB1, hB0, hR1, hG⟩
  case round =>
    obtain ⟨k, hk, rfl, hA, hZ, hR, hG⟩ := hrel
    by_cases hlt : k < x.length
    · have hcell : wr.cell? ⟨C + 1, k, none⟩ = some (bv 0) := hA.cell k _ (fillB_get 32 k x hk (by omega))
      have hfr := hA.free k
      unfold bv at hcell
      go_wp2_with fail
      go_roundw
      case rel =>
        refine ⟨k + 1, by omega, by go_num, ?_, hZ.setOther _ _ (by simp), Blk.setOther hR _ _ (by simp; omega), ?_⟩
        · have := hA.set k (bv x[k])
          rw [fillB_set 32 k x hlt (by omega)] at this
          exact this
        · have h2 := grown_set (World.grownBy.refl wr (some (C + 1))) k (bv x[k])
          exact grown_new hG h2 (by rw [HC.out]; omega)
      case measure => simp [intOf]; omega
    · obtain rfl : k = x.length := by omega
      have hfin : ∃ y : List UInt8, y.length = 32 ∧ fillB 32 x.length x = (y.map bv).toArray ∧ (rHash s) = (y, st) := by
        rcases HX.out with e | e
        · replace e : x.length = 32 := e
          refine ⟨x, e, by rw [e]; exact fillB_all 32 x e, by rw [HH.out]; simp [e]⟩
        · replace e : x = [] := e
          subst e
          exact ⟨List.replicate 32 0, by simp, by simp [fillB], by rw [HH.out]; simp⟩
      obtain ⟨y, hy, hf, hs⟩ := hfin
      rw [hf] at hA
      have HY := Lib.hid hy
      have HS := Lib.hid hs
      clear hf hy hs HH HX
      go_wp2_with (first | ((with_reducible show wpList _ _ _ (⟨some 19, _, _, _, _, _⟩ :: _) _ _); refine wpList_loadBlk rfl 22 (.tmp 3) rfl (C + 1) (by rfl) _ _ _ hA Try.underlying22 rfl (by rw [bv_size, HY.out]; exact Try.sizeA32) ?_) | ((with_reducible show wpList _ _ _ (⟨none, Op.store _ _ _, _, _, _, _⟩ :: _) _ _); refine wpList_storeBlk rfl 22 (.tmp 2) (.tmp 19) rfl C (y.map bv).toArray (by rfl) (by rfl) _ _ hZ (by rw [bv_size, HY.out]; exact Try.sizeA32) (by rw [bv_size, HY.out, Z32_size]) (bv_all y) ?_; intro w3 hB3 hg3; have h3 := Blk.grown hR hg3 (by simp; omega); have hG3 := grown_new hG hg3 (by rw [HC.out]; omega); clear hR hG hg3 hZ))
      refine ret_blk rfl C _ _ _ (by rfl) hB3 Try.underlying22 rfl (by rw [bv_size, HY.out]; exact Try.sizeA32) rfl ?_
      rw [HS.out]
      exact ⟨rfl, h3, hG3⟩
end Go.Proofs.Ytlomofcnknpciaa
