/-
  ppr: Seeds.
  Slices of digests, as they lie in memory.
-/
import Derived.Test.YtlomofcnknpciaaHashAt
import Derived.Test.YtlomofcnknpciaaPprWalk
set_option linter.unusedSimpArgs false
set_option linter.unusedVariables false
namespace Go.Proofs.Ytlomofcnknpciaa
open Go.RowKit

theorem Try.infoHash : (Try.prog.info? 23).map (fun i => (i.zero, i.size, i.bytes)) = some (some (.agg Z32), 32, 32) := by kernel_rfl
theorem SeedsNil_calls (w : World) : Calls Try.prog 24 #[.pointer none] w fun e w' => e = .returned (.slice none 0 0) ∧ Below w.heap.size w w' := by
  go_enter Try.func24, Try.ntmps24
  go_wp2
  go_returns
  exact ⟨rfl, Below.refl _ _⟩
set_option maxHeartbeats 4000000 in
set_option maxRecDepth 100000 in
theorem Seeds_calls (r B : Nat) (l : List Sd) (w : World) (h : RowAt w r B l) (hn : l.length ≤ 1000000) :
    Calls Try.prog 24 #[.pointer (some ⟨r, 0, none⟩)] w fun e w' => ∃ v, e = .returned v ∧ w'.ownsRow w.heap.size 23 32 v l.length (l.flatMap fun s => s.h.map bv) ∧ Below w.heap.size w w' := by
  obtain ⟨v0, h1, h2⟩ := h
  obtain ⟨ao, c, rfl, hc⟩ := h2.slice
  have hc1 := h1.cell 1 _ rfl
  have H1 := Lib.hid h1
  have H2 := Lib.hid h2
  obtain ⟨i0, hi0, hiz, his, hib⟩ := info_parts Try.infoHash
  have HII := Lib.hid (⟨hi0, hiz, his, hib⟩ : _ ∧ _ ∧ _ ∧ _)
  clear h1 h2 hi0 hiz his hib
  go_enter Try.func24, Try.ntmps24
  go_wp2_with fail
  go_loopw [3, 13] (fun x i wr => ∃ (k : Nat) (v : Value), k ≤ l.length ∧ x = v ∧ i = .int .i64 k ∧ Hid (wr.ownsRow w.heap.size 23 32 v k ((l.take k).flatMap fun s => s.h.map bv)) ∧ Hid (Below w.heap.size w wr)) (fun _ i _ => l.length - (intOf i).toNat)
  case atStart => exact ⟨0, _, by omega, rfl, rfl, World.ownsRow_nil _ _ _ _, Below.refl _ _⟩
  case round =>
    obtain ⟨k, v, hk, rfl, rfl, hO, hB⟩ := hrel
    clear hc1
    have h2 := H2.out.below hB.out
    by_cases hlt : k < l.length
    · obtain ⟨g, rfl⟩ : ∃ g, ao = some ⟨g, 0, none⟩ := by
        rcases h2.2 with ⟨h3, h4⟩ | ⟨g, c', h3, h4, h5⟩
        · rw [h4] at hlt; simp at hlt
        · simp at h3; exact ⟨g, h3.1⟩
      obtain ⟨s, hs⟩ : ∃ s, l[k]? = some s := ⟨l[k], List.getElem?_eq_getElem hlt⟩
      have hs32 : s.h.length = 32 := h2.1 s (List.mem_of_getElem? hs)
      have hrg := h2.range k s hs
      rw [Nat.mul_comm] at hrg
      have HS := Lib.hid hs32
      have HRG := Lib.hid hrg
      have hnx : Hid (((l.take (k + 1)).flatMap fun s => s.h.map bv) = ((l.take k).flatMap fun s => s.h.map bv) ++ s.h.map bv) := by
        show _ = _
        obtain ⟨h3, h4⟩ := List.getElem?_eq_some_iff.1 hs
        rw [List.take_succ_eq_append_getElem h3, List.flatMap_append, h4]
        simp
      have hN := Blk.new wr z34.toArray 135
      have hb2 := hB.out.alloc hB.out.size (.cells z34.toArray 135)
      have hO2 := Lib.hid (hO.out.alloc (.cells z34.toArray 135))
      have hws := hB.out.size
      clear hrg hs32 hs h2
      go_wp2_with (first | ((with_reducible show wpList _ _ _ (⟨some 16, _, _, _, _, _⟩ :: _) _ _); refine wpList_load_mid rfl 135 (.tmp 15) rfl g (k * 34) (by rfl) s.cells _ HRG.out Try.underlying135 rfl (by rw [Sd.cells_len s HS.out]; exact Try.sizeSeed) ?_) | ((with_reducible show wpList _ _ _ (⟨none, Op.store _ (.tmp 5) _, _, _, _, _⟩ :: _) _ _); refine wpList_storeBlk rfl 135 (.tmp 5) (.tmp 16) rfl wr.heap.size s.cells.toArray (by rfl) (by rfl) _ _ hN (by rw [List.size_toArray, Sd.cells_len s HS.out]; exact Try.sizeSeed) (by rw [show s.cells.toArray.size = 34 from by rw [List.size_toArray]; exact Sd.cells_len s HS.out]; rfl) s.cells_all ?_; intro w3 hS3 g3; have hb3 : Below w.heap.size w w3 := below_new hb2 g3 hws hb2.size; have hO3 := Lib.hid (hO2.out.kept g3 (.inr (own_ne hO2.out hN (by decide)))); clear hN hb2 g3 hO2) | ((with_reducible show wpList _ _ _ (⟨some 19, _, _, _, _, _⟩ :: _) _ _); refine wpList_load_mid rfl 23 (.tmp 18) rfl wr.heap.size 2 (by rfl) (s.h.map bv) _ (sd_range hS3) Try.underlying23 rfl (by rw [List.length_map, HS.out]; exact Try.sizeHash) ?_) | ((with_reducible show wpList _ _ _ (⟨some 20, _, _, _, _, _⟩ :: _) _ _); refine wpList_bsOne rfl 34 23 (.tmp 19) rfl (s.h.map bv).toArray (by rfl) Try.underlying34 _ 32 Try.zsHash (by rw [bv_size]; exact HS.out) (by omega) (by omega) ?_) | ((with_reducible show wpList _ _ _ (⟨some 21, _, _, _, _, _⟩ :: _) _ _); refine wpList_append_own _ rfl _ _ 34 rfl w.heap.size 23 i0 (.agg Z32) 32 32 Try.underlying34 HII.out.1 HII.out.2.1 HII.out.2.2.1 HII.out.2.2.2 rfl (by decide) _ _ _ rfl (hO3.out.alloc _) ⟨w3.heap.size, 0, none⟩ 1 1 (s.h.map bv) rfl (by rw [List.length_map, HS.out]) (fun j u hj => by rw [Addr.add_lit, Nat.zero_add]; exact (Blk.new _ _ _).cell j u (by rw [List.getElem?_toArray]; exact hj)) (bv_one _) (by unfold maxLen; omega) (by omega) (by have := hb3.size; simp; omega) ?_))
      intro v4 w4 hO4 g4 _
      have HO4 := Lib.hid hO4
      have hb4 := Lib.hid ((hb3.alloc hb3.size (.cells (s.h.map bv).toArray 23)).grown g4 (by have := hb3.size; simp; omega) (fun q e => (hO3.out.lt q e).1))
      clear hO4 g4 hO3 hb3 hS3
      go_wp2_with fail
      go_roundw
      case rel => exact ⟨k + 1, _, by omega, rfl, by go_num, by rw [hnx.out]; exact HO4.out, hb4.out⟩
      case measure => simp [intOf]; omega
    · have hke : k = l.length := by omega
      have hO2 : Hid (wr.ownsRow w.heap.size 23 32 u3 l.length (l.flatMap fun s => s.h.map bv)) := by
        have := hO.out
        rw [hke, List.take_length] at this
        exact this
      clear hO
      go_wp2_with fail
      go_returns
      exact ⟨_, rfl, hO2.out, hB.out⟩
end Go.Proofs.Ytlomofcnknpciaa
set_option linter.unusedSimpArgs false
set_option linter.unusedVariables false
namespace Go.Proofs.Ytlomofcnknpciaa
open Go.RowKit

theorem shl1 (B : Nat) (h : B ≤ 32) : IntKind.u64.wrap ((2 : Int) ^ B) = ((2 ^ B : Nat) : Int) := by
  have hpow : (2 ^ B : Nat) ≤ 4294967296 := Nat.pow_le_pow_right (n := 2) (by omega) h
  have : ((2 : Int) ^ B) = ((2 ^ B : Nat) : Int) := by simp
  rw [this]
  generalize (2 ^ B : Nat) = N at hpow
  unfold IntKind.wrap
  simp [IntKind.bits, IntKind.signed]
  omega
theorem u64_nat (p : Int) : ∃ u : Nat, IntKind.u64.wrap p = (u : Int) ∧ u < 18446744073709551616 := by
  refine ⟨(p % 18446744073709551616).toNat, ?_, by omega⟩
  unfold IntKind.wrap
  simp [IntKind.bits, IntKind.signed]
  omega
end Go.Proofs.Ytlomofcnknpciaa
