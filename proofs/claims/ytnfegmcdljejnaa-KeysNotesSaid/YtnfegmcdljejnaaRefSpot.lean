/-
  bevyref11.Spot.
-/
import Derived.Test.YtnfegmcdljejnaaRefTag
set_option linter.unusedSimpArgs false
set_option linter.unusedVariables false
namespace Go.Proofs.Ytnfegmcdljejnaa
open Go.RowKit

theorem four_cons (h : List UInt8) (hl : 4 ≤ h.length) : ∃ a b c d l, h = a :: b :: c :: d :: l := by
  rcases h with _ | ⟨a, _ | ⟨b, _ | ⟨c, _ | ⟨d, l⟩⟩⟩⟩
  · simp at hl
  · simp at hl
  · simp at hl
  · simp at hl
  · exact ⟨a, b, c, d, l, rfl⟩
/-- The spot of a core. -/
def spotT (core : List UInt8) : Nat :=
  let h := sha ([115, 112, 111, 116] ++ core)
  (h.getD 0 0).toNat * 16777216 + (h.getD 1 0).toNat * 65536 + (h.getD 2 0).toNat * 256 + (h.getD 3 0).toNat

set_option maxHeartbeats 4000000 in
set_option maxRecDepth 100000 in
theorem RefSpot_calls (c : List UInt8) (w : World) (hc : c.length ≤ 5000) :
    Calls Try.prog 29 #[.string (str c)] w fun e w' => e = .returned (.int .i64 (spotT c)) ∧ Below w.heap.size w w' := by
  have hstr : ((⟨#[115, 112, 111, 116]⟩ : ByteArray) ++ str c) = str ([115, 112, 111, 116] ++ c) := by
    rw [← str_append]; rfl
  go_enter Try.func29, Try.ntmps29
  go_wp2_with fail
  refine (RefSum_calls (115 :: 112 :: 111 :: 116 :: c) _ (by simp; omega)).mono ?_
  rintro e w1 ⟨rfl, b1⟩
  have hsz := b1.size
  clear hstr
  have hlen : (sha (115 :: 112 :: 111 :: 116 :: c)).length = 32 := sha_len _
  have hsp : spotT c = ((sha (115 :: 112 :: 111 :: 116 :: c)).getD 0 0).toNat * 16777216 + ((sha (115 :: 112 :: 111 :: 116 :: c)).getD 1 0).toNat * 65536 + ((sha (115 :: 112 :: 111 :: 116 :: c)).getD 2 0).toNat * 256 + ((sha (115 :: 112 :: 111 :: 116 :: c)).getD 3 0).toNat := by simp only [spotT, List.cons_append, List.nil_append]
  generalize sha (115 :: 112 :: 111 :: 116 :: c) = h at hlen hsp
  obtain ⟨h0, h1, h2, h3, l, rfl⟩ := four_cons h (by rw [hlen]; omega)
  simp only [List.getD_cons_zero, List.getD_cons_succ] at hsp
  have hN := Blk.new w1 Z32 22
  have H32 := Lib.hid hlen
  have ht0 := h0.toNat_lt
  have ht1 := h1.toNat_lt
  have ht2 := h2.toNat_lt
  have ht3 := h3.toNat_lt
  clear hlen
  go_wp2_with ((with_reducible show wpList _ _ _ (⟨none, Op.store _ (.tmp 3) _, _, _, _, _⟩ :: _) _ _); refine wpList_storeBlk rfl 22 (.tmp 3) (.tmp 6) rfl w1.heap.size ((h0 :: h1 :: h2 :: h3 :: l).map bv).toArray (by rfl) (by rfl) _ _ hN (by rw [bv_size, H32.out]; exact Try.sizeA32) (by rw [bv_size, H32.out, Z32_size]) (bv_all _) ?_; intro w2 hD2 g2; have hc0 : w2.cell? ⟨w1.heap.size, 0, none⟩ = some (.int .u8 (h0.toNat : Int)) := hD2.cell 0 _ rfl; have hc1 : w2.cell? ⟨w1.heap.size, 1, none⟩ = some (.int .u8 (h1.toNat : Int)) := hD2.cell 1 _ rfl; have hc2 : w2.cell? ⟨w1.heap.size, 2, none⟩ = some (.int .u8 (h2.toNat : Int)) := hD2.cell 2 _ rfl; have hc3 : w2.cell? ⟨w1.heap.size, 3, none⟩ = some (.int .u8 (h3.toNat : Int)) := hD2.cell 3 _ rfl; have hb3 : Hid (Below w.heap.size w w2) := below_new (b1.alloc b1.size _) g2 (by omega) (by simp; omega); clear hN hD2 g2 b1)
  refine bodyPost_ret (v := .int .i64 ((h0.toNat : Int) * 16777216 + h1.toNat * 65536 + h2.toNat * 256 + h3.toNat)) (by simp [results, Try.f29, go_sem]) rfl ⟨?_, hb3.out⟩
  rw [hsp]
  congr 1
end Go.Proofs.Ytnfegmcdljejnaa
