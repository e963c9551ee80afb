/-
  keys.Spot.
-/
import Derived.Test.YtnfegmcdljejnaaRefSpot
set_option linter.unusedSimpArgs false
set_option linter.unusedVariables false
namespace Go.Proofs.Ytnfegmcdljejnaa
open Go.RowKit

theorem i64_or_nat (a b : Nat) (ha : a < 2 ^ 62) (hb : b < 2 ^ 62) : bits BinOp.or IntKind.i64 (a : Int) (b : Int) = ((a ||| b : Nat) : Int) := by
  have hx : a ||| b < 2 ^ 62 := Nat.or_lt_two_pow ha hb
  show IntKind.i64.wrap ((BitVec.ofInt 64 (a : Int) ||| BitVec.ofInt 64 (b : Int)).toNat : Int) = _
  have e1 : (BitVec.ofInt 64 (a : Int)).toNat = a := by rw [BitVec.toNat_ofInt]; omega
  have e2 : (BitVec.ofInt 64 (b : Int)).toNat = b := by rw [BitVec.toNat_ofInt]; omega
  rw [BitVec.toNat_or, e1, e2, IntKind.wrap_i64]
  omega
theorem or_join (A b : Nat) (hA : A < 4294967296) (hb : b < 256) : bits BinOp.or IntKind.i64 ((A * 256 : Nat) : Int) (b : Int) = ((A * 256 + b : Nat) : Int) := by
  rw [i64_or_nat _ _ (by omega) (by omega)]
  have := Nat.two_pow_add_eq_or_of_lt (i := 8) hb A
  rw [show A * 256 = 2 ^ 8 * A by omega, this]
set_option maxHeartbeats 4000000 in
set_option maxRecDepth 100000 in
theorem Spot_calls (c : List UInt8) (w : World) (hc : c.length ≤ 5000) :
    Calls Try.prog 28 #[.string (str c)] w fun e w' => e = .returned (.int .i64 (spotT c)) ∧ Below w.heap.size w w' := by
  go_enter Try.func28, Try.ntmps28
  go_wp2_with fail
  have hst : StrsAt (w.alloc (.cells #[.string ⟨#[115, 112, 111, 116]⟩, .string (str c)] 9)) (some ⟨w.heap.size, 0, none⟩) 2 [[115, 112, 111, 116], c] := StrsAt.blk [[115, 112, 111, 116], c] (Blk.new w #[.string (str [115, 112, 111, 116]), .string (str c)] 9)
  refine (Sum_calls _ 2 2 [[115, 112, 111, 116], c] _ hst (by simp; omega) (by omega)).mono ?_
  rintro e w1 ⟨rfl, b1⟩
  simp only [List.flatten_cons, List.flatten_nil, List.append_nil, List.cons_append, List.nil_append]
  have hsz := b1.size
  have hsz0 : (w.alloc (.cells #[.string ⟨#[115, 112, 111, 116]⟩, .string (str c)] 9)).heap.size = w.heap.size + 1 := by simp
  rw [hsz0] at hsz
  have hlen : (sha (115 :: 112 :: 111 :: 116 :: c)).length = 32 := sha_len _
  have hsp : spotT c = ((sha (115 :: 112 :: 111 :: 116 :: c)).getD 0 0).toNat * 16777216 + ((sha (115 :: 112 :: 111 :: 116 :: c)).getD 1 0).toNat * 65536 + ((sha (115 :: 112 :: 111 :: 116 :: c)).getD 2 0).toNat * 256 + ((sha (115 :: 112 :: 111 :: 116 :: c)).getD 3 0).toNat := by simp only [spotT, List.cons_append, List.nil_append]
  generalize sha (115 :: 112 :: 111 :: 116 :: c) = h at hlen hsp
  obtain ⟨h0, h1, h2, h3, l, rfl⟩ := four_cons h (by rw [hlen]; omega)
  simp only [List.getD_cons_zero, List.getD_cons_succ] at hsp
  have hN := Blk.new w1 Z32 23
  have H32 := Lib.hid hlen
  have ht0 := h0.toNat_lt
  have ht1 := h1.toNat_lt
  have ht2 := h2.toNat_lt
  have ht3 := h3.toNat_lt
  clear hlen
  have b0 : Hid (Below w.heap.size w w1) := ((Below.refl _ _).alloc (Nat.le_refl _) _).trans (b1.mono (by simp))
  clear b1 hst hsz0
  go_wp2_with ((with_reducible show wpList _ _ _ (⟨none, Op.store _ (.tmp 3) _, _, _, _, _⟩ :: _) _ _); refine wpList_storeBlk rfl 23 (.tmp 3) (.tmp 9) rfl w1.heap.size ((h0 :: h1 :: h2 :: h3 :: l).map bv).toArray (by rfl) (by rfl) _ _ hN (by rw [bv_size, H32.out]; exact Try.sizeHash) (by rw [bv_size, H32.out, Z32_size]) (bv_all _) ?_; intro w2 hD2 g2; have hc0 : w2.cell? ⟨w1.heap.size, 0, none⟩ = some (.int .u8 (h0.toNat : Int)) := hD2.cell 0 _ rfl; have hc1 : w2.cell? ⟨w1.heap.size, 1, none⟩ = some (.int .u8 (h1.toNat : Int)) := hD2.cell 1 _ rfl; have hc2 : w2.cell? ⟨w1.heap.size, 2, none⟩ = some (.int .u8 (h2.toNat : Int)) := hD2.cell 2 _ rfl; have hc3 : w2.cell? ⟨w1.heap.size, 3, none⟩ = some (.int .u8 (h3.toNat : Int)) := hD2.cell 3 _ rfl; have hb3 : Hid (Below w.heap.size w w2) := below_new (b0.out.alloc b0.out.size _) g2 (by omega) (by simp; omega); clear hN hD2 g2)
  go_loopw [4, 6, 12, 13, 14, 15, 16, 17, 18, 19, 20, 21] (fun n b i _ _ _ _ _ _ _ _ _ wr => wr = w2 ∧ ((i = .int .i64 0 ∧ n = .int .i64 0) ∨ (i = .int .i64 1 ∧ n = .int .i64 h0.toNat) ∨ (i = .int .i64 2 ∧ n = .int .i64 (h0.toNat * 256 + h1.toNat : Nat)) ∨ (i = .int .i64 3 ∧ n = .int .i64 ((h0.toNat * 256 + h1.toNat) * 256 + h2.toNat : Nat)) ∨ (i = .int .i64 4 ∧ n = .int .i64 (((h0.toNat * 256 + h1.toNat) * 256 + h2.toNat) * 256 + h3.toNat : Nat)))) (fun _ _ i _ _ _ _ _ _ _ _ _ _ => 4 - (intOf i).toNat)
  case atStart => exact ⟨rfl, Or.inl ⟨rfl, rfl⟩⟩
  case round =>
    obtain ⟨rfl, hrel⟩ := hrel
    rcases hrel with ⟨rfl, rfl⟩ | ⟨rfl, rfl⟩ | ⟨rfl, rfl⟩ | ⟨rfl, rfl⟩ | ⟨rfl, rfl⟩
    · have o0 := or_join 0 h0.toNat (by omega) (by omega)
      go_wp2_with fail
      refine ⟨⟨trivial, Or.inr (Or.inl ⟨rfl, ?_⟩)⟩, by decide⟩
      congr 1; simpa using o0
    · have o1 := or_join h0.toNat h1.toNat (by omega) (by omega)
      go_wp2_with fail
      refine ⟨⟨trivial, Or.inr (Or.inr (Or.inl ⟨rfl, ?_⟩))⟩, by decide⟩
      exact congrArg _ o1
    · have o2 := or_join (h0.toNat * 256 + h1.toNat) h2.toNat (by omega) (by omega)
      go_wp2_with fail
      refine ⟨⟨trivial, Or.inr (Or.inr (Or.inr (Or.inl ⟨rfl, ?_⟩)))⟩, by decide⟩
      exact congrArg _ o2
    · have o3 := or_join ((h0.toNat * 256 + h1.toNat) * 256 + h2.toNat) h3.toNat (by omega) (by omega)
      go_wp2_with fail
      refine ⟨⟨trivial, Or.inr (Or.inr (Or.inr (Or.inr ⟨rfl, ?_⟩)))⟩, by decide⟩
      exact congrArg _ o3
    · go_wp2_with fail
      refine bodyPost_ret (v := .int .i64 (((((h0.toNat * 256 + h1.toNat) * 256 + h2.toNat) * 256 + h3.toNat : Nat) : Int))) (by simp [results, Try.f28, go_sem]) rfl ⟨?_, hb3.out⟩
      rw [hsp]
      congr 2; omega
end Go.Proofs.Ytnfegmcdljejnaa
