/-
  The document's mac: Code.
-/
import Derived.Test.YtnfegmcdljejnaaMacCode
import Derived.Test.YtnfegmcdljejnaaRefSum
set_option linter.unusedSimpArgs false
set_option linter.unusedVariables false
namespace Go.Proofs.Ytnfegmcdljejnaa
open Go.RowKit

theorem blk_new1 (w : World) (o : Obj) (cs : Array Value) (t : TypeId) : Blk ((w.alloc o).alloc (.cells cs t)) (w.heap.size + 1) cs t := by
  have := Blk.new (w.alloc o) cs t
  rwa [show (w.alloc o).heap.size = w.heap.size + 1 by simp] at this
theorem padX_take (c : UInt8) (key : List UInt8) (k : Nat) (h : k < 64) : (padX c key).take (k + 1) = (padX c key).take k ++ [key.getD k 0 ^^^ c] := by
  rw [List.take_succ_eq_append_getElem (by rw [padX_len]; exact h)]
  simp [padX]

set_option maxHeartbeats 4000000 in
set_option maxRecDepth 100000 in
theorem RefCode_calls (key text : List UInt8) (w : World) (hk : key.length ≤ 64) (hl : text.length ≤ 274877906944) :
    Calls Try.prog 89 #[.string (str key), .string (str text)] w fun e w' => e = .returned (.agg ((hmac key text).map bv).toArray) ∧ Below w.heap.size w w' := by
  have hdec : decide ((64 : Int) < (key.length : Int)) = false := by simp; omega
  have hR := Blk.new w Z32 22
  have hB : Below w.heap.size w (w.alloc (.cells Z32 22)) := (Below.refl _ _).alloc (Nat.le_refl _) _
  have HR := Lib.hid hR
  have HB := Lib.hid hB
  clear hR hB
  go_enter Try.func89, Try.ntmps89
  go_wp2_with fail
  go_loopw [6, 7, 8, 9] (fun x y j _ wr => ∃ k : Nat, k ≤ 64 ∧ j = .int .i64 k ∧ x = .string (str ((padX 54 key).take k)) ∧ y = .string (str ((padX 92 key).take k)) ∧ Blk wr w.heap.size Z32 22 ∧ Hid (Below w.heap.size w wr)) (fun _ _ j _ _ => 64 - (intOf j).toNat)
  case atStart => exact ⟨0, by omega, rfl, rfl, rfl, HR.out, HB⟩
  case round =>
    obtain ⟨k, hk64, rfl, rfl, rfl, hR, hB⟩ := hrel
    clear HR HB
    by_cases hlt : k < 64
    · have p1 := Lib.hid (padX_take 54 key k hlt)
      have p2 := Lib.hid (padX_take 92 key k hlt)
      have l1 : ((padX 54 key).take k).length ≤ 64 := by rw [List.length_take, padX_len]; omega
      have l2 : ((padX 92 key).take k).length ≤ 64 := by rw [List.length_take, padX_len]; omega
      generalize (padX 54 key).take k = a1 at p1 l1 ⊢
      generalize (padX 92 key).take k = a2 at p2 l2 ⊢
      by_cases hkl : k < key.length
      · have hget : key.getD k 0 = key[k] := by rw [List.getD_eq_getElem?_getD, List.getElem?_eq_getElem hkl]; rfl
        rw [hget] at p1 p2
        have x1 := bxor key[k] 54
        have x2 := bxor key[k] 92
        have X1 : Hid ([Value.int .u8 (bits BinOp.xor IntKind.u8 (key[k].toNat : Int) 54)] = [key[k] ^^^ 54].map bv) := by show _ = _; simp only [List.map_cons, List.map_nil, bv]; rw [← x1]; rfl
        have X2 : Hid ([Value.int .u8 (bits BinOp.xor IntKind.u8 (key[k].toNat : Int) 92)] = [key[k] ^^^ 92].map bv) := by show _ = _; simp only [List.map_cons, List.map_nil, bv]; rw [← x2]; rfl
        clear hget x1 x2
        go_wp2_with (first | ((with_reducible show wpList _ _ _ (⟨some 33, _, _, _, _, _⟩ :: _) _ _); refine wpList_convBlk rfl 120 9 5 _ rfl Try.underlying120 Try.underlying5 Try.underlying9 wr.heap.size 1 1 (by rfl) _ _ (Blk.new _ _ _) [key[k] ^^^ 54] rfl X1.out ?_) | ((with_reducible show wpList _ _ _ (⟨some 39, _, _, _, _, _⟩ :: _) _ _); refine wpList_convBlk rfl 120 9 5 _ rfl Try.underlying120 Try.underlying5 Try.underlying9 (wr.heap.size + 1) 1 1 (by rfl) _ _ (blk_new1 _ _ _ _) [key[k] ^^^ 92] rfl X2.out ?_))
        go_roundw
        case rel =>
          refine ⟨k + 1, by omega, by go_num, by rw [p1.out]; try rfl, by rw [p2.out]; try rfl, (hR.alloc _).alloc _, ?_⟩
          exact (hB.out.alloc hB.out.size _).alloc (by simp; have := hB.out.size; omega) _
        case measure => simp [intOf]; omega
      · have hget : key.getD k 0 = 0 := by rw [List.getD_eq_getElem?_getD, List.getElem?_eq_none (by omega)]; rfl
        rw [hget] at p1 p2
        have hkl' : key.length ≤ k := by omega
        clear hget hkl
        go_wp2_with (first | ((with_reducible show wpList _ _ _ (⟨some 33, _, _, _, _, _⟩ :: _) _ _); refine wpList_convBlk rfl 120 9 5 _ rfl Try.underlying120 Try.underlying5 Try.underlying9 wr.heap.size 1 1 (by rfl) _ _ (Blk.new _ _ _) [0 ^^^ 54] rfl (by rfl) ?_) | ((with_reducible show wpList _ _ _ (⟨some 39, _, _, _, _, _⟩ :: _) _ _); refine wpList_convBlk rfl 120 9 5 _ rfl Try.underlying120 Try.underlying5 Try.underlying9 (wr.heap.size + 1) 1 1 (by rfl) _ _ (blk_new1 _ _ _ _) [0 ^^^ 92] rfl (by rfl) ?_))
        go_roundw
        case rel =>
          refine ⟨k + 1, by omega, by go_num, by rw [p1.out]; try rfl, by rw [p2.out]; try rfl, (hR.alloc _).alloc _, ?_⟩
          exact (hB.out.alloc hB.out.size _).alloc (by simp; have := hB.out.size; omega) _
        case measure => simp [intOf]; omega
    · obtain rfl : k = 64 := by omega
      have e1 : (padX 54 key).take 64 = padX 54 key := List.take_of_length_le (by rw [padX_len]; omega)
      have e2 : (padX 92 key).take 64 = padX 92 key := List.take_of_length_le (by rw [padX_len]; omega)
      rw [e1, e2]
      have l1 := padX_len 54 key
      have l2 := padX_len 92 key
      obtain ⟨a1, h1⟩ : ∃ a, a = padX 54 key := ⟨_, rfl⟩
      obtain ⟨a2, h2⟩ : ∃ a, a = padX 92 key := ⟨_, rfl⟩
      rw [← h1] at l1
      rw [← h2] at l2
      rw [← h1, ← h2]
      have H1 := Lib.hid h1
      have H2 := Lib.hid h2
      have l1' : a1.length ≤ 64 := by omega
      have l2' : a2.length ≤ 64 := by omega
      have L1 := Lib.hid l1
      have L2 := Lib.hid l2
      clear e1 e2 h1 h2 l1 l2
      have hws : w.heap.size ≤ wr.heap.size := hB.out.size
      go_wp2_with fail
      refine (RefSum_calls (a1 ++ text) _ (by rw [List.length_append]; omega)).mono ?_
      rintro e w4 ⟨rfl, b4⟩
      have hR4 := Blk.below hR b4 (Blk.lt hR)
      have hB4 : Hid (Below w.heap.size w w4) := hB.out.trans (b4.mono hws)
      have h32 := sha_len (a1 ++ text)
      obtain ⟨x, hx⟩ : ∃ x, x = sha (a1 ++ text) := ⟨_, rfl⟩
      rw [← hx] at h32 ⊢
      have HX := Lib.hid hx
      have H32 := Lib.hid h32
      have hx32 : x.length ≤ 32 := by omega
      have hN4 := Blk.new w4 Z32 22
      have hR5 := Blk.alloc hR4 (.cells Z32 22)
      have hB5 : Below w.heap.size w (w4.alloc (.cells Z32 22)) := hB4.out.alloc hB4.out.size _
      have hs4 : w.heap.size < w4.heap.size := Blk.lt hR4
      clear hx h32 b4 hR hB hR4 hB4
      go_wp2_with (first | ((with_reducible show wpList _ _ _ (⟨none, Op.store _ (.tmp 10) _, _, _, _, _⟩ :: _) _ _); refine wpList_storeBlk rfl 22 (.tmp 10) (.tmp 44) rfl w4.heap.size (x.map bv).toArray (by rfl) (by rfl) _ _ hN4 (by rw [bv_size, H32.out]; exact Try.sizeA32) (by rw [bv_size, H32.out, Z32_size]) (bv_all _) ?_; intro w6 hH6 g6; have hR6 := Blk.grown hR5 g6 (by simp; omega); have hB6 : Hid (Below w.heap.size w w6) := below_new hB5 g6 (by omega) (by simp; omega); clear hN4 hR5 hB5 g6) | ((with_reducible show wpList _ _ _ (⟨some 47, _, _, _, _, _⟩ :: _) _ _); refine wpList_convBlk rfl 120 9 5 (.tmp 46) rfl Try.underlying120 Try.underlying5 Try.underlying9 w4.heap.size 32 32 (by rfl) _ _ hH6 x H32.out (List.take_of_length_le (by simp [H32.out])) ?_))
      refine (RefSum_calls (a2 ++ x) _ (by rw [List.length_append]; omega)).mono ?_
      rintro e w8 ⟨rfl, b8⟩
      have hR8 := Blk.below hR6 b8 (Blk.lt hR6)
      have hB8 : Below w.heap.size w w8 := hB6.out.trans (b8.mono hB6.out.size)
      have hfin : sha (a2 ++ x) = hmac key text := by rw [HX.out, H1.out, H2.out]; rfl
      rw [hfin]
      have h32 := Lib.hid (hmac_len key text)
      obtain ⟨y, hy⟩ : ∃ y, y = hmac key text := ⟨_, rfl⟩
      have HY := Lib.hid hy
      rw [← hy] at h32 ⊢
      clear hy hfin b8 hR6 hB6
      go_wp2_with ((with_reducible show wpList _ _ _ (⟨none, Op.store _ (.tmp 4) _, _, _, _, _⟩ :: _) _ _); refine wpList_storeBlk rfl 22 (.tmp 4) (.tmp 49) rfl w.heap.size (y.map bv).toArray (by rfl) (by rfl) _ _ hR8 (by rw [bv_size, h32.out]; exact Try.sizeA32) (by rw [bv_size, h32.out, Z32_size]) (bv_all _) ?_; intro w9 hB9 g9; have h9 := hB8.trans (grown_below g9 (Nat.le_refl _) hB8.size))
      refine ret_blk rfl w.heap.size _ _ _ (by rfl) hB9 Try.underlying22 rfl (by rw [bv_size, h32.out]; exact Try.sizeA32) rfl ?_
      rw [← HY.out]
      exact ⟨rfl, h9⟩
end Go.Proofs.Ytnfegmcdljejnaa
