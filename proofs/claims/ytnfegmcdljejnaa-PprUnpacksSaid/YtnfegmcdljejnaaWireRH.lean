/-
  The wire's reader: Hash.
-/
import Derived.Test.YtnfegmcdljejnaaWireRN
import Derived.Test.YtnfegmcdljejnaaShaSum
set_option linter.unusedSimpArgs false
set_option linter.unusedVariables false
namespace Go.Proofs.Ytnfegmcdljejnaa
open Go.RowKit

theorem rNum_nonneg (most : Int) (s : List UInt8 × Int) : 0 ≤ (rNum most s).1 := by
  unfold rNum
  split
  · simp
  · split
    · simp
    · split
      · simp
      · split
        · simp
        · split <;> simp
theorem rNum_len (most : Int) (s : List UInt8 × Int) : (rNum most s).2.1.length ≤ s.1.length := by
  unfold rNum
  split
  · simp
  · split
    · simp
    · rename_i c l h
      rw [h]
      split
      · simp
      · split
        · simp; omega
        · split <;> simp <;> omega
/-- Hash. -/
def rHash (s : List UInt8 × Int) : List UInt8 × (List UInt8 × Int) :=
  if s.2 ≠ 0 then (List.replicate 32 0, s) else if s.1.length < 32 then (List.replicate 32 0, (s.1, 2)) else (s.1.take 32, (s.1.drop 32, 0))
theorem Try.sizeU8 : (Try.prog.info? 5).map (·.size) = some 1 := by kernel_rfl
/-- What lies behind take, in Hash. -/
theorem hash_tail {Q : World → Prop} (hs : List UInt8) : hs.length = 32 → (hs.map bv).toArray.size = 32 := by intro h; simp [h]
theorem RHash_calls (b : Nat) (s : List UInt8 × Int) (w : World) (h : ReaderIs w b s) (hm : s.1.length ≤ 1099511627776) :
    Calls Try.prog 125 #[.pointer (some ⟨b, 0, none⟩)] w fun e w' => e = .returned (.agg ((rHash s).1.map bv).toArray) ∧ ReaderIs w' b (rHash s).2 ∧ w.grownBy w' (some b) := by
  obtain ⟨l, err⟩ := s
  have hbw : b < w.heap.size := Blk.lt h
  have hB0 : Blk ((w.alloc (.cells Z32 23)).alloc (.cells Z32 23)) w.heap.size Z32 23 := (Blk.new _ _ _).alloc _
  have hB1 : Blk ((w.alloc (.cells Z32 23)).alloc (.cells Z32 23)) (w.heap.size + 1) Z32 23 := by have := Blk.new (w.alloc (.cells Z32 23)) Z32 23; simpa using this
  have hR : ReaderIs ((w.alloc (.cells Z32 23)).alloc (.cells Z32 23)) b (l, err) := Blk.alloc (Blk.alloc h _) _
  have hG : w.grownBy ((w.alloc (.cells Z32 23)).alloc (.cells Z32 23)) (some b) := grown_alloc (grown_alloc (World.grownBy.refl _ _) _) _
  go_enter Try.func125, Try.ntmps125
  go_wp2_with fail
  generalize (w.alloc (.cells Z32 23)).alloc (.cells Z32 23) = W0 at hB0 hB1 hR hG ⊢
  by_cases he : err = 0
  · subst he
    by_cases hs : l.length < 32
    · have R : Hid (rHash (l, 0) = (List.replicate 32 0, (l, 2))) := by show _ = _; simp [rHash, hs]
      refine (takeShort_calls b l 32 _ hR hm (by omega)).mono ?_
      rintro e w1 ⟨rfl, hR, hg⟩
      replace hB0 := hB0.grown hg (by simp; omega)
      replace hB1 := hB1.grown hg (by simp; omega)
      replace hG := grown_trans hG hg
      clear hg
      clear h
      go_wp2_with (first | ((with_reducible show wpList _ _ _ (⟨some 13, _, _, _, _, _⟩ :: _) _ _); refine wpList_copyStrNone rfl (.tmp 11) (.tmp 12) 120 9 rfl 5 Try.underlying120 (by rw [Try.sizeU8]; rfl) _ _ _ (by rfl) (by rfl) ?_) | ((with_reducible show wpList _ _ _ (⟨some 14, _, _, _, _, _⟩ :: _) _ _); refine wpList_loadBlk rfl 23 (.tmp 3) rfl (w.heap.size + 1) (by rfl) _ _ _ hB1 Try.underlying23 rfl (by rw [Z32_size]; exact Try.sizeHash) ?_) | ((with_reducible show wpList _ _ _ (⟨none, Op.store _ _ _, _, _, _, _⟩ :: _) _ _); refine wpList_storeBlk rfl 23 (.tmp 2) (.tmp 14) rfl w.heap.size Z32 (by rfl) (by rfl) _ _ hB0 (by rw [Z32_size]; exact Try.sizeHash) rfl Z32_all ?_; intro w3 hB3 hg3; have h3 := Blk.grown hR hg3 (by simp; omega); have hG3 := grown_new hG hg3 (by omega); clear hR hG hg3 hB0))
      refine ret_blk rfl w.heap.size _ _ _ (by rfl) hB3 Try.underlying23 rfl (by rw [Z32_size]; exact Try.sizeHash) rfl ?_
      rw [R.out]
      exact ⟨rfl, h3, hG3⟩
    · have R : Hid (rHash (l, 0) = (l.take 32, (l.drop 32, 0))) := by show _ = _; simp [rHash, hs]
      refine (takeOk_calls b l 32 _ hR hm (by omega) (by omega)).mono ?_
      rintro e w1 ⟨rfl, h1, hg⟩
      have hB0' := hB0.grown hg (by simp; omega)
      have hB1' := hB1.grown hg (by simp; omega)
      have hG' := grown_trans hG hg
      rw [show l.take (Int.toNat 32) = l.take 32 from rfl]
      have hx : (l.take 32).length = 32 := by rw [List.length_take]; omega
      generalize l.take 32 = x at hx R ⊢
      have HX := Lib.hid hx
      clear hB0 hB1 hR hG hx hg
      go_wp2_with (first | ((with_reducible show wpList _ _ _ (⟨some 13, _, _, _, _, _⟩ :: _) _ _); refine wpList_copyStr rfl (.tmp 11) (.tmp 12) 120 9 rfl 5 Try.underlying120 Try.sizeU8 (w.heap.size + 1) 0 32 32 x (by rfl) (by rfl) Z32 _ hB1' (by rw [HX.out]; omega) (by rw [HX.out, Z32_size]; omega) (x.map bv).toArray (by rw [HX.out]; simp) ?_; intro w2 hB2 hg2; have hB0'' := hB0'.grown hg2 (by simp); have h2 : ReaderIs w2 b (l.drop (Int.toNat 32), 0) := Blk.grown h1 hg2 (by simp; omega); have hG2 := grown_new hG' hg2 (by omega); clear h1 hg2 hG' hB1' hB0') | ((with_reducible show wpList _ _ _ (⟨some 14, _, _, _, _, _⟩ :: _) _ _); refine wpList_loadBlk rfl 23 (.tmp 3) rfl (w.heap.size + 1) (by rfl) _ _ _ hB2 Try.underlying23 rfl (by rw [bv_size, HX.out]; exact Try.sizeHash) ?_) | ((with_reducible show wpList _ _ _ (⟨none, Op.store _ _ _, _, _, _, _⟩ :: _) _ _); refine wpList_storeBlk rfl 23 (.tmp 2) (.tmp 14) rfl w.heap.size (x.map bv).toArray (by rfl) (by rfl) _ _ hB0'' (by rw [bv_size, HX.out]; exact Try.sizeHash) (by rw [bv_size, HX.out, Z32_size]) (bv_all x) ?_; intro w3 hB3 hg3; have h3 : ReaderIs w3 b (l.drop (Int.toNat 32), 0) := Blk.grown h2 hg3 (by simp; omega); have hG3 := grown_new hG2 hg3 (by omega); clear h2 hG2 hg3 hB0''))
      refine ret_blk rfl w.heap.size _ _ _ (by rfl) hB3 Try.underlying23 rfl (by rw [bv_size, HX.out]; exact Try.sizeHash) rfl ?_
      rw [R.out]
      exact ⟨rfl, h3, hG3⟩
  · have R : Hid (rHash (l, err) = (List.replicate 32 0, (l, err))) := by show _ = _; simp [rHash, he]
    refine (takeErr_calls b l err 32 _ hR he).mono ?_
    rintro e w1 ⟨rfl, rfl⟩
    clear h
    go_wp2_with (first | ((with_reducible show wpList _ _ _ (⟨some 13, _, _, _, _, _⟩ :: _) _ _); refine wpList_copyStrNone rfl (.tmp 11) (.tmp 12) 120 9 rfl 5 Try.underlying120 (by rw [Try.sizeU8]; rfl) _ _ _ (by rfl) (by rfl) ?_) | ((with_reducible show wpList _ _ _ (⟨some 14, _, _, _, _, _⟩ :: _) _ _); refine wpList_loadBlk rfl 23 (.tmp 3) rfl (w.heap.size + 1) (by rfl) _ _ _ hB1 Try.underlying23 rfl (by rw [Z32_size]; exact Try.sizeHash) ?_) | ((with_reducible show wpList _ _ _ (⟨none, Op.store _ _ _, _, _, _, _⟩ :: _) _ _); refine wpList_storeBlk rfl 23 (.tmp 2) (.tmp 14) rfl w.heap.size Z32 (by rfl) (by rfl) _ _ hB0 (by rw [Z32_size]; exact Try.sizeHash) rfl Z32_all ?_; intro w3 hB3 hg3; have h3 := Blk.grown hR hg3 (by simp; omega); have hG3 := grown_new hG hg3 (by omega); clear hR hG hg3 hB0))
    refine ret_blk rfl w.heap.size _ _ _ (by rfl) hB3 Try.underlying23 rfl (by rw [Z32_size]; exact Try.sizeHash) rfl ?_
    rw [R.out]
    exact ⟨rfl, h3, hG3⟩
end Go.Proofs.Ytnfegmcdljejnaa
