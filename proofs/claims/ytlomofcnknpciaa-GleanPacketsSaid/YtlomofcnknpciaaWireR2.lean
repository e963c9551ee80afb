/-
  The wire's reader: Text and Hash.
-/
import Derived.Test.YtlomofcnknpciaaF0
import Derived.Test.YtlomofcnknpciaaWireRN
import Derived.Test.YtlomofcnknpciaaKit0
set_option linter.unusedSimpArgs false
set_option linter.unusedVariables false
namespace Go.Proofs.Ytlomofcnknpciaa
open Go.RowKit

/-- Flag. -/
def rFlag (s : List UInt8 × Int) : Bool × (List UInt8 × Int) :=
  if s.2 ≠ 0 then (false, s) else match s.1 with
  | [] => (false, ([], 2))
  | c :: l => (c == 1, (l, if 1 < c.toNat then 3 else 0))
def rText (most : Int) (s : List UInt8 × Int) : List UInt8 × (List UInt8 × Int) :=
  let r := rNum (min most 65536) s
  if r.2.2 ≠ 0 then ([], r.2) else if (r.2.1.length : Int) < r.1 then ([], (r.2.1, 2)) else (r.2.1.take r.1.toNat, (r.2.1.drop r.1.toNat, 0))

theorem rNum_nonneg (most : Int) (s : List UInt8 × Int) : 0 ≤ (rNum most s).1 := by
  unfold rNum
  split
  · simp
  · split
    · simp
    · split
      · simp
      · split
        · simp
        · split <;> simp
theorem rNum_len (most : Int) (s : List UInt8 × Int) : (rNum most s).2.1.length ≤ s.1.length := by
  unfold rNum
  split
  · simp
  · split
    · simp
    · rename_i c l h
      rw [h]
      split
      · simp
      · split
        · simp; omega
        · split <;> simp <;> omega

theorem RText1 (b : Nat) (s : List UInt8 × Int) (most : Int) (w : World) (h : ReaderIs w b s) (hm : s.1.length ≤ 1099511627776) (hmost : 65536 < most) :
    Calls Try.prog 124 #[.pointer (some ⟨b, 0, none⟩), .int .i64 most] w fun e w' => e = .returned (.string (str (rText most s).1)) ∧ ReaderIs w' b (rText most s).2 ∧ w.grownBy w' (some b) := by
  go_enter Try.func124, Try.ntmps124
  go_wp2_with fail
  refine (RNum_calls b s (min most 65536) _ h hm).mono ?_
  rintro e w1 ⟨rfl, h1, hg⟩
  have hn := rNum_nonneg (min most 65536) s
  have hl := Nat.le_trans (rNum_len (min most 65536) s) hm
  have R : Hid (rText most s = if (rNum (min most 65536) s).2.2 ≠ 0 then ([], (rNum (min most 65536) s).2) else if ((rNum (min most 65536) s).2.1.length : Int) < (rNum (min most 65536) s).1 then ([], ((rNum (min most 65536) s).2.1, 2)) else ((rNum (min most 65536) s).2.1.take (rNum (min most 65536) s).1.toNat, ((rNum (min most 65536) s).2.1.drop (rNum (min most 65536) s).1.toNat, 0))) := rfl
  generalize rNum (min most 65536) s = r at h1 hn hl R ⊢
  obtain ⟨n, d, err⟩ := r
  by_cases he : err = 0
  · subst he
    by_cases hs : (d.length : Int) < n
    · have RR : Hid (rText most s = ([], (d, 2))) := by show _ = _; rw [R.out]; simp [hs]
      clear R
      go_wp2_with fail
      refine (takeShort_calls b d n _ h1 hl hs).mono ?_
      rintro e w2 ⟨rfl, h2, hg2⟩
      go_wp2
      go_returns
      rw [RR.out]
      exact ⟨rfl, h2, grown_trans hg hg2⟩
    · have RR : Hid (rText most s = (d.take n.toNat, (d.drop n.toNat, 0))) := by show _ = _; rw [R.out]; simp [hs]
      clear R
      go_wp2_with fail
      refine (takeOk_calls b d n _ h1 hl hn (by omega)).mono ?_
      rintro e w2 ⟨rfl, h2, hg2⟩
      go_wp2
      go_returns
      rw [RR.out]
      exact ⟨rfl, h2, grown_trans hg hg2⟩
  · have RR : Hid (rText most s = ([], (d, err))) := by show _ = _; rw [R.out]; simp [he]
    clear R
    go_wp2_with fail
    refine (takeErr_calls b d err n _ h1 he).mono ?_
    rintro e w2 ⟨rfl, rfl⟩
    go_wp2
    go_returns
    rw [RR.out]
    exact ⟨rfl, h1, hg⟩

theorem RText2 (b : Nat) (s : List UInt8 × Int) (most : Int) (w : World) (h : ReaderIs w b s) (hm : s.1.length ≤ 1099511627776) (hmost : most ≤ 65536) :
    Calls Try.prog 124 #[.pointer (some ⟨b, 0, none⟩), .int .i64 most] w fun e w' => e = .returned (.string (str (rText most s).1)) ∧ ReaderIs w' b (rText most s).2 ∧ w.grownBy w' (some b) := by
  go_enter Try.func124, Try.ntmps124
  go_wp2_with fail
  refine (RNum_calls b s (min most 65536) _ h hm).mono ?_
  rintro e w1 ⟨rfl, h1, hg⟩
  have hn := rNum_nonneg (min most 65536) s
  have hl := Nat.le_trans (rNum_len (min most 65536) s) hm
  have R : Hid (rText most s = if (rNum (min most 65536) s).2.2 ≠ 0 then ([], (rNum (min most 65536) s).2) else if ((rNum (min most 65536) s).2.1.length : Int) < (rNum (min most 65536) s).1 then ([], ((rNum (min most 65536) s).2.1, 2)) else ((rNum (min most 65536) s).2.1.take (rNum (min most 65536) s).1.toNat, ((rNum (min most 65536) s).2.1.drop (rNum (min most 65536) s).1.toNat, 0))) := rfl
  generalize rNum (min most 65536) s = r at h1 hn hl R ⊢
  obtain ⟨n, d, err⟩ := r
  by_cases he : err = 0
  · subst he
    by_cases hs : (d.length : Int) < n
    · have RR : Hid (rText most s = ([], (d, 2))) := by show _ = _; rw [R.out]; simp [hs]
      clear R
      go_wp2_with fail
      refine (takeShort_calls b d n _ h1 hl hs).mono ?_
      rintro e w2 ⟨rfl, h2, hg2⟩
      go_wp2
      go_returns
      rw [RR.out]
      exact ⟨rfl, h2, grown_trans hg hg2⟩
    · have RR : Hid (rText most s = (d.take n.toNat, (d.drop n.toNat, 0))) := by show _ = _; rw [R.out]; simp [hs]
      clear R
      go_wp2_with fail
      refine (takeOk_calls b d n _ h1 hl hn (by omega)).mono ?_
      rintro e w2 ⟨rfl, h2, hg2⟩
      go_wp2
      go_returns
      rw [RR.out]
      exact ⟨rfl, h2, grown_trans hg hg2⟩
  · have RR : Hid (rText most s = ([], (d, err))) := by show _ = _; rw [R.out]; simp [he]
    clear R
    go_wp2_with fail
    refine (takeErr_calls b d err n _ h1 he).mono ?_
    rintro e w2 ⟨rfl, rfl⟩
    go_wp2
    go_returns
    rw [RR.out]
    exact ⟨rfl, h1, hg⟩

theorem RText_calls (b : Nat) (s : List UInt8 × Int) (most : Int) (w : World) (h : ReaderIs w b s) (hm : s.1.length ≤ 1099511627776) :
    Calls Try.prog 124 #[.pointer (some ⟨b, 0, none⟩), .int .i64 most] w fun e w' => e = .returned (.string (str (rText most s).1)) ∧ ReaderIs w' b (rText most s).2 ∧ w.grownBy w' (some b) := by
  by_cases hmost : 65536 < most
  · exact RText1 b s most w h hm hmost
  · exact RText2 b s most w h hm (by omega)

/-- Hash. -/
def rHash (s : List UInt8 × Int) : List UInt8 × (List UInt8 × Int) :=
  if s.2 ≠ 0 then (List.replicate 32 0, s) else if s.1.length < 32 then (List.replicate 32 0, (s.1, 2)) else (s.1.take 32, (s.1.drop 32, 0))

theorem Try.sizeU8 : (Try.prog.info? 5).map (·.size) = some 1 := by kernel_rfl

/-- What lies behind take, in Hash. -/
theorem hash_tail {Q : World → Prop} (hs : List UInt8) : hs.length = 32 → (hs.map bv).toArray.size = 32 := by intro h; simp [h]

theorem RHash_calls (b : Nat) (s : List UInt8 × Int) (w : World) (h : ReaderIs w b s) (hm : s.1.length ≤ 1099511627776) :
    Calls Try.prog 121 #[.pointer (some ⟨b, 0, none⟩)] w fun e w' => e = .returned (.agg ((rHash s).1.map bv).toArray) ∧ ReaderIs w' b (rHash s).2 ∧ w.grownBy w' (some b) := by
  obtain ⟨l, err⟩ := s
  have hbw : b < w.heap.size := Blk.lt h
  have hB0 : Blk ((w.alloc (.cells Z32 23)).alloc (.cells Z32 23)) w.heap.size Z32 23 := (Blk.new _ _ _).alloc _
  have hB1 : Blk ((w.alloc (.cells Z32 23)).alloc (.cells Z32 23)) (w.heap.size + 1) Z32 23 := by have := Blk.new (w.alloc (.cells Z32 23)) Z32 23; simpa using this
  have hR : ReaderIs ((w.alloc (.cells Z32 23)).alloc (.cells Z32 23)) b (l, err) := Blk.alloc (Blk.alloc h _) _
  have hG : w.grownBy ((w.alloc (.cells Z32 23)).alloc (.cells Z32 23)) (some b) := grown_alloc (grown_alloc (World.grownBy.refl _ _) _) _
  go_enter Try.func121, Try.ntmps121
  go_wp2_with fail
  generalize (w.alloc (.cells Z32 23)).alloc (.cells Z32 23) = W0 at hB0 hB1 hR hG ⊢
  by_cases he : err = 0
  · subst he
    by_cases hs : l.length < 32
    · have R : Hid (rHash (l, 0) = (List.replicate 32 0, (l, 2))) := by show _ = _; simp [rHash, hs]
      refine (takeShort_calls b l 32 _ hR hm (by omega)).mono ?_
      rintro e w1 ⟨rfl, hR, hg⟩
      replace hB0 := hB0.grown hg (by simp; omega)
      replace hB1 := hB1.grown hg (by simp; omega)
      replace hG := grown_trans hG hg
      clear hg
      clear h
      go_wp2_with (first | ((with_reducible show wpList _ _ _ (⟨some 13, _, _, _, _, _⟩ :: _) _ _); refine wpList_copyStrNone rfl (.tmp 11) (.tmp 12) 69 9 rfl 5 Try.underlying69 (by rw [Try.sizeU8]; rfl) _ _ _ (by rfl) (by rfl) ?_) | ((with_reducible show wpList _ _ _ (⟨some 14, _, _, _, _, _⟩ :: _) _ _); refine wpList_loadBlk rfl 23 (.tmp 3) rfl (w.heap.size + 1) (by rfl) _ _ _ hB1 Try.underlying23 rfl (by rw [Z32_size]; exact Try.sizeHash) ?_) | ((with_reducible show wpList _ _ _ (⟨none, Op.store _ _ _, _, _, _, _⟩ :: _) _ _); refine wpList_storeBlk rfl 23 (.tmp 2) (.tmp 14) rfl w.heap.size Z32 (by rfl) (by rfl) _ _ hB0 (by rw [Z32_size]; exact Try.sizeHash) rfl Z32_all ?_; intro w3 hB3 hg3; have h3 := Blk.grown hR hg3 (by simp; omega); have hG3 := grown_new hG hg3 (by omega); clear hR hG hg3 hB0))
      refine ret_blk rfl w.heap.size _ _ _ (by rfl) hB3 Try.underlying23 rfl (by rw [Z32_size]; exact Try.sizeHash) rfl ?_
      rw [R.out]
      exact ⟨rfl, h3, hG3⟩
    · have R : Hid (rHash (l, 0) = (l.take 32, (l.drop 32, 0))) := by show _ = _; simp [rHash, hs]
      refine (takeOk_calls b l 32 _ hR hm (by omega) (by omega)).mono ?_
      rintro e w1 ⟨rfl, h1, hg⟩
      have hB0' := hB0.grown hg (by simp; omega)
      have hB1' := hB1.grown hg (by simp; omega)
      have hG' := grown_trans hG hg
      rw [show l.take (Int.toNat 32) = l.take 32 from rfl]
      have hx : (l.take 32).length = 32 := by rw [List.length_take]; omega
      generalize l.take 32 = x at hx R ⊢
      have HX := Lib.hid hx
      clear hB0 hB1 hR hG hx hg
      go_wp2_with (first | ((with_reducible show wpList _ _ _ (⟨some 13, _, _, _, _, _⟩ :: _) _ _); refine wpList_copyStr rfl (.tmp 11) (.tmp 12) 69 9 rfl 5 Try.underlying69 Try.sizeU8 (w.heap.size + 1) 0 32 32 x (by rfl) (by rfl) Z32 _ hB1' (by rw [HX.out]; omega) (by rw [HX.out, Z32_size]; omega) (x.map bv).toArray (by rw [HX.out]; simp) ?_; intro w2 hB2 hg2; have hB0'' := hB0'.grown hg2 (by simp); have h2 : ReaderIs w2 b (l.drop (Int.toNat 32), 0) := Blk.grown h1 hg2 (by simp; omega); have hG2 := grown_new hG' hg2 (by omega); clear h1 hg2 hG' hB1' hB0') | ((with_reducible show wpList _ _ _ (⟨some 14, _, _, _, _, _⟩ :: _) _ _); refine wpList_loadBlk rfl 23 (.tmp 3) rfl (w.heap.size + 1) (by rfl) _ _ _ hB2 Try.underlying23 rfl (by rw [bv_size, HX.out]; exact Try.sizeHash) ?_) | ((with_reducible show wpList _ _ _ (⟨none, Op.store _ _ _, _, _, _, _⟩ :: _) _ _); refine wpList_storeBlk rfl 23 (.tmp 2) (.tmp 14) rfl w.heap.size (x.map bv).toArray (by rfl) (by rfl) _ _ hB0'' (by rw [bv_size, HX.out]; exact Try.sizeHash) (by rw [bv_size, HX.out, Z32_size]) (bv_all x) ?_; intro w3 hB3 hg3; have h3 : ReaderIs w3 b (l.drop (Int.toNat 32), 0) := Blk.grown h2 hg3 (by simp; omega); have hG3 := grown_new hG2 hg3 (by omega); clear h2 hG2 hg3 hB0''))
      refine ret_blk rfl w.heap.size _ _ _ (by rfl) hB3 Try.underlying23 rfl (by rw [bv_size, HX.out]; exact Try.sizeHash) rfl ?_
      rw [R.out]
      exact ⟨rfl, h3, hG3⟩
  · have R : Hid (rHash (l, err) = (List.replicate 32 0, (l, err))) := by show _ = _; simp [rHash, he]
    refine (takeErr_calls b l err 32 _ hR he).mono ?_
    rintro e w1 ⟨rfl, rfl⟩
    clear h
    go_wp2_with (first | ((with_reducible show wpList _ _ _ (⟨some 13, _, _, _, _, _⟩ :: _) _ _); refine wpList_copyStrNone rfl (.tmp 11) (.tmp 12) 69 9 rfl 5 Try.underlying69 (by rw [Try.sizeU8]; rfl) _ _ _ (by rfl) (by rfl) ?_) | ((with_reducible show wpList _ _ _ (⟨some 14, _, _, _, _, _⟩ :: _) _ _); refine wpList_loadBlk rfl 23 (.tmp 3) rfl (w.heap.size + 1) (by rfl) _ _ _ hB1 Try.underlying23 rfl (by rw [Z32_size]; exact Try.sizeHash) ?_) | ((with_reducible show wpList _ _ _ (⟨none, Op.store _ _ _, _, _, _, _⟩ :: _) _ _); refine wpList_storeBlk rfl 23 (.tmp 2) (.tmp 14) rfl w.heap.size Z32 (by rfl) (by rfl) _ _ hB0 (by rw [Z32_size]; exact Try.sizeHash) rfl Z32_all ?_; intro w3 hB3 hg3; have h3 := Blk.grown hR hg3 (by simp; omega); have hG3 := grown_new hG hg3 (by omega); clear hR hG hg3 hB0))
    refine ret_blk rfl w.heap.size _ _ _ (by rfl) hB3 Try.underlying23 rfl (by rw [Z32_size]; exact Try.sizeHash) rfl ?_
    rw [R.out]
    exact ⟨rfl, h3, hG3⟩
end Go.Proofs.Ytlomofcnknpciaa
