/-
  GleanReads: any bytes are a right packet, or refused.
-/
import Derived.Test.YtlomofcnknpciaaGleanPkIn
import Derived.WalkLawsBesides
import Derived.Outline
import Derived.Handy
import Derived.Deep.RegionHeld
set_option linter.unusedSimpArgs false
set_option linter.unusedVariables false
namespace Go.Proofs.Ytlomofcnknpciaa
open Go.RowKit

set_option maxHeartbeats 16000000 in
set_option maxRecDepth 100000 in
theorem walkGleanReads (bs : List UInt8) (hbs : bs.length ≤ maxLen) (w : World) : Calls Try.prog 14 #[.string (str bs)] w fun e w' => e = .returned (.bool true) ∧ Below w.heap.size w w' := by
  have hb0 := Below.refl w.heap.size w
  unfold maxLen at hbs
  by_cases hl : 100000 < bs.length
  · go_enter Try.func14, Try.ntmps14
    go_wp2_with fail
    refine (awake19_calls _).mono ?_
    rintro e w2 ⟨rfl, b2⟩
    go_wp2_with fail
    go_returns
    exact ⟨rfl, b2⟩
  have cU := GUnpack_calls bs w (by omega)
  have cR := fun y => RUnpack_calls bs y (by omega)
  obtain ⟨q1, q2, q3, q4⟩ := unT_small bs
  have hcs := unT_cases bs
  have hpk : (unT bs).2 = 0 → packP (unT bs).1 = bs := fun h => (pack_unT h).2
  unfold UnRes at cU cR
  obtain ⟨p, hp⟩ : ∃ p, p = (unT bs).1 := ⟨_, rfl⟩
  obtain ⟨er, her⟩ : ∃ e, e = (unT bs).2 := ⟨_, rfl⟩
  rw [← hp, ← her] at cU cR hcs
  rw [← hp] at q1 q2 q3 q4
  rw [← hp, ← her] at hpk
  have HCS := Lib.hid hcs
  have HPK := Lib.hid hpk
  have Q4 := Lib.hid q4
  clear hp her hcs hpk q4
  go_enter Try.func14, Try.ntmps14
  go_wp2_with fail
  refine cU.mono ?_
  rintro e w2 ⟨iv, tv, rfl, h1, h2, b2⟩
  obtain ⟨a1, c1, rfl, _⟩ := h1.slice
  obtain ⟨a2, c2, rfl⟩ := h2.slice
  obtain ⟨n1, hn1⟩ : ∃ n, n = p.ids.length := ⟨_, rfl⟩
  obtain ⟨n2, hn2⟩ : ∃ n, n = p.ts.length := ⟨_, rfl⟩
  rw [← hn1] at h1 ⊢
  rw [← hn2] at h2 ⊢
  have HN1 := Lib.hid hn1
  have HN2 := Lib.hid hn2
  have H1 := Lib.hid h1
  have H2 := Lib.hid h2
  clear cU h1 h2 hb0 hn1 hn2
  obtain ⟨A3, hA3⟩ : ∃ a, a = w2.heap.size := ⟨_, rfl⟩
  have HA3 := Lib.hid hA3
  clear hA3
  go_wp2_with (first | ((with_reducible show wpList _ _ _ (⟨some 3, _, _, _, _, _⟩ :: _) _ _); refine wpList_allocZ rfl 109 rfl _ Try.zeroPk ?_; intro wa sa ba na; rw [← HA3.out] at ba na ⊢; have HSA := Lib.hid sa; clear sa) | ((with_reducible show wpList _ _ _ (⟨none, Op.store _ (.tmp 3) _, _, _, _, _⟩ :: _) _ _); refine wpList_storeBlk rfl 109 (.tmp 3) (.tmp 14) rfl A3 #[.int .i64 p.k, .string (str p.s), .slice a1 n1 c1, .slice a2 n2 c2] (by rfl) (by rfl) _ _ na (by exact Try.sizePk) (by rfl) (pk_all _ _ _ _ rfl rfl) ?_; intro w3 n3 g3; have hb3 := below_new ba g3 (Nat.le_refl _) (by rw [HA3.out]; exact ba.size); clear ba na g3))
  have HY := Lib.hid n3
  have hB3 := b2.trans (hb3.mono (by rw [HA3.out]; exact b2.size))
  have H13 := Lib.hid (H1.out.below (HA3.out ▸ hb3))
  have H23 := Lib.hid (H2.out.below (HA3.out ▸ hb3))
  clear H1 H2 b2 hb3 n3 HSA HA3
  refine (cR _).mono ?_
  rintro e w4 ⟨iv4, tv4, rfl, h14, h24, b4⟩
  obtain ⟨a3, c3, rfl, _⟩ := h14.slice
  obtain ⟨a4, c4, rfl⟩ := h24.slice
  rw [← HN1.out] at h14 ⊢
  rw [← HN2.out] at h24 ⊢
  have H14 := Lib.hid h14
  have H24 := Lib.hid h24
  have HY4 := Lib.hid (HY.out.below b4 HY.out.lt)
  have hB4 := hB3.trans (b4.mono hB3.size)
  have H15 := Lib.hid (H13.out.below b4)
  have H25 := Lib.hid (H23.out.below b4)
  clear cR h14 h24 b4 hB3 HY H13 H23
  obtain ⟨A5, hA5⟩ : ∃ a, a = w4.heap.size := ⟨_, rfl⟩
  have HA5 := Lib.hid hA5
  clear hA5
  go_wp2_with (first | ((with_reducible show wpList _ _ _ (⟨some 5, _, _, _, _, _⟩ :: _) _ _); refine wpList_allocZ rfl 107 rfl _ Try.zeroRPk ?_; intro wa sa ba na; rw [← HA5.out] at ba na ⊢; have HSA := Lib.hid sa; clear sa) | ((with_reducible show wpList _ _ _ (⟨none, Op.store _ (.tmp 5) _, _, _, _, _⟩ :: _) _ _); refine wpList_storeBlk rfl 107 (.tmp 5) (.tmp 19) rfl A5 #[.int .i64 p.k, .string (str p.s), .slice a3 n1 c3, .slice a4 n2 c4] (by rfl) (by rfl) _ _ na (by exact Try.sizeRPk) (by rfl) (pk_all _ _ _ _ rfl rfl) ?_; intro w5 n5 g5; have hb5 := below_new ba g5 (Nat.le_refl _) (by rw [HA5.out]; exact ba.size); clear ba na g5))
  have hb5' : Below w4.heap.size w4 w5 := HA5.out ▸ hb5
  have HZ := Lib.hid n5
  have hB5 := hB4.trans (hb5'.mono hB4.size)
  have H16 := Lib.hid (H15.out.below hb5')
  have H26 := Lib.hid (H25.out.below hb5')
  have H17 := Lib.hid (H14.out.below hb5')
  have H27 := Lib.hid (H24.out.below hb5')
  have HY5 := Lib.hid (HY4.out.below hb5' HY4.out.lt)
  clear H15 H25 H14 H24 hB4 hb5 hb5' n5 HSA HA5 HY4
  refine (awake19_calls _).mono ?_
  rintro e w6 ⟨rfl, b6⟩
  have hB6 := hB5.trans (b6.mono hB5.size)
  have HZ6 := HZ.out.below b6 HZ.out.lt
  have HY6 := HY5.out.below b6 HY5.out.lt
  have H18 := Lib.hid (H16.out.below b6)
  have H28 := Lib.hid (H26.out.below b6)
  have H19 := Lib.hid (H17.out.below b6)
  have H29 := Lib.hid (H27.out.below b6)
  have y0 := HY6.cell 0 _ rfl
  have y1 := HY6.cell 1 _ rfl
  have y2 := HY6.cell 2 _ rfl
  have y3 := HY6.cell 3 _ rfl
  have z0 := HZ6.cell 0 _ rfl
  have z1 := HZ6.cell 1 _ rfl
  have z2 := HZ6.cell 2 _ rfl
  have z3 := HZ6.cell 3 _ rfl
  clear b6 hB5 H16 H26 H17 H27 HZ HY5
  go_wp2_with ((with_reducible show wpList _ _ _ (⟨some 37, _, _, _, _, _⟩ :: _) _ _); refine wpList_if (by rfl) (wp_buildCells 107 #[(0, .tmp 30), (1, .tmp 32), (2, .tmp 34), (3, .tmp 36)] rfl #[.int .i64 p.k, .string (str p.s), .slice a1 n1 c1, .slice a2 n2 c2] (Try.builtRPk4 _ _ _ _ _ _ _ _) ?_))
  refine (Same_calls p _ _ _ _ _ H19.out H29.out H18.out H28.out (by omega) (by omega)).mono ?_
  rintro e w7 ⟨rfl, b7⟩
  have hB7 := hB6.trans (b7.mono hB6.size)
  have HY7 := HY6.below b7 HY6.lt
  have H1a := Lib.hid (H18.out.below b7)
  have H2a := Lib.hid (H28.out.below b7)
  clear y0 y1 y2 y3 z0 z1 z2 z3 b7 hB6 HZ6 HY6 H18 H28 H19 H29
  by_cases hz : er = 0
  · subst hz
    have hr : RightP p := by
      rcases HCS.out with h | h
      · exact h.2
      · exact absurd rfl h.1
    have hpb := HPK.out rfl
    have cP := GPack_calls p _ _ w7 H1a.out H2a.out (by omega) (by omega) (by unfold maxLen; omega) Q4.out hr
    rw [hpb] at cP
    have y0 := HY7.cell 0 _ rfl
    have y1 := HY7.cell 1 _ rfl
    have y2 := HY7.cell 2 _ rfl
    have y3 := HY7.cell 3 _ rfl
    clear hr hpb
    go_wp2_with fail
    refine cP.mono ?_
    rintro e w8 ⟨rfl, b8⟩
    have hB8 := hB7.trans (b8.mono hB7.size)
    clear cP b8 hB7 y0 y1 y2 y3
    go_wp2_with fail
    go_returns
    exact ⟨rfl, hB8⟩
  · have hz1 : decide (er = 0) = false := decide_eq_false hz
    have hz2 : (er == 0) = false := beq_false_of_ne hz
    go_wp2_with fail
    go_returns
    exact ⟨rfl, hB7⟩
end Go.Proofs.Ytlomofcnknpciaa
