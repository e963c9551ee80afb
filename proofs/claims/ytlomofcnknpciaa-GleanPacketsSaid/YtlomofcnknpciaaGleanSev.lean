/-
  glean.several: things read one behind the other.
-/
import Derived.Test.YtlomofcnknpciaaGleanPack
import Derived.Test.YtlomofcnknpciaaGleanMk
import Derived.WalkLawsBesides
import Derived.Laws.AppendOwnNone
import Derived.Outline
import Derived.Handy
set_option linter.unusedSimpArgs false
set_option linter.unusedVariables false
namespace Go.Proofs.Ytlomofcnknpciaa
open Go.RowKit

theorem reader_lt {w : World} {b : Nat} {s : RSt} (h : ReaderIs w b s) : b < w.heap.size := Blk.lt h
theorem reader_below {w w' : World} {b : Nat} {s : RSt} (h : ReaderIs w b s) (bl : Below w.heap.size w w') : ReaderIs w' b s := Blk.below h bl (Blk.lt h)
theorem reader_grownO {w w' : World} {b : Nat} {row : Option Nat} {s : RSt} (h : ReaderIs w b s) (gr : w.grownBy w' row) (h1 : ∀ q, row = some q → b ≠ q) : ReaderIs w' b s := Blk.grown h gr (fun e => h1 b e.symm rfl)
theorem rTx_left (s : RSt) : (rTx s).2.1.length ≤ s.1.length := rText_left 65536 s
theorem rTx_len (s : RSt) : (rTx s).1.length ≤ 65536 := rText_len 65536 s
set_option maxHeartbeats 4000000 in
set_option maxRecDepth 100000 in
theorem Unpack1_calls (q b : Nat) (s : RSt) (w : World) (hq : Blk w q #[.pointer (some ⟨b, 0, none⟩)] 187) (h : ReaderIs w b s) (hm : s.1.length ≤ 1099511627776) :
    Calls Try.prog 123 #[.pointer (some ⟨q, 0, none⟩)] w fun e w' => e = .returned (.string (str (rTx s).1)) ∧ ReaderIs w' b (rTx s).2 ∧ w.grownBy w' (some b) := by
  have h0 := hq.cell 0 _ rfl
  obtain ⟨X, hX⟩ : ∃ X, X = (rTx s).1 := ⟨_, rfl⟩
  obtain ⟨Y, hY⟩ : ∃ Y, Y = (rTx s).2 := ⟨_, rfl⟩
  have c := RText_calls b s 65536 w h hm
  rw [show (rText 65536 s).1 = X from hX.symm, show (rText 65536 s).2 = Y from hY.symm] at c
  rw [← hX, ← hY]
  clear hX hY hq h
  go_enter Try.func123, Try.ntmps123
  go_wp2_with fail
  refine c.mono ?_
  rintro e w5 ⟨rfl, h5, g5⟩
  clear c h0
  have H5 := Lib.hid h5
  have G5 := Lib.hid g5
  clear h5 g5
  go_wp2_with fail
  go_returns
  exact ⟨rfl, H5.out, G5.out⟩
set_option maxHeartbeats 16000000 in
set_option maxRecDepth 100000 in
theorem sevH_calls (b : Nat) (most : Int) (s : RSt) (w : World) (h : ReaderIs w b s) (hm : s.1.length ≤ 1000000) (h0 : 0 ≤ most) (hmost : most ≤ 65536) :
    Calls Try.prog 120 #[.pointer (some ⟨b, 0, none⟩), .int .i64 most, .func (.func 121) #[.pointer (some ⟨b, 0, none⟩)] #[]] w fun e w' => ∃ v, e = .returned v ∧ HashOwn w' w.heap.size 23 v (readN rHash (rNum most s).1.toNat (rNum most s).2).1 ∧ ReaderIs w' b (readN rHash (rNum most s).1.toNat (rNum most s).2).2 ∧ w.grownBy w' (some b) := by
  have hl0 := rNum_len most s
  have hn0 := rNum_nonneg most s
  have hn1 := rNum_le most h0 s
  obtain ⟨N, hN⟩ : ∃ N, N = (rNum most s).1.toNat := ⟨_, rfl⟩
  have HNI : Hid ((rNum most s).1 = (N : Int)) := by show _ = _; omega
  obtain ⟨s1, hs1⟩ : ∃ s1, s1 = (rNum most s).2 := ⟨_, rfl⟩
  have c0 := RNum_calls b s most w h (by omega)
  rw [HNI.out, ← hs1] at c0
  rw [← hs1] at hl0
  have hN9 : N ≤ 65536 := by omega
  rw [← hN, ← hs1]
  have hbw := reader_lt h
  clear h hn0 hn1 hN hs1 HNI
  obtain ⟨RR, hRR⟩ : ∃ R, R = readN rHash N s1 := ⟨_, rfl⟩
  have HRR := Lib.hid hRR
  rw [← hRR]
  clear hRR
  have hs9 : s1.1.length ≤ 1000000 := by omega
  clear hl0 hm h0 hmost
  go_enter Try.func120, Try.ntmps120
  go_wp2_with fail
  refine c0.mono ?_
  rintro e w1 ⟨rfl, h1, g1⟩
  have HR1 := Lib.hid h1
  have HG1 := Lib.hid g1
  clear c0 h1 g1
  go_wp2_with fail
  go_loopw [7, 8] (fun ov nv wr => ∃ (j : Nat) (acc : List HsT) (st : RSt), j ≤ N ∧ nv = .int .i64 j ∧ st.1.length ≤ 1000000 ∧ acc.length + j ≤ N ∧ Hid (RR = (acc ++ (readN rHash j st).1, (readN rHash j st).2)) ∧ Hid (HashOwn wr w.heap.size 23 ov acc) ∧ Hid (ReaderIs wr b st) ∧ Hid (w.grownBy wr (some b))) (fun _ nv _ => (intOf nv).toNat)
  case atStart => exact ⟨N, [], s1, by omega, rfl, hs9, by simp, Lib.hid (by rw [HRR.out]; simp), Lib.hid (HashOwn.nil _ _ _), HR1, HG1⟩
  case round =>
    obtain ⟨j, acc, st, hj, rfl, hst, hal, hRe, hO, hR, hG⟩ := hrel
    clear HR1 HG1
    have hsz := hG.out.size
    by_cases hj0 : j = 0
    · subst hj0
      have hF : Hid (RR = (acc, st)) := by show _ = _; rw [hRe.out]; simp [readN]
      clear hRe
      go_wp2_with fail
      go_returns
      exact ⟨_, rfl, by rw [hF.out]; exact hO.out, by rw [hF.out]; exact hR.out, hG.out⟩
    · have hjp : 0 < j := by omega
      obtain ⟨sl, se⟩ := st
      by_cases hse : se = 0
      · subst hse
        obtain ⟨j2, hj2⟩ : ∃ i, j = i + 1 := ⟨j - 1, by omega⟩
        have hjw : IntKind.i64.wrap ((j : Int) - 1) = (j2 : Int) := by rw [IntWalk.i64_in _ (by omega)]; omega
        have hF : Hid (RR = ((acc ++ [(rHash (sl, 0)).1]) ++ (readN rHash j2 (rHash (sl, 0)).2).1, (readN rHash j2 (rHash (sl, 0)).2).2)) := by
          show _ = _
          rw [hRe.out, hj2, readN_succ _ _ _ rfl]; simp
        have hj3 : j2 < j := by omega
        have hal2 : acc.length + 1 + j2 ≤ N := by omega
        have hlf : (rHash (sl, 0)).2.1.length ≤ 1000000 := Nat.le_trans (rHash_left (sl, 0)) hst
        have hxl : (rHash (sl, 0)).1.length = 32 := rHash_len _
        obtain ⟨x, hx⟩ : ∃ x, x = (rHash (sl, 0)).1 := ⟨_, rfl⟩
        obtain ⟨st2, hst2⟩ : ∃ st, st = (rHash (sl, 0)).2 := ⟨_, rfl⟩
        have c1 : ∀ y, w.grownBy y (some b) → ReaderIs y b (sl, 0) → Calls Try.prog 121 #[.pointer (some ⟨b, 0, none⟩)] y fun e w' => e = .returned (.agg (x.map bv).toArray) ∧ ReaderIs w' b st2 ∧ y.grownBy w' (some b) := fun y hgy hy => by
          rw [hx, hst2]
          exact RHash_calls b (sl, 0) y hy (by show sl.length ≤ _; have : sl.length ≤ 1000000 := hst; omega)
        rw [← hx, ← hst2] at hF
        rw [← hst2] at hlf
        rw [← hx] at hxl
        clear hj2 hRe hx hst2
        go_wp2_with fail
        refine (Err_calls b (sl, 0) _ hR.out).mono ?_
        rintro e wz ⟨rfl, hwz⟩
        subst hwz
        go_wp2_with fail
        refine (c1 _ hG.out hR.out).mono ?_
        rintro e w6 ⟨rfl, h6, g6⟩
        have hR6 := Lib.hid h6
        have hO6 : Hid (HashOwn w6 w.heap.size 23 _ acc) := hO.out.kept g6 (.inr (fun e => by have := (hO.out.lt _ e).1; omega))
        have hG6 := Lib.hid (grown_via hG.out g6 (fun q e => .inl (by cases e; rfl)))
        clear h6 g6 c1 hR hO hG
        have hs6 := hG6.out.size
        go_wp2_with (first | ((with_reducible show wpList _ _ _ (⟨some 24, _, _, _, _, _⟩ :: _) _ _); refine wpList_bsH rfl 34 23 (.tmp 23) rfl x hxl (by rfl) Try.underlying34 Try.infoHash2 ?_; intro q8 w8 e8 s8 b8 n8; clear e8 s8; have hR8 := Lib.hid (reader_below hR6.out b8); have hO8 := Lib.hid (hO6.out.below b8); have hG8 := Lib.hid (grown_then hG6.out b8); clear b8 hR6 hO6 hG6) | ((with_reducible show wpList _ _ _ (⟨some 25, _, _, _, _, _⟩ :: _) _ _); refine wpList_append_h19 rfl (.tmp 21) (.tmp 24) 34 rfl w.heap.size 23 Try.underlying34 ⟨rfl, Try.infoHash3⟩ _ acc [x] (by rfl) hO8.out _ (by rfl) (hashes_one n8 hxl (by omega)) (by simp; omega) hG8.out.size ?_; intro v9 w9 hk9 g9))
        have hG9 := Lib.hid (grown_via hG8.out g9 (fun q e => .inr (hO8.out.lt _ e).1))
        have hR9 := Lib.hid (reader_grownO hR8.out g9 (fun q e => by have := (hO8.out.lt _ e).1; omega))
        have hO9 := Lib.hid hk9
        clear g9 hk9 hG8 hR8 hO8 n8 hs6 hsz hxl
        go_roundw
        case rel => exact ⟨j2, acc ++ [x], st2, by omega, by go_num, hlf, by simp; omega, hF, hO9, hR9, hG9⟩
        case measure => simp [intOf]; omega
      · have hF : Hid (RR = (acc, (sl, se))) := by show _ = _; rw [hRe.out, readN_stop _ _ _ hse]; simp
        have hd : decide (se = 0) = false := decide_eq_false hse
        clear hRe
        go_wp2_with fail
        refine (Err_calls b (sl, se) _ hR.out).mono ?_
        rintro e wz ⟨rfl, hwz⟩
        subst hwz
        go_wp2_with fail
        go_returns
        exact ⟨_, rfl, by rw [hF.out]; exact hO.out, by rw [hF.out]; exact hR.out, hG.out⟩
set_option maxHeartbeats 16000000 in
set_option maxRecDepth 100000 in
theorem sevS_calls (b : Nat) (most : Int) (s : RSt) (q : Nat) (hqb : q ≠ b) (w : World) (hq : Blk w q #[.pointer (some ⟨b, 0, none⟩)] 187) (h : ReaderIs w b s) (hm : s.1.length ≤ 1000000) (h0 : 0 ≤ most) (hmost : most ≤ 65536) :
    Calls Try.prog 122 #[.pointer (some ⟨b, 0, none⟩), .int .i64 most, .func (.func 123) #[] #[.pointer (some ⟨q, 0, none⟩)]] w fun e w' => ∃ v, e = .returned v ∧ TxOwn w' w.heap.size 9 v (readN rTx (rNum most s).1.toNat (rNum most s).2).1 ∧ ReaderIs w' b (readN rTx (rNum most s).1.toNat (rNum most s).2).2 ∧ w.grownBy w' (some b) := by
  have hl0 := rNum_len most s
  have hn0 := rNum_nonneg most s
  have hn1 := rNum_le most h0 s
  obtain ⟨N, hN⟩ : ∃ N, N = (rNum most s).1.toNat := ⟨_, rfl⟩
  have HNI : Hid ((rNum most s).1 = (N : Int)) := by show _ = _; omega
  obtain ⟨s1, hs1⟩ : ∃ s1, s1 = (rNum most s).2 := ⟨_, rfl⟩
  have c0 := RNum_calls b s most w h (by omega)
  rw [HNI.out, ← hs1] at c0
  rw [← hs1] at hl0
  have hN9 : N ≤ 65536 := by omega
  rw [← hN, ← hs1]
  have hbw := reader_lt h
  clear h hn0 hn1 hN hs1 HNI
  obtain ⟨RR, hRR⟩ : ∃ R, R = readN rTx N s1 := ⟨_, rfl⟩
  have HRR := Lib.hid hRR
  rw [← hRR]
  clear hRR
  have hs9 : s1.1.length ≤ 1000000 := by omega
  clear hl0 hm h0 hmost
  have HQ := Lib.hid hq
  clear hq
  go_enter Try.func122, Try.ntmps122
  go_wp2_with fail
  refine c0.mono ?_
  rintro e w1 ⟨rfl, h1, g1⟩
  have HR1 := Lib.hid h1
  have HG1 := Lib.hid g1
  clear c0 h1 g1
  go_wp2_with fail
  go_loopw [7, 8] (fun ov nv wr => ∃ (j : Nat) (acc : List (List UInt8)) (st : RSt), j ≤ N ∧ nv = .int .i64 j ∧ st.1.length ≤ 1000000 ∧ acc.length + j ≤ N ∧ Hid (RR = (acc ++ (readN rTx j st).1, (readN rTx j st).2)) ∧ Hid (TxOwn wr w.heap.size 9 ov acc) ∧ Hid (ReaderIs wr b st) ∧ Hid (w.grownBy wr (some b))) (fun _ nv _ => (intOf nv).toNat)
  case atStart => exact ⟨N, [], s1, by omega, rfl, hs9, by simp, Lib.hid (by rw [HRR.out]; simp), Lib.hid (ROwn.nil _ _ _), HR1, HG1⟩
  case round =>
    obtain ⟨j, acc, st, hj, rfl, hst, hal, hRe, hO, hR, hG⟩ := hrel
    clear HR1 HG1
    have hsz := hG.out.size
    by_cases hj0 : j = 0
    · subst hj0
      have hF : Hid (RR = (acc, st)) := by show _ = _; rw [hRe.out]; simp [readN]
      clear hRe
      go_wp2_with fail
      go_returns
      exact ⟨_, rfl, by rw [hF.out]; exact hO.out, by rw [hF.out]; exact hR.out, hG.out⟩
    · have hjp : 0 < j := by omega
      obtain ⟨sl, se⟩ := st
      by_cases hse : se = 0
      · subst hse
        obtain ⟨j2, hj2⟩ : ∃ i, j = i + 1 := ⟨j - 1, by omega⟩
        have hjw : IntKind.i64.wrap ((j : Int) - 1) = (j2 : Int) := by rw [IntWalk.i64_in _ (by omega)]; omega
        have hF : Hid (RR = ((acc ++ [(rTx (sl, 0)).1]) ++ (readN rTx j2 (rTx (sl, 0)).2).1, (readN rTx j2 (rTx (sl, 0)).2).2)) := by
          show _ = _
          rw [hRe.out, hj2, readN_succ _ _ _ rfl]; simp
        have hj3 : j2 < j := by omega
        have hal2 : acc.length + 1 + j2 ≤ N := by omega
        have hlf : (rTx (sl, 0)).2.1.length ≤ 1000000 := Nat.le_trans (rTx_left (sl, 0)) hst
        have hxl : (rTx (sl, 0)).1.length ≤ 65536 := rTx_len _
        obtain ⟨x, hx⟩ : ∃ x, x = (rTx (sl, 0)).1 := ⟨_, rfl⟩
        obtain ⟨st2, hst2⟩ : ∃ st, st = (rTx (sl, 0)).2 := ⟨_, rfl⟩
        have c1 : ∀ y, w.grownBy y (some b) → ReaderIs y b (sl, 0) → Calls Try.prog 123 #[.pointer (some ⟨q, 0, none⟩)] y fun e w' => e = .returned (.string (str x)) ∧ ReaderIs w' b st2 ∧ y.grownBy w' (some b) := fun y hgy hy => by
          rw [hx, hst2]
          exact Unpack1_calls q b (sl, 0) y (HQ.out.grown hgy (fun e => hqb (by injection e))) hy (by show sl.length ≤ _; have : sl.length ≤ 1000000 := hst; omega)
        rw [← hx, ← hst2] at hF
        rw [← hst2] at hlf
        rw [← hx] at hxl
        clear hj2 hRe hx hst2
        go_wp2_with fail
        refine (Err_calls b (sl, 0) _ hR.out).mono ?_
        rintro e wz ⟨rfl, hwz⟩
        subst hwz
        go_wp2_with fail
        refine (c1 _ hG.out hR.out).mono ?_
        rintro e w6 ⟨rfl, h6, g6⟩
        have hR6 := Lib.hid h6
        have hO6 : Hid (TxOwn w6 w.heap.size 9 _ acc) := hO.out.kept g6 (.inr (fun e => by have := (hO.out.lt _ e).1; omega))
        have hG6 := Lib.hid (grown_via hG.out g6 (fun q e => .inl (by cases e; rfl)))
        clear h6 g6 c1 hR hO hG
        have hs6 := hG6.out.size
        go_wp2_with (first | ((with_reducible show wpList _ _ _ (⟨some 24, _, _, _, _, _⟩ :: _) _ _); refine wpList_bsV rfl 83 9 (.tmp 23) rfl (.string (str x)) (by rfl) Try.underlying83 (.string ⟨#[]⟩) 1 Try.infoTx2 (by rfl) (by omega) (by omega) ?_; intro w8 s8 b8 n8; clear s8; have hR8 := Lib.hid (reader_below hR6.out b8); have hO8 := Lib.hid (hO6.out.below b8); have hG8 := Lib.hid (grown_then hG6.out b8); clear b8 hR6 hO6 hG6) | ((with_reducible show wpList _ _ _ (⟨some 25, _, _, _, _, _⟩ :: _) _ _); refine wpList_append_R rfl (.tmp 21) (.tmp 24) 83 rfl sCells_len sCells_one w.heap.size 9 (.string ⟨#[]⟩) 16 Try.underlying83 Try.infoTx (by rfl) (by omega) (by omega) _ acc [x] (by rfl) hO8.out _ (by rfl) (RAt.blk n8) (by intro _ e; cases e) (by simp; omega) hG8.out.size ?_; intro v9 w9 hk9 g9))
        have hG9 := Lib.hid (grown_via hG8.out g9 (fun q e => .inr (hO8.out.lt _ e).1))
        have hR9 := Lib.hid (reader_grownO hR8.out g9 (fun q e => by have := (hO8.out.lt _ e).1; omega))
        have hO9 := Lib.hid hk9
        clear g9 hk9 hG8 hR8 hO8 n8 hs6 hsz hxl
        go_roundw
        case rel => exact ⟨j2, acc ++ [x], st2, by omega, by go_num, hlf, by simp; omega, hF, hO9, hR9, hG9⟩
        case measure => simp [intOf]; omega
      · have hF : Hid (RR = (acc, (sl, se))) := by show _ = _; rw [hRe.out, readN_stop _ _ _ hse]; simp
        have hd : decide (se = 0) = false := decide_eq_false hse
        clear hRe
        go_wp2_with fail
        refine (Err_calls b (sl, se) _ hR.out).mono ?_
        rintro e wz ⟨rfl, hwz⟩
        subst hwz
        go_wp2_with fail
        go_returns
        exact ⟨_, rfl, by rw [hF.out]; exact hO.out, by rw [hF.out]; exact hR.out, hG.out⟩
end Go.Proofs.Ytlomofcnknpciaa
