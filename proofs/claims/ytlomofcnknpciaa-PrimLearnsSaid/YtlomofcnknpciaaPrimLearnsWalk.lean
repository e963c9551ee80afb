/-
  PrimLearns: who knows a secret key knows all that was wrapped for it; who knows nothing knows nothing.
-/
import Derived.Test.YtlomofcnknpciaaPrimAct
import Derived.Test.YtlomofcnknpciaaAwakePrim
import Derived.Test.YtlomofcnknpciaaPlain05
import Derived.Test.YtlomofcnknpciaaBookHas
import Derived.Test.YtlomofcnknpciaaBookSmall
import Derived.Test.YtlomofcnknpciaaBookKnown
set_option linter.unusedSimpArgs false
set_option linter.unusedVariables false
namespace Go.Proofs.Ytlomofcnknpciaa
open Go.RowKit

set_option maxHeartbeats 40000000 in
set_option maxRecDepth 100000 in
theorem walkPrimLearns {H : Type} {enc : TypeId × Value → H} {w : World} {base : Nat} {held : Bool} {R : Reach} {b0 : Nat} {d : DataW H} {pl : List MemPlace} (a : List UInt8) (ha : a.length = 32) (v : Value)
    (hv : Value.okWide Try.prog w R b0 99 v) (hd : DataW.Trod enc Try.prog w base (fun _ => true) held 99 v d pl) :
    Calls Try.prog 12 #[.agg (a.map bv).toArray, v] w fun e w' => e = .returned (.bool true) ∧ Below w.heap.size w w' := by
  obtain ⟨ao, len, cap, xs, rfl, hm, hE, hxs⟩ := open_acts hv hd
  clear hv hd
  unfold maxLen at hm
  obtain ⟨Ls, hLl, hLs⟩ := acts_lists hxs
  have HA := Lib.hid ha
  have hA0 : Blk (w.alloc (.cells (a.map bv).toArray 23)) w.heap.size (a.map bv).toArray 23 := Blk.new _ _ _
  have hb0 : Below w.heap.size w (w.alloc (.cells (a.map bv).toArray 23)) := below_alloc1 _ _
  have HE0 := Lib.hid (hE.below hb0)
  have hxl : xs.length = len := hE.1
  have HLL : Hid (Ls.length = len) := by show _ = _; rw [hLl, hxl]
  have HXL := Lib.hid hxl
  have HLS : Hid (∀ (i : Nat) (c : ActA) (L : List HsT), xs[i]? = some c → Ls[i]? = some L → HashesAt (w.alloc (.cells (a.map bv).toArray 23)) c.sv L ∧ L.length ≤ maxLen ∧ c.s.length ≤ maxLen) := fun i c L h1 h2 => ⟨(hLs i c L h1 h2).1.below hb0, (hLs i c L h1 h2).2⟩
  clear hE hxs ha hLl hLs hxl
  by_cases h24 : 40 < len
  · skip
    go_enter Try.func12, Try.ntmps12
    go_wp2_with fail
    generalize w.alloc (.cells (a.map bv).toArray 23) = W0 at hA0 hb0 HE0 HLS ⊢
    have hbW := Below.refl W0.heap.size W0
    have hAw := hA0
    have HA0 := Lib.hid hA0
    have HB0 := Lib.hid hb0
    clear hA0 hb0
    have ltq3 : w.heap.size < W0.heap.size := hAw.lt
    refine (awake5_calls _).mono ?_
    rintro e wq1 ⟨rfl, bq2⟩
    have hCq4 := hAw.below bq2 hAw.lt
    have hBq5 := hbW.trans (bq2.mono (hbW.size))
    clear hAw hbW
    clear bq2
    go_wp2_with fail
    have ltq8 : w.heap.size < wq1.heap.size := hCq4.lt
    refine (awake5_calls _).mono ?_
    rintro e wq6 ⟨rfl, bq7⟩
    have hCq9 := hCq4.below bq7 hCq4.lt
    have hBq10 := hBq5.trans (bq7.mono (hBq5.size))
    clear hCq4 hBq5
    clear bq7
    go_wp2_with fail
    go_returns
    exact ⟨rfl, HB0.out.trans (hBq10.mono HB0.out.size)⟩
  have hlen40 : len ≤ 40 := by omega
  obtain ⟨p, hp⟩ : ∃ p, p = pubT a := ⟨_, rfl⟩
  obtain ⟨m, hmk⟩ : ∃ m, m = markT p := ⟨_, rfl⟩
  have HPL : Hid (p.length = 32) := by show _ = _; rw [hp]; exact pubT_len _
  have HML : Hid (m.length = 32) := by show _ = _; rw [hmk]; exact markT_len _
  have HMK := Lib.hid hmk
  have c4 : ∀ (Bb bk sm nm dm : Nat) (y : World), BkAt (fun _ : Nat => False) y Bb (some ⟨bk, sm, nm, dm, [], fun _ => none⟩) → Bb ≤ y.heap.size → Calls Try.prog 53 #[.pointer (some ⟨bk, 0, none⟩), .agg (a.map bv).toArray] y fun e w' => e = .returned (.agg (p.map bv).toArray) ∧ BkAt (fun _ : Nat => False) w' Bb (some ⟨bk, sm, nm, dm, (noteT [] ⟨[a], [m]⟩), fun _ => none⟩) ∧ BkFrm (fun _ : Nat => False) (some ⟨bk, sm, nm, dm, [], fun _ => none⟩) y w' ∧ Below Bb y w' := fun Bb bk sm nm dm y h1 h2 => by
    rw [hmk, hp]
    exact PubO_calls a Bb (some ⟨bk, sm, nm, dm, [], fun _ => none⟩) _ rfl y h1 ⟨by simp, by simp⟩ h2 (fun q h => h.elim) HA.out
  have CWR : Hid (∀ (W0 : World) (Bb bk sm nm dm n : Nat) (fs : List FactT) (y : World) (once s : List UInt8) (sv : Value) (L : List HsT), BkAt (fun _ : Nat => False) y Bb (some ⟨bk, sm, nm, dm, fs, fun _ => none⟩) → Bb ≤ y.heap.size → W0.heap.size ≤ Bb → Below W0.heap.size W0 y → FsB fs n → n ≤ 900 → once.length = 32 → s.length ≤ 200 → L.length ≤ 40 → HashesAt W0 sv L → Calls Try.prog 54 #[.pointer (some ⟨bk, 0, none⟩), .agg (p.map bv).toArray, .agg (once.map bv).toArray, .string (str [97, 98, 111, 117, 116]), .string (str s), sv] y fun e w' => ∃ r, e = .returned r ∧ BkAt (fun _ : Nat => False) w' Bb (some ⟨bk, sm, nm, dm, ((wrapL p once L).foldl noteT fs), fun _ => none⟩) ∧ BkFrm (fun _ : Nat => False) (some ⟨bk, sm, nm, dm, fs, fun _ => none⟩) y w' ∧ Below Bb y w') := by
    intro W0 Bb bk sm nm dm n fs y once s sv L h1 h2 h3 h4 h5 h6 h7 h8 h9 h10
    refine (WrapO_calls p once [97, 98, 111, 117, 116] s sv L Bb (some ⟨bk, sm, nm, dm, fs, fun _ => none⟩) _ rfl y h1 (h5.room rfl (by omega) (by omega)) h2 (fun q h => h.elim) (fun w' _ b => h10.below (h4.trans (b.mono h3))) (by omega) HPL.out h7 (by simp) (by omega)).mono fun e w' ⟨g1, g2, g3, g4⟩ => ⟨_, g1, ?_, g3, g4⟩
    rw [wrapF_some] at g2
    exact g2
  clear hp hmk
  go_enter Try.func12, Try.ntmps12
  go_wp2_with fail
  generalize w.alloc (.cells (a.map bv).toArray 23) = W0 at hA0 hb0 HE0 HLS ⊢
  have hbW := Below.refl W0.heap.size W0
  have hAw := hA0
  have HA0 := Lib.hid hA0
  have HB0 := Lib.hid hb0
  clear hA0 hb0
  have ltq13 : w.heap.size < W0.heap.size := hAw.lt
  refine (awake5_calls _).mono ?_
  rintro e wq11 ⟨rfl, bq12⟩
  have hCq14 := hAw.below bq12 hAw.lt
  have hBq15 := hbW.trans (bq12.mono (hbW.size))
  clear hAw hbW
  clear bq12
  have hy0 := hBq15.size
  go_wp2_with fail
  have ltq18 : w.heap.size < wq11.heap.size := hCq14.lt
  refine (BNew_calls _).mono ?_
  rintro e wq16 ⟨bk, sm, nm, dm, rfl, hbi, bq17⟩
  have hCq19 := hCq14.below bq17 hCq14.lt
  have hBq20 := hBq15.trans (bq17.mono (hBq15.size))
  clear hCq14 hBq15
  clear bq17
  have hbk1 : BkAt (fun _ : Nat => False) wq16 wq11.heap.size (some ⟨bk, sm, nm, dm, [], fun _ => none⟩) := ⟨hbi.narrow (fun q h => h.elim), fun f h => (by cases h), fun s v h => by cases h⟩
  obtain ⟨Bb, hBb⟩ : ∃ n, n = wq11.heap.size := ⟨_, rfl⟩
  rw [← hBb] at hbk1 hy0
  have hBy1 : Bb ≤ wq16.heap.size := BkAt.le hbk1
  clear hbi hBb
  go_wp2_with ((with_reducible show wpList _ _ _ (⟨some 21, _, _, _, _, _⟩ :: _) _ _); refine wpList_load_mid rfl 23 (.tmp 2) rfl (w.heap.size) 0 (by rfl) (a.map bv) _ (blk_rangeP hCq19) Try.underlying23 rfl (by rw [List.length_map, HA.out]; exact Try.sizeHash) ?_)
  refine (c4 Bb bk sm nm dm _ hbk1 hBy1).mono ?_
  rintro e y2 ⟨rfl, hbk2, f2, b2⟩
  have hA2 := hCq19.frm f2 (by unfold NT; decide)
  have hB2 := hBq20.trans (b2.mono hy0)
  have hz2 := Lib.hid hbk2
  clear hbk1 hBy1 hbk2 f2 b2 hCq19 hBq20 c4
  go_wp2_with (first | ((with_reducible show wpList _ _ _ (⟨some 6, _, _, _, _, _⟩ :: _) _ _); refine wpList_allocZ rfl 23 rfl _ Try.zeroHash ?_; intro wq21 hsq22 baq23 hNq24) | ((with_reducible show wpList _ _ _ (⟨none, Op.store _ (.tmp 6) _, _, _, _, _⟩ :: _) _ _); refine wpList_storeBlk rfl 23 (.tmp 6) (.tmp 22) rfl (y2.heap.size) ((p.map bv).toArray) (by rfl) (by rfl) _ _ hNq24 (by rw [bv_size, HPL.out]; exact Try.sizeHash) (by rw [bv_size, HPL.out, Z32_size]) (bv_all _) ?_; intro wq25 hKq26 gq27; have bbq28 := below_new baq23 gq27 (Nat.le_refl _) baq23.size; have ltq29 : w.heap.size < y2.heap.size := hA2.lt; have hCq30 := hA2.below bbq28 hA2.lt; have hCq31 := Lib.hid (hz2.out.below bbq28); have hBq32 := hB2.trans (bbq28.mono (hB2.size)); clear hA2 hz2 hB2; clear bbq28 baq23 hNq24 gq27 hsq22))
  obtain ⟨pa, hpa⟩ : ∃ n, n = y2.heap.size := ⟨_, rfl⟩
  have hPB := Lib.hid hKq26
  rw [← hpa] at hPB ⊢
  have hK0 := hCq31
  have hBB := Lib.hid hBq32
  have hFS0 : Hid (FsB (noteT [] ⟨[a], [m]⟩) 1) := FsB.nil.note ⟨FOk.of11 HA.out HML.out, by simp, by simp⟩
  have hLT0 : Hid (LearnT (noteT [] ⟨[a], [m]⟩) a m Ls 0) := LearnT.start a m Ls
  clear hKq26 hBq32 hCq30 hpa
  go_loopw [7] (fun j wr => ∃ (i : Nat) (fs : List FactT), i ≤ len ∧ j = .int .i64 i ∧ Hid (BkAt (fun _ : Nat => False) wr Bb (some ⟨bk, sm, nm, dm, fs, fun _ => none⟩)) ∧ Hid (Blk wr pa (p.map bv).toArray 23) ∧ Hid (Below W0.heap.size W0 wr) ∧ Hid (FsB fs (1 + 3 * i)) ∧ Hid (LearnT fs a m Ls i)) (fun j _ => len - (intOf j).toNat)
  case atStart => exact ⟨0, _, by omega, rfl, hK0, hPB, hBB, hFS0, hLT0⟩
  case round =>
    obtain ⟨i, fs, hi, rfl, hK, hPB2, hB3, hFS, hLT⟩ := hrel
    clear hK0 hPB hBB hFS0 hLT0
    by_cases hlt : i < len
    · obtain ⟨g, off, c, rfl, hx, hrg⟩ := HE0.out.at i hlt
      obtain ⟨L, hL⟩ : ∃ L, Ls[i]? = some L := ⟨_, List.getElem?_eq_getElem (by have := HLL.out; omega)⟩
      obtain ⟨hsv, hLm, hsm⟩ := HLS.out i c L hx hL
      have HSV := Lib.hid hsv
      have HLi := Lib.hid hL
      obtain ⟨sao, sc, hse, hsc⟩ := hsv.slice
      obtain ⟨cd, ca, cb, cs, csv, hca, hcb⟩ := c
      have hse : csv = .slice sao L.length sc := hse
      subst hse
      have hcb : cb.length = 32 := hcb
      have HCB := Lib.hid hcb
      have hsm : cs.length ≤ maxLen := hsm
      unfold maxLen at hsm hLm
      have hg0 := actsLt HE0.out (by omega)
      have HRG : Hid (∀ y, Below W0.heap.size W0 y → y.rangeAt g (off + i * 67) (ActA.cells ⟨cd, ca, cb, cs, .slice sao L.length sc, hca, hcb⟩)) := fun y hy => (HE0.out.below hy).at' i _ hx
      have HCS : Hid (∀ y, Below W0.heap.size W0 y → y.cell? ⟨g, off + i * 67 + 65, none⟩ = some (.string (str cs)) ∧ y.cell? ⟨g, off + i * 67 + 66, none⟩ = some (.slice sao L.length sc)) := fun y hy => ⟨act_s (HRG.out y hy), act_v (HRG.out y hy)⟩
      have HCR : Hid (∀ y, Below W0.heap.size W0 y → y.rangeAt g (off + i * 67 + 33) (cb.map bv)) := fun y hy => act_b (HRG.out y hy)
      obtain ⟨hc1, hc2⟩ := HCS.out _ hB3.out
      clear hx hrg hL hsv hsc
      by_cases hs2 : 200 < cs.length
      · go_wp2_with fail
        go_returns
        exact ⟨rfl, HB0.out.trans (hB3.out.mono HB0.out.size)⟩
      by_cases hl2 : 40 < L.length
      · go_wp2_with fail
        go_returns
        exact ⟨rfl, HB0.out.trans (hB3.out.mono HB0.out.size)⟩
      have hsz : Bb ≤ wr.heap.size := BkAt.le hK.out
      have hpb := hPB2.out
      have hb4 := hB3.out
      have cW : ∀ y, BkAt (fun _ : Nat => False) y Bb (some ⟨bk, sm, nm, dm, fs, fun _ => none⟩) → Below W0.heap.size W0 y → Calls Try.prog 54 #[.pointer (some ⟨bk, 0, none⟩), .agg (p.map bv).toArray, .agg (cb.map bv).toArray, .string (str [97, 98, 111, 117, 116]), .string (str cs), .slice sao L.length sc] y fun e w' => ∃ r, e = .returned r ∧ BkAt (fun _ : Nat => False) w' Bb (some ⟨bk, sm, nm, dm, ((wrapL p cb L).foldl noteT fs), fun _ => none⟩) ∧ BkFrm (fun _ : Nat => False) (some ⟨bk, sm, nm, dm, fs, fun _ => none⟩) y w' ∧ Below Bb y w' := fun y h1 h2 => CWR.out W0 Bb bk sm nm dm (1 + 3 * i) fs y cb cs _ L h1 (BkAt.le h1) hy0 h2 hFS.out (by omega) HCB.out (by omega) (by omega) HSV.out
      go_wp2_with fail
      refine wp_region_held_drew (S := fun x => Blk x (pa) (p.map bv).toArray 23 ∧ Below W0.heap.size W0 x) (by kernel_rfl) ⟨hpb.drew, below_drewN hb4 1⟩ (fun hSq33 => ?_)
      have hHq34 := Lib.hid (hK.out.drew)
      refine wpAnyH_take (i := 0) (v := .pointer (some ⟨bk, 0, none⟩)) rfl (by kernel_rfl) (by kernel_rfl) (by kernel_rfl) (fun _ _ _ h => h) (Or.inl ⟨by rfl, fun x hx => by go_simp⟩) hSq33 ?_
      simp only [Act.put, List.getElem_toArray, List.getElem_cons_zero, List.getElem_cons_succ, List.setIfInBounds_toArray, List.set_cons_zero, List.set_cons_succ]
      refine wpAnyH_take (i := 1) rfl (by kernel_rfl) (by kernel_rfl) (by kernel_rfl) (fun _ _ _ h => h) (yieldsIf_load_mid (by rfl) 23 (.tmp 6) rfl (pa) 0 (by rfl) (p.map bv) _ (fun x hx => blk_rangeP hx.1) Try.underlying23 rfl (by rw [List.length_map, HPL.out]; exact Try.sizeHash)) hSq33 ?_
      simp only [Act.put, List.getElem_toArray, List.getElem_cons_zero, List.getElem_cons_succ, List.setIfInBounds_toArray, List.set_cons_zero, List.set_cons_succ]
      refine wpAnyH_take (i := 2) (v := .slice (some ⟨g, off, none⟩) len cap) rfl (by kernel_rfl) (by kernel_rfl) (by kernel_rfl) (fun _ _ _ h => h) (Or.inl ⟨by rfl, fun x hx => by go_simp⟩) hSq33 ?_
      simp only [Act.put, List.getElem_toArray, List.getElem_cons_zero, List.getElem_cons_succ, List.setIfInBounds_toArray, List.set_cons_zero, List.set_cons_succ]
      refine wpAnyH_take (i := 3) (v := .int .i64 i) rfl (by kernel_rfl) (by kernel_rfl) (by kernel_rfl) (fun _ _ _ h => h) (Or.inl ⟨by rfl, fun x hx => by go_simp⟩) hSq33 ?_
      simp only [Act.put, List.getElem_toArray, List.getElem_cons_zero, List.getElem_cons_succ, List.setIfInBounds_toArray, List.set_cons_zero, List.set_cons_succ]
      refine wpAnyH_take (i := 4) (v := .pointer (some ⟨g, off + i * 67, none⟩)) rfl (by kernel_rfl) (by kernel_rfl) (by kernel_rfl) (fun _ _ _ h => h) (Or.inl ⟨by rfl, fun x hx => by go_simp⟩) hSq33 ?_
      simp only [Act.put, List.getElem_toArray, List.getElem_cons_zero, List.getElem_cons_succ, List.setIfInBounds_toArray, List.set_cons_zero, List.set_cons_succ]
      refine wpAnyH_take (i := 5) (v := .pointer (some ⟨g, off + i * 67 + 33, none⟩)) rfl (by kernel_rfl) (by kernel_rfl) (by kernel_rfl) (fun _ _ _ h => h) (Or.inl ⟨by rfl, fun x hx => by go_simp⟩) hSq33 ?_
      simp only [Act.put, List.getElem_toArray, List.getElem_cons_zero, List.getElem_cons_succ, List.setIfInBounds_toArray, List.set_cons_zero, List.set_cons_succ]
      refine wpAnyH_take (i := 6) rfl (by kernel_rfl) (by kernel_rfl) (by kernel_rfl) (fun _ _ _ h => h) (yieldsIf_load_mid (by rfl) 23 (.tmp 50) rfl (g) (off + i * 67 + 33) (by rfl) (cb.map bv) _ (fun x hx => HCR.out x hx.2) Try.underlying23 rfl (by rw [List.length_map, HCB.out]; exact Try.sizeHash)) hSq33 ?_
      simp only [Act.put, List.getElem_toArray, List.getElem_cons_zero, List.getElem_cons_succ, List.setIfInBounds_toArray, List.set_cons_zero, List.set_cons_succ]
      refine wpAnyH_take (i := 7) (v := .slice (some ⟨g, off, none⟩) len cap) rfl (by kernel_rfl) (by kernel_rfl) (by kernel_rfl) (fun _ _ _ h => h) (Or.inl ⟨by rfl, fun x hx => by go_simp⟩) hSq33 ?_
      simp only [Act.put, List.getElem_toArray, List.getElem_cons_zero, List.getElem_cons_succ, List.setIfInBounds_toArray, List.set_cons_zero, List.set_cons_succ]
      refine wpAnyH_take (i := 8) (v := .int .i64 i) rfl (by kernel_rfl) (by kernel_rfl) (by kernel_rfl) (fun _ _ _ h => h) (Or.inl ⟨by rfl, fun x hx => by go_simp⟩) hSq33 ?_
      simp only [Act.put, List.getElem_toArray, List.getElem_cons_zero, List.getElem_cons_succ, List.setIfInBounds_toArray, List.set_cons_zero, List.set_cons_succ]
      refine wpAnyH_take (i := 9) (v := .pointer (some ⟨g, off + i * 67, none⟩)) rfl (by kernel_rfl) (by kernel_rfl) (by kernel_rfl) (fun _ _ _ h => h) (Or.inl ⟨by rfl, fun x hx => by go_simp⟩) hSq33 ?_
      simp only [Act.put, List.getElem_toArray, List.getElem_cons_zero, List.getElem_cons_succ, List.setIfInBounds_toArray, List.set_cons_zero, List.set_cons_succ]
      refine wpAnyH_take (i := 10) (v := .pointer (some ⟨g, off + i * 67 + 65, none⟩)) rfl (by kernel_rfl) (by kernel_rfl) (by kernel_rfl) (fun _ _ _ h => h) (Or.inl ⟨by rfl, fun x hx => by go_simp⟩) hSq33 ?_
      simp only [Act.put, List.getElem_toArray, List.getElem_cons_zero, List.getElem_cons_succ, List.setIfInBounds_toArray, List.set_cons_zero, List.set_cons_succ]
      refine wpAnyH_take (i := 11) (v := .string (str cs)) rfl (by kernel_rfl) (by kernel_rfl) (by kernel_rfl) (fun _ _ _ h => h) (Or.inl ⟨by rfl, fun x hx => by have hc := (HCS.out x hx.2).1; go_simp⟩) hSq33 ?_
      simp only [Act.put, List.getElem_toArray, List.getElem_cons_zero, List.getElem_cons_succ, List.setIfInBounds_toArray, List.set_cons_zero, List.set_cons_succ]
      refine wpAnyH_take (i := 12) (v := .slice (some ⟨g, off, none⟩) len cap) rfl (by kernel_rfl) (by kernel_rfl) (by kernel_rfl) (fun _ _ _ h => h) (Or.inl ⟨by rfl, fun x hx => by go_simp⟩) hSq33 ?_
      simp only [Act.put, List.getElem_toArray, List.getElem_cons_zero, List.getElem_cons_succ, List.setIfInBounds_toArray, List.set_cons_zero, List.set_cons_succ]
      refine wpAnyH_take (i := 13) (v := .int .i64 i) rfl (by kernel_rfl) (by kernel_rfl) (by kernel_rfl) (fun _ _ _ h => h) (Or.inl ⟨by rfl, fun x hx => by go_simp⟩) hSq33 ?_
      simp only [Act.put, List.getElem_toArray, List.getElem_cons_zero, List.getElem_cons_succ, List.setIfInBounds_toArray, List.set_cons_zero, List.set_cons_succ]
      refine wpAnyH_take (i := 14) (v := .pointer (some ⟨g, off + i * 67, none⟩)) rfl (by kernel_rfl) (by kernel_rfl) (by kernel_rfl) (fun _ _ _ h => h) (Or.inl ⟨by rfl, fun x hx => by go_simp⟩) hSq33 ?_
      simp only [Act.put, List.getElem_toArray, List.getElem_cons_zero, List.getElem_cons_succ, List.setIfInBounds_toArray, List.set_cons_zero, List.set_cons_succ]
      refine wpAnyH_take (i := 15) (v := .pointer (some ⟨g, off + i * 67 + 66, none⟩)) rfl (by kernel_rfl) (by kernel_rfl) (by kernel_rfl) (fun _ _ _ h => h) (Or.inl ⟨by rfl, fun x hx => by go_simp⟩) hSq33 ?_
      simp only [Act.put, List.getElem_toArray, List.getElem_cons_zero, List.getElem_cons_succ, List.setIfInBounds_toArray, List.set_cons_zero, List.set_cons_succ]
      refine wpAnyH_take (i := 16) (v := .slice sao L.length sc) rfl (by kernel_rfl) (by kernel_rfl) (by kernel_rfl) (fun _ _ _ h => h) (Or.inl ⟨by rfl, fun x hx => by have hc := (HCS.out x hx.2).2; go_simp⟩) hSq33 ?_
      simp only [Act.put, List.getElem_toArray, List.getElem_cons_zero, List.getElem_cons_succ, List.setIfInBounds_toArray, List.set_cons_zero, List.set_cons_succ]
      refine wpAnyH_ready (rs := [17]) (by kernel_rfl) (by simp) ?_
      refine AllReadyH.cons rfl (fun K hK => ?_) AllReadyH.nil
      go_simp
      go_wp2_with (go_at_call 54; refine (cW _ hHq34.out hSq33.2).mono ?_; rintro e wq35 ⟨rr, rfl, hbkq36, fq37, bq38⟩)
      have HBK6 := Lib.hid hbkq36
      refine hK.out _ _ ⟨hSq33.1.frm fq37 (by unfold NT; decide), hSq33.2.trans (bq38.mono hy0)⟩ (fun hSq39 => ?_)
      clear hK K hSq33 hbkq36 fq37 bq38
      refine wpAnyH_done (by kernel_rfl) ?_ _
      have hPB5 := Lib.hid hSq39.1
      have hB5 := Lib.hid hSq39.2
      clear hSq39 cW hc1 hc2
      have hFS5 : Hid (FsB ((wrapL p cb L).foldl noteT fs) (1 + 3 * (i + 1))) := (hFS.out.fold (wrapL_small HCB.out HSV.out.1 (by omega))).mono (by show _ + 3 ≤ _; omega)
      have hLT5 : Hid (LearnT ((wrapL p cb L).foldl noteT fs) a m Ls (i + 1)) := by
        have h1 := hLT.out
        show LearnT _ _ _ _ _
        rw [HMK.out] at h1 ⊢
        exact h1.step HLi.out
      go_wp2_with fail
      go_roundw
      case rel => exact ⟨i + 1, _, by omega, by go_num, HBK6, hPB5, hB5, hFS5, hLT5⟩
      case measure => simp [intOf]; omega
    · obtain rfl : i = len := by omega
      have hA3 := HA0.out.below hB3.out HA0.out.lt
      have hbz := Below.refl wr.heap.size wr
      have hfl := hFS.out.len
      have hfi := hFS.out.ins
      have huv := hFS.out.univLe (a := [a]) (by simp) (by omega)
      have huv0 := hFS.out.univLe (a := []) (by simp) (by omega)
      obtain ⟨z0, rfl⟩ : ∃ z, z = wr := ⟨_, rfl⟩
      have hrd : BookRd z0 bk fs := (show BookIs _ _ _ _ _ _ _ _ _ ∧ _ from hK.out).1.rd
      have HRD := Lib.hid hrd
      have HUV := Lib.hid huv
      have HUV0 := Lib.hid huv0
      have HLS2 := HLS
      clear hrd huv huv0 hPB2 hK CWR HLS hy0
      go_wp2_with (first | ((with_reducible show wpList _ _ _ (⟨some 64, _, _, _, _, _⟩ :: _) _ _); refine wpList_load_mid rfl 23 (.tmp 2) rfl (w.heap.size) 0 (by rfl) (a.map bv) _ (blk_rangeP hA3) Try.underlying23 rfl (by rw [List.length_map, HA.out]; exact Try.sizeHash) ?_) | ((with_reducible show wpList _ _ _ (⟨some 65, _, _, _, _, _⟩ :: _) _ _); refine wpList_bsH rfl 34 23 (.tmp 64) rfl a HA.out (by rfl) Try.underlying34 Try.infoHash2 ?_; intro qq40 wq41 eqq42 szq43 bbq44 hNq45; have ltq46 : w.heap.size < z0.heap.size := hA3.lt; have hCq47 := hA3.below bbq44 hA3.lt; have hBq48 := hbz.trans (bbq44.mono (hbz.size)); clear hA3 hbz; clear bbq44 eqq42 szq43))
      have hX := Lib.hid (HashesAt.one (c := 1) hNq45 HA.out (by omega))
      have HRD1 := Lib.hid (HRD.out.below hBq48)
      refine (Follows_gen _ _ [a] fs _ (known_calls _ [a] bk fs _ hX.out HRD1.out HUV.out (by omega) (by omega))).mono ?_
      rintro e w5 ⟨v5, R, rfl, hR, hRi, hRm, hRl, b5⟩
      have HR5 := Lib.hid hR
      have HRM := Lib.hid hRm
      have hB6 := hBq48.trans (b5.mono hBq48.size)
      clear hR hRi hRm b5 hNq45 hBq48 hX HRD1 hCq47
      go_wp2_with fail
      refine (plain4_calls _ R _ HR5.out (by omega)).mono ?_
      rintro e w6 ⟨v6, rfl, hY, b6⟩
      have HY6 := Lib.hid hY.at
      have hB7 := Lib.hid (hB6.trans (b6.mono hB6.size))
      obtain ⟨yao, yc, rfl, _⟩ := HY6.out.slice
      clear hY b6 hB6 HR5
      go_wp2_with fail
      have hb8 := Lib.hid (Below.refl w6.heap.size w6)
      go_loopw [9] (fun j wr => ∃ (q : Nat), q ≤ i ∧ j = .int .i64 q ∧ Hid (Below w6.heap.size w6 wr)) (fun j _ => i - (intOf j).toNat)
      case atStart => exact ⟨0, by omega, rfl, hb8⟩
      case round =>
        obtain ⟨q, hq, rfl, hB9⟩ := hrel
        obtain ⟨wq, rfl⟩ : ∃ z, z = wr := ⟨_, rfl⟩
        clear hb8
        by_cases hlt : q < i
        · obtain ⟨g, off, c, rfl, hx, hrg⟩ := HE0.out.at q hlt
          obtain ⟨L, hL⟩ : ∃ L, Ls[q]? = some L := ⟨_, List.getElem?_eq_getElem (by have := HLL.out; omega)⟩
          obtain ⟨hsv, hLm, hsm⟩ := HLS2.out q c L hx hL
          have HSV := Lib.hid hsv
          obtain ⟨sao, sc, hse, hsc⟩ := hsv.slice
          obtain ⟨cd, ca, cb, cs, csv, hca, hcb⟩ := c
          have hse : csv = .slice sao L.length sc := hse
          subst hse
          unfold maxLen at hLm
          have HSEC : Hid (∀ y ∈ L, y ∈ R) := fun y hy => (HRM.out y).2 (hLT.out.secs q L hlt hL y hy)
          have HCV : Hid (∀ y, Below W0.heap.size W0 y → y.cell? ⟨g, off + q * 67 + 66, none⟩ = some (.slice sao L.length sc)) := fun y hy => act_v ((HE0.out.below hy).at' q _ hx)
          have HW6 : Hid (Below W0.heap.size W0 w6) := hB3.out.trans (hB7.out.mono hB3.out.size)
          have hb10 := Lib.hid (Below.refl wq.heap.size wq)
          clear hx hrg hL hsv hsc hsm
          go_wp2_with fail
          go_loopw [10] (fun j wr => ∃ (k : Nat), k ≤ L.length ∧ j = .int .i64 k ∧ Hid (Below wq.heap.size wq wr)) (fun j _ => L.length - (intOf j).toNat)
          case atStart => exact ⟨0, by omega, rfl, hb10⟩
          case round =>
            obtain ⟨k, hk, rfl, hB11⟩ := hrel
            obtain ⟨wk, rfl⟩ : ∃ z, z = wr := ⟨_, rfl⟩
            clear hb10
            have hw6k : Below w6.heap.size w6 wk := hB9.out.trans (hB11.out.mono hB9.out.size)
            have hw0k : Below W0.heap.size W0 wk := HW6.out.trans (hw6k.mono HW6.out.size)
            have hcv := HCV.out _ hw0k
            by_cases hkl : k < L.length
            · obtain ⟨x, hx⟩ : ∃ x, L[k]? = some x := ⟨_, List.getElem?_eq_getElem hkl⟩
              have hsvk := HSV.out.below hw0k
              obtain ⟨sg, so, rfl, hrg⟩ := hsvk.range k x hx
              have HX : Hid (x.length = 32) := hsvk.1 x (List.mem_of_getElem? hx)
              have hin : decide (x ∈ R) = true := decide_eq_true (HSEC.out x (List.mem_of_getElem? hx))
              have cH : ∀ y, Below w6.heap.size w6 y → Calls Try.prog 26 #[.slice yao R.length yc, .agg (x.map bv).toArray] y fun e w' => e = .returned (.bool true) ∧ Below y.heap.size y w' := fun y hy => by
                rw [← hin]; exact Has_calls _ R x HX.out y (HY6.out.below hy) (by omega)
              clear hx hsvk hin
              go_wp2_with ((with_reducible show wpList _ _ _ (⟨some 92, _, _, _, _, _⟩ :: _) _ _); refine wpList_load_mid rfl 23 (.tmp 91) rfl sg (so + k * 32) (by rfl) (x.map bv) _ hrg Try.underlying23 rfl (by rw [List.length_map, HX.out]; exact Try.sizeHash) ?_)
              refine (cH _ hw6k).mono ?_
              rintro e wn ⟨rfl, bn⟩
              have hBn := Lib.hid (hB11.out.trans (bn.mono hB11.out.size))
              clear bn cH hrg hcv hw6k hw0k
              go_wp2_with fail
              go_roundw
              case rel => exact ⟨k + 1, by omega, by go_num, hBn⟩
              case measure => simp [intOf]; omega
            · obtain rfl : k = L.length := by omega
              have hBn := Lib.hid hw6k
              clear hw6k hw0k
              go_wp2_with fail
              clear hcv
              go_roundw
              case rel => exact ⟨q + 1, by omega, by go_num, hBn⟩
              case measure => simp [intOf]; omega
        · have hbF := hB7.out.trans (hB9.out.mono hB7.out.size)
          have hN0 : HashesAt wq (.slice none 0 0) [] := ⟨by simp, .inl ⟨rfl, _, rfl⟩⟩
          go_wp2_with fail
          refine (Follows_gen _ _ [] fs _ (known_calls _ [] bk fs _ hN0 (HRD.out.below hbF) HUV0.out (by omega) (by omega))).mono ?_
          rintro e w9 ⟨v9, R9, rfl, hR9, hRi9, hRm9, hRl9, b9⟩
          obtain rfl : R9 = [] := by
            cases R9 with
            | nil => rfl
            | cons x l => exact (fol_none hLT.out.some_ ((hRm9 x).1 List.mem_cons_self)).elim
          obtain ⟨rao, rc, rfl, _⟩ := hR9.slice
          have hfin := HB0.out.trans ((hB3.out.trans ((hbF.trans (b9.mono hbF.size)).mono hB3.out.size)).mono HB0.out.size)
          clear hR9 hRi9 hRm9 hRl9 b9 hbF hN0
          go_wp2_with fail
          go_returns
          exact ⟨rfl, hfin⟩
end Go.Proofs.Ytlomofcnknpciaa
