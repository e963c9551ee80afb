/-
  PrimNotes: the walk.
-/
import Derived.Test.YtjlpdbaknhbgdaaPrimNote
set_option linter.unusedSimpArgs false
set_option linter.unusedVariables false
namespace Go.Proofs.Ytjlpdbaknhbgdaa
open Go.RowKit

set_option maxHeartbeats 40000000 in
set_option maxRecDepth 100000 in
theorem walkPrimNotes {H : Type} {enc : TypeId × Value → H} {w : World} {base : Nat} {held : Bool} {R : Reach} {b0 : Nat} {d : DataW H} {pl : List MemPlace} (v : Value)
    (hv : Value.okWide Try.prog w R b0 22 v) (hd : DataW.Trod enc Try.prog w base (fun _ => true) held 22 v d pl) (v1 : Value) (L0 : List HsT) (hL0 : HashesAt w v1 L0) (hLm0 : L0.length ≤ maxLen) :
    Calls Try.prog 3 #[v, v1] w fun e w' => e = .returned (.bool true) ∧ Below w.heap.size w w' := by
  obtain ⟨ao, len, cap, xs, rfl, hm, hE, hxs⟩ := open_acts hv hd
  clear hv hd
  unfold maxLen at hm hLm0
  obtain ⟨fao, fc, rfl, hfc⟩ := hL0.slice
  obtain ⟨fn, hfn⟩ : ∃ n, n = L0.length := ⟨_, rfl⟩
  rw [← hfn] at hL0 hLm0 hfc ⊢
  have HFN := Lib.hid hfn
  clear hfn
  obtain ⟨Ls, hLl, hLs⟩ := acts_lists hxs
  have hxl : xs.length = len := hE.1
  have HE0 := Lib.hid hE
  have HLL : Hid (Ls.length = len) := by show _ = _; rw [hLl, hxl]
  have HLS := Lib.hid hLs
  have HL0 := Lib.hid hL0
  obtain ⟨N0, hN0⟩ : ∃ n, n = w.heap.size := ⟨_, rfl⟩
  have HN0 := Lib.hid hN0
  have hbW : Below N0 w w := Below.refl _ _
  rw [← hN0]
  clear hE hxs hLl hLs hxl hL0 hN0
  by_cases h40 : 40 < len
  · skip
    go_enter Try.func3, Try.ntmps3
    go_wp2_with fail
    refine (awake5_calls _).mono ?_
    rintro e wq1 ⟨rfl, bq2⟩
    have hBq3 := hbW.trans (bq2.mono (Nat.le_trans (Nat.le_of_eq HN0.out) hbW.size))
    clear hbW
    clear bq2
    go_wp2_with fail
    refine (awake5_calls _).mono ?_
    rintro e wq4 ⟨rfl, bq5⟩
    have hBq6 := hBq3.trans (bq5.mono (Nat.le_trans (Nat.le_of_eq HN0.out) hBq3.size))
    clear hBq3
    clear bq5
    go_wp2_with fail
    go_returns
    exact ⟨rfl, hBq6⟩
  by_cases h40f : 40 < fn
  · skip
    go_enter Try.func3, Try.ntmps3
    go_wp2_with fail
    refine (awake5_calls _).mono ?_
    rintro e wq7 ⟨rfl, bq8⟩
    have hBq9 := hbW.trans (bq8.mono (Nat.le_trans (Nat.le_of_eq HN0.out) hbW.size))
    clear hbW
    clear bq8
    go_wp2_with fail
    refine (awake5_calls _).mono ?_
    rintro e wq10 ⟨rfl, bq11⟩
    have hBq12 := hBq9.trans (bq11.mono (Nat.le_trans (Nat.le_of_eq HN0.out) hBq9.size))
    clear hBq9
    clear bq11
    go_wp2_with fail
    go_returns
    exact ⟨rfl, hBq12⟩
  go_enter Try.func3, Try.ntmps3
  go_wp2_with fail
  refine (awake5_calls _).mono ?_
  rintro e wq13 ⟨rfl, bq14⟩
  have hBq15 := hbW.trans (bq14.mono (Nat.le_trans (Nat.le_of_eq HN0.out) hbW.size))
  clear hbW
  clear bq14
  go_wp2_with fail
  have hlen40 : len ≤ 40 := by omega
  have hfn40 : fn ≤ 40 := by omega
  have HB1 := Lib.hid hBq15
  clear hBq15
  go_loopw [5] (fun j wr => ∃ i : Nat, i ≤ len ∧ j = .int .i64 i ∧ Hid (Below N0 w wr) ∧ Hid (∀ (k : Nat) (c : ActA) (L : List HsT), k < i → xs[k]? = some c → Ls[k]? = some L → c.s.length ≤ 200 ∧ L.length ≤ 40)) (fun j _ => len - (intOf j).toNat)
  case atStart => exact ⟨0, by omega, rfl, HB1, fun k c L hk => by omega⟩
  case round =>
    obtain ⟨i, hi, rfl, HB, HSM⟩ := hrel
    clear HB1
    by_cases hlt : i < len
    · obtain ⟨g, off, c, rfl, hx, hrg⟩ := HE0.out.at i hlt
      obtain ⟨L, hL⟩ : ∃ L, Ls[i]? = some L := ⟨_, List.getElem?_eq_getElem (by have := HLL.out; omega)⟩
      obtain ⟨hsv, hLm, hsm⟩ := HLS.out i c L hx hL
      have HX := Lib.hid hx
      have HL := Lib.hid hL
      have hrw : wr.rangeAt g (off + i * 67) c.cells := (HE0.out.below (by rw [← HN0.out]; exact HB.out)).at' i _ hx
      have hc1' := act_s hrw
      have hc2' := act_v hrw
      obtain ⟨sao, sc, hse, hsc⟩ := hsv.slice
      obtain ⟨cd, ca, cb, cs, csv, hca, hcb⟩ := c
      have hse : csv = .slice sao L.length sc := hse
      subst hse
      have hsm : cs.length ≤ maxLen := hsm
      have hc1 : wr.cell? ⟨g, off + i * 67 + 65, none⟩ = some (.string (str cs)) := hc1'
      have hc2 : wr.cell? ⟨g, off + i * 67 + 66, none⟩ = some (.slice sao L.length sc) := hc2'
      unfold maxLen at hsm hLm
      clear hx hL hrg hsv hrw hc1' hc2'
      by_cases hs2 : 200 < cs.length
      · go_wp2_with fail
        go_returns
        exact ⟨rfl, HB.out⟩
      by_cases hl2 : 40 < L.length
      · go_wp2_with fail
        go_returns
        exact ⟨rfl, HB.out⟩
      have HSM2 : Hid (∀ (k : Nat) (c : ActA) (L : List HsT), k < i + 1 → xs[k]? = some c → Ls[k]? = some L → c.s.length ≤ 200 ∧ L.length ≤ 40) := fun k c' L' hk h1 h2 => by
        by_cases hki : k < i
        · exact HSM.out k c' L' hki h1 h2
        · obtain rfl : k = i := by omega
          have e1 := HX.out.symm.trans h1
          have e2 := HL.out.symm.trans h2
          obtain rfl := Option.some.inj e1
          obtain rfl := Option.some.inj e2
          exact ⟨by show cs.length ≤ 200; omega, by omega⟩
      go_wp2_with fail
      go_roundw
      case rel => exact ⟨i + 1, by omega, by go_num, HB, HSM2⟩
      case measure => simp [intOf]; omega
    · obtain rfl : i = len := by omega
      obtain ⟨z0, rfl⟩ : ∃ z, z = wr := ⟨_, rfl⟩
      have hB1 := HB.out
      clear hlt HB
      go_wp2_with fail
      refine (BNew_calls _).mono ?_
      rintro e y1 ⟨bk, sm, nm, dm, rfl, hbi, b1⟩
      obtain ⟨Bb, hBb⟩ : ∃ n, n = z0.heap.size := ⟨_, rfl⟩
      have hN0B : N0 ≤ Bb := by rw [hBb]; exact Nat.le_trans (Nat.le_of_eq HN0.out) hB1.size
      have hbk1 : BkAt (fun _ : Nat => False) y1 Bb (some ⟨bk, sm, nm, dm, [], fun _ => none⟩) := by rw [hBb]; exact ⟨hbi.narrow (fun q h => h.elim), fun f h => (by cases h), fun s v h => by cases h⟩
      have hBy1 : Bb ≤ y1.heap.size := by rw [hBb]; exact b1.size
      have hb2 : Below N0 w y1 := hB1.trans (b1.mono (Nat.le_trans (Nat.le_of_eq HN0.out) hB1.size))
      clear hbi b1 hB1 hBb
      go_wp2_with ((with_reducible show wpList _ _ _ (⟨some 52, _, _, _, _, _⟩ :: _) _ _); refine wpList_bs0N rfl 32 31 rfl Try.underlying32 rfl _ _ Try.infoRS2 Bb hBy1 ?_; intro nv0 y2 b2 hn0; have hP0 : PNI N0 w Bb bk sm nm dm nv0 [] 0 y2 := ⟨hbk1.below b2, hn0, hb2.trans (b2.mono (Nat.le_trans hN0B hBy1)), Nat.le_trans hBy1 b2.size, rfl, (fun f hf => by cases hf), by simp⟩; clear hbk1 hBy1 hb2 b2 hn0)
      have HP0 := Lib.hid hP0
      clear hP0
      go_loopw [8, 9] (fun nv j wr => ∃ (q : Nat) (fss : List (List FactT)), q ≤ i ∧ j = .int .i64 q ∧ Hid (PNI N0 w Bb bk sm nm dm nv fss q wr)) (fun _ j _ => i - (intOf j).toNat)
      case atStart => exact ⟨0, _, by omega, rfl, HP0⟩
      case round =>
        obtain ⟨q, fss, hq, rfl, HP⟩ := hrel
        clear HP0
        by_cases hlt : q < i
        · obtain ⟨g, off, c, rfl, hx, hrg⟩ := HE0.out.at q hlt
          obtain ⟨L, hL⟩ : ∃ L, Ls[q]? = some L := ⟨_, List.getElem?_eq_getElem (by have := HLL.out; omega)⟩
          obtain ⟨hsv, hLm, hsm⟩ := HLS.out q c L hx hL
          have hsm2 := HSM.out q c L hlt hx hL
          obtain ⟨nvo, nvc, rfl⟩ := HP.out.note.slice
          have hrw : wr.rangeAt g (off + q * 67) c.cells := (HE0.out.below (by rw [← HN0.out]; exact HP.out.bel)).at' q _ hx
          obtain ⟨sao, sc, hse, hsc⟩ := hsv.slice
          have HSE := Lib.hid hse
          have HSVB : Hid (∀ y, Below N0 w y → HashesAt y (.slice sao L.length sc) L) := fun y hy => by have := hsv.below (show Below w.heap.size w y by rw [← HN0.out]; exact hy); rwa [hse] at this
          have HONE : Hid (c.sv.oneCell' = true) := by show _ = _; rw [hse]; rfl
          have hbz := Below.refl wr.heap.size wr
          obtain ⟨zr, rfl⟩ : ∃ z, z = wr := ⟨_, rfl⟩
          clear hx hL hrg hsv hse hsc
          go_upto_region 16 with (first | ((with_reducible show wpList _ _ _ (⟨some 62, _, _, _, _, _⟩ :: _) _ _); refine wpList_load_mid rfl 28 (.tmp 61) rfl g (off + q * 67) (by rfl) c.cells _ hrw Try.underlying28 rfl (act_sizeL c) ?_) | ((with_reducible show wpList _ _ _ (⟨some 10, _, _, _, _, _⟩ :: _) _ _); refine wpList_allocZ rfl 28 rfl _ Try.zeroAct ?_; intro wq16 hsq17 baq18 hNq19) | ((with_reducible show wpList _ _ _ (⟨none, Op.store _ (.tmp 10) _, _, _, _, _⟩ :: _) _ _); refine wpList_storeBlk rfl 28 (.tmp 10) (.tmp 62) rfl (zr.heap.size) (c.cells.toArray) (by rfl) (by rfl) _ _ hNq19 (act_sizeA c) (act_hold c) (act_all c HONE.out) ?_; intro wq20 hKq21 gq22; have bbq23 := below_new baq18 gq22 (Nat.le_refl _) baq18.size; have hBq24 := hbz.trans (bbq23.mono (hbz.size)); clear hbz; clear bbq23 baq18 hNq19 gq22 hsq17))
          obtain ⟨W1, hW1⟩ : ∃ z, z = wq20 := ⟨_, rfl⟩
          obtain ⟨xb, hxb⟩ : ∃ z, z = zr.heap.size := ⟨_, rfl⟩
          have hX : Blk W1 xb c.cells.toArray 28 := by rw [hW1, hxb]; exact hKq21
          have hz1 : Below zr.heap.size zr W1 := by rw [hW1]; exact hBq24
          rw [← hW1, ← hxb]
          clear hW1 hxb hKq21 hBq24 hrw
          obtain ⟨FS, hFS⟩ : ∃ x, x = fss.flatten.foldl noteT [] := ⟨_, rfl⟩
          obtain ⟨o, ho⟩ : ∃ o : Option BkSt, o = some ⟨bk, sm, nm, dm, FS, fun _ => none⟩ := ⟨_, rfl⟩
          have hbk : BkAt (fun _ : Nat => False) W1 Bb o := by rw [ho, hFS]; exact HP.out.bk.below hz1
          have hnt := HP.out.note.below hz1
          have hbl := HP.out.bel.trans (hz1.mono (Nat.le_trans hN0B HP.out.size))
          have hsz := Nat.le_trans HP.out.size hz1.size
          have HOV : Hid (o = some ⟨bk, sm, nm, dm, fss.flatten.foldl noteT [], fun _ => none⟩) := by show _ = _; rw [ho, hFS]
          have HRM0 : Hid (∀ k, k ≤ 10 → BkRoom k o) := fun k hk => by rw [HOV.out]; exact HP.out.room (by omega) k hk
          have HRM1 : Hid (∀ f, FSmall f → BkRoom 1 (bkNote o f)) := fun f hf => by rw [HOV.out]; exact HP.out.roomN (by omega) hf
          have hpo : Value.pointer (some ⟨bk, 0, none⟩) = bkPtr o := by rw [ho]; rfl
          have HPO := Lib.hid hpo
          have hka := act_d (blk_rangeP hX)
          have HLE : Hid (fss.length ≤ 1000000) := by show _ ≤ _; have := HP.out.len; omega
          obtain ⟨kd, hkd⟩ : ∃ n, n = c.d.toNat := ⟨_, rfl⟩
          rw [← hkd] at hka
          clear hFS ho hpo hz1 hkd
          have hk5 : kd % 5 = 0 ∨ kd % 5 = 1 ∨ kd % 5 = 2 ∨ kd % 5 = 3 ∨ kd % 5 = 4 := by omega
          have htm : ((kd : Int)).tmod 5 = ((kd % 5 : Nat) : Int) := by rw [Int.tmod_eq_emod_of_nonneg (by omega)]; omega
          rcases hk5 with hk5 | hk5 | hk5 | hk5 | hk5 <;> rw [hk5] at htm
          · obtain ⟨ky, hky⟩ : ∃ z, z = derive c.a c.s [] := ⟨_, rfl⟩
            have HKL : Hid (ky.length = 32) := by show _ = _; rw [hky]; exact hmac_len _ _
            have HKY := Lib.hid hky
            obtain ⟨o', ho'⟩ : ∃ x, x = bkNote o ⟨[c.a], [ky]⟩ := ⟨_, rfl⟩
            have HO := Lib.hid ho'
            have HSF : Hid (∀ f ∈ [⟨[c.a], [ky]⟩], FSmall f) := fun f hf => by
              rw [List.mem_singleton.1 hf]
              exact ⟨FOk.of11 c.ha HKL.out, by simp, by simp⟩
            have HOE : Hid (o' = some ⟨bk, sm, nm, dm, [⟨[c.a], [ky]⟩].foldl noteT (fss.flatten.foldl noteT []), fun _ => none⟩) := by show _ = _; rw [ho', HOV.out]; rfl
            have HT : Hid (∀ b ∈ [(xb, c.cells, 28)], ¬ NT b.2.2) := fun b hb => by rw [List.mem_singleton.1 hb]; show ¬ NT 28; unfold NT; decide
            have HRM : Hid (∀ qq, (qq = o ∨ qq = o') → BkRoom 1 qq) := fun qq hq => hq.elim (fun e => by rw [e]; exact HRM0.out 1 (by omega)) (fun e => by rw [e, HO.out]; exact HRM1.out _ (HSF.out _ (by simp)))
            clear hky ho'
            go_wp2_with fail
            have hS0 : NS N0 w Bb o o' (.slice nvo fss.length nvc) fss [(xb, c.cells, 28)] W1 := ⟨.inl hbk, hnt, hbl, hsz, fun b hb => by rw [List.mem_singleton.1 hb]; exact hX⟩
            clear hbk hnt hbl hsz hX hka
            refine wp_region_invL (NS N0 w Bb o o' (.slice nvo fss.length nvc) fss [(xb, c.cells, 28)]) (Tr Bb o o')
               [(fun v y => v = Value.slice none 0 0),
                (fun v y => v = Value.pointer (some ⟨bk, 0, none⟩)),
                (fun v y => v = Value.pointer (some ⟨xb, 1, none⟩)),
                (fun v y => v = Value.agg (c.a.map bv).toArray),
                (fun v y => v = Value.pointer (some ⟨xb, 65, none⟩)),
                (fun v y => v = Value.string (str c.s)),
                (fun v y => v = Value.agg (ky.map bv).toArray ∧ BkAt (fun _ : Nat => False) y Bb o'),
                (fun v y => HashOwn y Bb 25 v [ky]),
                (fun v y => v = Value.pointer (some ⟨xb, 1, none⟩)),
                (fun v y => v = Value.agg (c.a.map bv).toArray),
                (fun v y => HashOwn y Bb 25 v [c.a]),
                (fun v y => FactV y Bb v ⟨[c.a], [ky]⟩),
                (fun v y => RFactsOwn (fun _ => False) y Bb v [⟨[c.a], [ky]⟩]),
                (fun v y => RFactsOwn (fun _ => False) y Bb v [⟨[c.a], [ky]⟩]),
                (fun v y => RFactsOwn (fun _ => False) y Bb v [⟨[c.a], [ky]⟩])]
               [[], [], [], [(some 70, 2)], [], [(some 72, 4)], [(some 69, 1), (some 71, 3), (some 73, 5)], [(some 74, 6)], [], [(some 76, 8)], [(some 77, 9)], [(some 75, 7), (some 78, 10)], [(some 79, 11)], [(some 68, 0), (some 80, 12)], [(some 81, 13)]]
               [(some 68, 0), (some 69, 1), (some 70, 2), (some 71, 3), (some 72, 4), (some 73, 5), (some 74, 6), (some 75, 7), (some 76, 8), (some 77, 9), (some 78, 10), (some 79, 11), (some 80, 12), (some 81, 13), (some 11, 14)]
               [0, 1, 2, 3, 4, 5, 6, 7, 8, 9, 10, 11, 12, 13, 14] (by kernel_rfl) (by kernel_rfl) (by rfl) (fun _ _ _ _ e h => And.intro (e.trans (And.left h)) (And.right h)) ?_ (hS0.drew hN0B) ?_ ?_
            · exact ⟨fun v y y' t h => h, fun v y y' t h => h, fun v y y' t h => h, fun v y y' t h => h, fun v y y' t h => h, fun v y y' t h => h, fun v y y' t h => ⟨h.1, t.bk h.2⟩, fun v y y' t h => HashOwn.tr h t, fun v y y' t h => h, fun v y y' t h => h, fun v y y' t h => HashOwn.tr h t, fun v y y' t h => FactV.tr h t, fun v y y' t h => RFactsOwn.tr h t, fun v y y' t h => RFactsOwn.tr h t, fun v y y' t h => RFactsOwn.tr h t, trivial⟩
            · refine AllInv.cons (d := []) rfl rfl (fun vs y hS hd K hK => ?_) ?_
              · refine inv_yieldsIf (v := Value.slice none 0 0) (S := NS N0 w Bb o o' (.slice nvo fss.length nvc) fss [(xb, c.cells, 28)]) (Or.inl ⟨by rfl, fun x hx => by simp only [putsL, Act.put, List.setIfInBounds_toArray, List.set_cons_zero, List.set_cons_succ]; go_simp⟩) hS (hK.out _ _ hS (Tr.refl _ _ _ _) rfl)
              refine AllInv.cons (d := []) rfl rfl (fun vs y hS hd K hK => ?_) ?_
              · refine inv_yieldsIf (v := Value.pointer (some ⟨bk, 0, none⟩)) (S := NS N0 w Bb o o' (.slice nvo fss.length nvc) fss [(xb, c.cells, 28)]) (Or.inl ⟨by rfl, fun x hx => by simp only [putsL, Act.put, List.setIfInBounds_toArray, List.set_cons_zero, List.set_cons_succ]; go_simp⟩) hS (hK.out _ _ hS (Tr.refl _ _ _ _) rfl)
              refine AllInv.cons (d := []) rfl rfl (fun vs y hS hd K hK => ?_) ?_
              · refine inv_yieldsIf (v := Value.pointer (some ⟨xb, 1, none⟩)) (S := NS N0 w Bb o o' (.slice nvo fss.length nvc) fss [(xb, c.cells, 28)]) (Or.inl ⟨by rfl, fun x hx => by simp only [putsL, Act.put, List.setIfInBounds_toArray, List.set_cons_zero, List.set_cons_succ]; go_simp⟩) hS (hK.out _ _ hS (Tr.refl _ _ _ _) rfl)
              refine AllInv.cons (d := [(some 70, 2)]) rfl rfl (fun vs y hS hd K hK => ?_) ?_
              · obtain ⟨r2, -⟩ := hd
                have e2 : vs 2 = Value.pointer (some ⟨xb, 1, none⟩) := r2
                refine inv_yieldsIf (S := NS N0 w Bb o o' (.slice nvo fss.length nvc) fss [(xb, c.cells, 28)]) (yieldsIf_load_mid (by rfl) 26 (.tmp 70) rfl (xb) (0 + 1) (by simp only [putsL, Act.put, List.setIfInBounds_toArray, List.set_cons_zero, List.set_cons_succ, e2] <;> rfl) (c.a.map bv) _ (fun x hx => act_a (blk_rangeP (hx.mem 0 rfl))) Try.underlying26 rfl (by rw [List.length_map, c.ha]; exact Try.sizeHash)) hS (hK.out _ _ hS (Tr.refl _ _ _ _) rfl)
              refine AllInv.cons (d := []) rfl rfl (fun vs y hS hd K hK => ?_) ?_
              · refine inv_yieldsIf (v := Value.pointer (some ⟨xb, 65, none⟩)) (S := NS N0 w Bb o o' (.slice nvo fss.length nvc) fss [(xb, c.cells, 28)]) (Or.inl ⟨by rfl, fun x hx => by simp only [putsL, Act.put, List.setIfInBounds_toArray, List.set_cons_zero, List.set_cons_succ]; go_simp⟩) hS (hK.out _ _ hS (Tr.refl _ _ _ _) rfl)
              refine AllInv.cons (d := [(some 72, 4)]) rfl rfl (fun vs y hS hd K hK => ?_) ?_
              · obtain ⟨r4, -⟩ := hd
                have e4 : vs 4 = Value.pointer (some ⟨xb, 65, none⟩) := r4
                refine inv_yieldsIf (v := Value.string (str c.s)) (S := NS N0 w Bb o o' (.slice nvo fss.length nvc) fss [(xb, c.cells, 28)]) (Or.inl ⟨by rfl, fun x hx => by simp only [putsL, Act.put, List.setIfInBounds_toArray, List.set_cons_zero, List.set_cons_succ, e4]; have hc := act_s (blk_rangeP (hx.mem 0 rfl)); rw [Nat.zero_add] at hc; go_simp⟩) hS (hK.out _ _ hS (Tr.refl _ _ _ _) rfl)
              refine AllInv.cons (d := [(some 69, 1), (some 71, 3), (some 73, 5)]) rfl rfl (fun vs y hS hd K hK => ?_) ?_
              · obtain ⟨r1, r3, r5, -⟩ := hd
                have e1 : vs 1 = Value.pointer (some ⟨bk, 0, none⟩) := r1
                have e3 : vs 3 = Value.agg (c.a.map bv).toArray := r3
                have e5 : vs 5 = Value.string (str c.s) := r5
                simp only [putsL, Act.put, List.setIfInBounds_toArray, List.set_cons_zero, List.set_cons_succ] at hK ⊢
                simp only [e1, e3, e5] at hK ⊢
                go_simp
                go_wp2_with (go_at_call 7; refine (NS.call (f := ⟨[c.a], [ky]⟩) (r := Value.agg (ky.map bv).toArray) HO.out hN0B HT.out hS (fun qq hq hp hk => (by rw [HKY.out]; exact PDeriveO_calls c.a c.s [] Bb qq _ (HPO.out.trans hp.symm) y hk (HRM.out qq hq) hS.size (fun q h => h.elim) c.ha (by omega) (by simp)))).mono ?_; rintro e y1 ⟨rfl, n1, s1, t1⟩)
                exact hK.out _ _ s1 t1 ⟨rfl, n1⟩
              refine AllInv.cons (d := [(some 74, 6)]) rfl rfl (fun vs y hS hd K hK => ?_) ?_
              · obtain ⟨r6, -⟩ := hd
                have e6 : vs 6 = Value.agg (ky.map bv).toArray := r6.1
                simp only [putsL, Act.put, List.setIfInBounds_toArray, List.set_cons_zero, List.set_cons_succ] at hK ⊢
                simp only [e6] at hK ⊢
                rw [if_pos (by rfl)]
                refine wp_bsH 33 25 (.tmp 74) rfl ky HKL.out (by rfl) Try.underlying33 Try.infoH2 ?_
                intro g1 y1 q1 z1 b1 n1
                exact hK.out _ _ (hS.below b1 hN0B) (Tr.ofBelow b1 hS.size) (HashOwn.one n1 HKL.out (by rw [q1]; exact hS.size))
              refine AllInv.cons (d := []) rfl rfl (fun vs y hS hd K hK => ?_) ?_
              · refine inv_yieldsIf (v := Value.pointer (some ⟨xb, 1, none⟩)) (S := NS N0 w Bb o o' (.slice nvo fss.length nvc) fss [(xb, c.cells, 28)]) (Or.inl ⟨by rfl, fun x hx => by simp only [putsL, Act.put, List.setIfInBounds_toArray, List.set_cons_zero, List.set_cons_succ]; go_simp⟩) hS (hK.out _ _ hS (Tr.refl _ _ _ _) rfl)
              refine AllInv.cons (d := [(some 76, 8)]) rfl rfl (fun vs y hS hd K hK => ?_) ?_
              · obtain ⟨r8, -⟩ := hd
                have e8 : vs 8 = Value.pointer (some ⟨xb, 1, none⟩) := r8
                refine inv_yieldsIf (S := NS N0 w Bb o o' (.slice nvo fss.length nvc) fss [(xb, c.cells, 28)]) (yieldsIf_load_mid (by rfl) 26 (.tmp 76) rfl (xb) (0 + 1) (by simp only [putsL, Act.put, List.setIfInBounds_toArray, List.set_cons_zero, List.set_cons_succ, e8] <;> rfl) (c.a.map bv) _ (fun x hx => act_a (blk_rangeP (hx.mem 0 rfl))) Try.underlying26 rfl (by rw [List.length_map, c.ha]; exact Try.sizeHash)) hS (hK.out _ _ hS (Tr.refl _ _ _ _) rfl)
              refine AllInv.cons (d := [(some 77, 9)]) rfl rfl (fun vs y hS hd K hK => ?_) ?_
              · obtain ⟨r9, -⟩ := hd
                have e9 : vs 9 = Value.agg (c.a.map bv).toArray := r9
                simp only [putsL, Act.put, List.setIfInBounds_toArray, List.set_cons_zero, List.set_cons_succ] at hK ⊢
                simp only [e9] at hK ⊢
                rw [if_pos (by rfl)]
                refine wp_bsH 33 25 (.tmp 77) rfl c.a c.ha (by rfl) Try.underlying33 Try.infoH2 ?_
                intro g1 y1 q1 z1 b1 n1
                exact hK.out _ _ (hS.below b1 hN0B) (Tr.ofBelow b1 hS.size) (HashOwn.one n1 c.ha (by rw [q1]; exact hS.size))
              refine AllInv.cons (d := [(some 75, 7), (some 78, 10)]) rfl rfl (fun vs y hS hd K hK => ?_) ?_
              · obtain ⟨r7, r10, -⟩ := hd
                have r7 : HashOwn y Bb 25 (vs 7) [ky] := r7
                obtain ⟨p7, c7, e7⟩ := r7.slice
                rw [e7] at r7
                have r10 : HashOwn y Bb 25 (vs 10) [c.a] := r10
                obtain ⟨p10, c10, e10⟩ := r10.slice
                rw [e10] at r10
                simp only [putsL, Act.put, List.setIfInBounds_toArray, List.set_cons_zero, List.set_cons_succ] at hK ⊢
                simp only [e7, e10] at hK ⊢
                go_simp
                go_wp2_with (go_at_call 6; refine (Made_calls _ _ _ _ _ _ _).mono ?_; rintro e y1 ⟨rfl, b1⟩)
                exact hK.out _ _ (hS.below b1 hN0B) (Tr.ofBelow b1 hS.size) ⟨_, _, rfl, r10.below b1, r7.below b1⟩
              refine AllInv.cons (d := [(some 79, 11)]) rfl rfl (fun vs y hS hd K hK => ?_) ?_
              · obtain ⟨r11, -⟩ := hd
                have r11 : FactV y Bb (vs 11) ⟨[c.a], [ky]⟩ := r11
                obtain ⟨x11, z11, e11, hx11, hz11⟩ := r11
                simp only [putsL, Act.put, List.setIfInBounds_toArray, List.set_cons_zero, List.set_cons_succ] at hK ⊢
                simp only [e11] at hK ⊢
                rw [if_pos (by rfl)]
                refine wp_factsLit 31 35 1 #[(0, .tmp 79)] rfl rfl Bb hS.size [⟨[c.a], [ky]⟩] [(x11, z11)] rfl (by omega) (by omega) rfl (pairs1 hx11 hz11) (by simp only [List.map_toArray, List.map_cons, List.map_nil, List.zipIdx_cons, List.zipIdx_nil]; rfl) Try.underlying31 Try.infoRF2 ?_
                intro v1 y1 b1 n1
                exact hK.out _ _ (hS.below b1 hN0B) (Tr.ofBelow b1 hS.size) n1
              refine AllInv.cons (d := [(some 68, 0), (some 80, 12)]) rfl rfl (fun vs y hS hd K hK => ?_) ?_
              · obtain ⟨r0, r12, -⟩ := hd
                have e0 : vs 0 = Value.slice none 0 0 := r0
                have r12 : RFactsOwn (fun _ => False) y Bb (vs 12) [⟨[c.a], [ky]⟩] := r12
                simp only [putsL, Act.put, List.setIfInBounds_toArray, List.set_cons_zero, List.set_cons_succ] at hK ⊢
                simp only [e0] at hK ⊢
                rw [if_pos (by rfl)]
                refine wp_rfNil (.tmp 68) (.tmp 80) 31 rfl Try.underlying31 Try.infoRF3 Bb hS.size [⟨[c.a], [ky]⟩] rfl (vs 12) rfl r12 (by simp) (by simp) ?_
                intro v1 y1 b1 n1
                exact hK.out _ _ (hS.below b1 hN0B) (Tr.ofBelow b1 hS.size) n1
              refine AllInv.cons (d := [(some 81, 13)]) rfl rfl (fun vs y hS hd K hK => ?_) ?_
              · obtain ⟨r13, -⟩ := hd
                refine inv_yieldsIf (v := vs 13) (S := NS N0 w Bb o o' (.slice nvo fss.length nvc) fss [(xb, c.cells, 28)]) (Or.inl ⟨by rfl, fun x hx => by simp only [putsL, Act.put, List.setIfInBounds_toArray, List.set_cons_zero, List.set_cons_succ]; go_simp⟩) hS (hK.out _ _ hS (Tr.refl _ _ _ _) r13)
              exact AllInv.nil
            · intro vs y hS hd
              obtain ⟨r0, r1, r2, r3, r4, r5, r6, r7, r8, r9, r10, r11, r12, r13, r14, -⟩ := hd
              have e0 : vs 0 = Value.slice none 0 0 := r0
              have e1 : vs 1 = Value.pointer (some ⟨bk, 0, none⟩) := r1
              have e2 : vs 2 = Value.pointer (some ⟨xb, 1, none⟩) := r2
              have e3 : vs 3 = Value.agg (c.a.map bv).toArray := r3
              have e4 : vs 4 = Value.pointer (some ⟨xb, 65, none⟩) := r4
              have e5 : vs 5 = Value.string (str c.s) := r5
              have e6 : vs 6 = Value.agg (ky.map bv).toArray := r6.1
              have e8 : vs 8 = Value.pointer (some ⟨xb, 1, none⟩) := r8
              have e9 : vs 9 = Value.agg (c.a.map bv).toArray := r9
              simp only [putsL, Act.put, List.setIfInBounds_toArray, List.set_cons_zero, List.set_cons_succ]
              simp only [e0, e1, e2, e3, e4, e5, e6, e8, e9]
              have hRF : RFactsOwn (fun _ => False) y Bb (vs 14) [⟨[c.a], [ky]⟩] := r14
              have hBK : BkAt (fun _ : Nat => False) y Bb o' := r6.2
              obtain ⟨fo, fm, fq, hfe⟩ : ∃ ao n c, vs 14 = .slice ao n c := by
                obtain ⟨ao, c, e, -⟩ := hRF.at.slice
                exact ⟨_, _, _, e⟩
              rw [hfe] at hRF
              simp only [hfe]
              have hNT := hS.note
              have hBL := hS.bel
              have hSZ := hS.size
              clear hS
              go_wp2_with (first | ((with_reducible show wpList _ _ _ (⟨some 177, _, _, _, _, _⟩ :: _) _ _); refine wpList_bs1S rfl 32 31 (.tmp 176) rfl _ (by rfl) rfl Try.underlying32 _ Try.infoRS2 ?_; intro g2 y2 b2 n2; have hRF2 := hRF.below b2; have hNT2 := hNT.below b2; have hBK2 := hBK.below b2; have hBL2 := hBL.trans (b2.mono (Nat.le_trans hN0B hSZ)); have hSZ2 := Nat.le_trans hSZ b2.size; clear hRF hNT hBK hBL hSZ b2) | ((with_reducible show wpList _ _ _ (⟨some 178, _, _, _, _, _⟩ :: _) _ _); refine wpList_noteAdd rfl (.tmp 175) (.tmp 177) 32 rfl Try.underlying32 Try.infoRS3 Bb hSZ2 fss [⟨[c.a], [ky]⟩] _ (by rfl) hNT2 _ g2 1 (by rfl) _ n2 hRF2 HLE.out ?_; intro nv3 y3 n3 f3 b3; have HPN : Hid (PNI N0 w Bb bk sm nm dm nv3 (fss ++ [[⟨[c.a], [ky]⟩]]) (q + 1) y3) := HP.out.next (by rw [← HOE.out]; exact hBK2.frm f3 (by decide)) n3 (hBL2.trans (b3.mono hN0B)) (Nat.le_trans hSZ2 b3.size) HSF.out (by simp [wrapL]); clear hRF2 hNT2 hBK2 hBL2 hSZ2 n2 n3 f3 b3))
              go_roundw
              case rel => exact ⟨q + 1, _, by omega, by go_num, HPN⟩
              case measure => simp [intOf]; omega
          · obtain ⟨ky, hky⟩ : ∃ z, z = mixT c.a c.b := ⟨_, rfl⟩
            have HKL : Hid (ky.length = 32) := by show _ = _; rw [hky]; exact mixT_len _ _
            have HKY := Lib.hid hky
            obtain ⟨o', ho'⟩ : ∃ x, x = bkNote o ⟨[c.a, c.b], [ky]⟩ := ⟨_, rfl⟩
            have HO := Lib.hid ho'
            have HSF : Hid (∀ f ∈ [⟨[c.a, c.b], [ky]⟩], FSmall f) := fun f hf => by
              rw [List.mem_singleton.1 hf]
              exact ⟨⟨by simp [c.ha, c.hb], by simp [HKL.out], by simp, by simp⟩, by simp, by simp⟩
            have HOE : Hid (o' = some ⟨bk, sm, nm, dm, [⟨[c.a, c.b], [ky]⟩].foldl noteT (fss.flatten.foldl noteT []), fun _ => none⟩) := by show _ = _; rw [ho', HOV.out]; rfl
            have HT : Hid (∀ b ∈ [(xb, c.cells, 28)], ¬ NT b.2.2) := fun b hb => by rw [List.mem_singleton.1 hb]; show ¬ NT 28; unfold NT; decide
            have HRM : Hid (∀ qq, (qq = o ∨ qq = o') → BkRoom 1 qq) := fun qq hq => hq.elim (fun e => by rw [e]; exact HRM0.out 1 (by omega)) (fun e => by rw [e, HO.out]; exact HRM1.out _ (HSF.out _ (by simp)))
            clear hky ho'
            go_wp2_with fail
            have hS0 : NS N0 w Bb o o' (.slice nvo fss.length nvc) fss [(xb, c.cells, 28)] W1 := ⟨.inl hbk, hnt, hbl, hsz, fun b hb => by rw [List.mem_singleton.1 hb]; exact hX⟩
            clear hbk hnt hbl hsz hX hka
            refine wp_region_invL (NS N0 w Bb o o' (.slice nvo fss.length nvc) fss [(xb, c.cells, 28)]) (Tr Bb o o')
               [(fun v y => v = Value.slice none 0 0),
                (fun v y => v = Value.pointer (some ⟨bk, 0, none⟩)),
                (fun v y => v = Value.pointer (some ⟨xb, 1, none⟩)),
                (fun v y => v = Value.agg (c.a.map bv).toArray),
                (fun v y => v = Value.pointer (some ⟨xb, 33, none⟩)),
                (fun v y => v = Value.agg (c.b.map bv).toArray),
                (fun v y => v = Value.agg (ky.map bv).toArray ∧ BkAt (fun _ : Nat => False) y Bb o'),
                (fun v y => HashOwn y Bb 25 v [ky]),
                (fun v y => v = Value.pointer (some ⟨xb, 1, none⟩)),
                (fun v y => v = Value.agg (c.a.map bv).toArray),
                (fun v y => v = Value.pointer (some ⟨xb, 33, none⟩)),
                (fun v y => v = Value.agg (c.b.map bv).toArray),
                (fun v y => HashOwn y Bb 25 v [c.a, c.b]),
                (fun v y => FactV y Bb v ⟨[c.a, c.b], [ky]⟩),
                (fun v y => RFactsOwn (fun _ => False) y Bb v [⟨[c.a, c.b], [ky]⟩]),
                (fun v y => RFactsOwn (fun _ => False) y Bb v [⟨[c.a, c.b], [ky]⟩]),
                (fun v y => RFactsOwn (fun _ => False) y Bb v [⟨[c.a, c.b], [ky]⟩])]
               [[], [], [], [(some 86, 2)], [], [(some 88, 4)], [(some 85, 1), (some 87, 3), (some 89, 5)], [(some 90, 6)], [], [(some 92, 8)], [], [(some 94, 10)], [(some 93, 9), (some 95, 11)], [(some 91, 7), (some 96, 12)], [(some 97, 13)], [(some 84, 0), (some 98, 14)], [(some 99, 15)]]
               [(some 84, 0), (some 85, 1), (some 86, 2), (some 87, 3), (some 88, 4), (some 89, 5), (some 90, 6), (some 91, 7), (some 92, 8), (some 93, 9), (some 94, 10), (some 95, 11), (some 96, 12), (some 97, 13), (some 98, 14), (some 99, 15), (some 11, 16)]
               [0, 1, 2, 3, 4, 5, 6, 7, 8, 9, 10, 11, 12, 13, 14, 15, 16] (by kernel_rfl) (by kernel_rfl) (by rfl) (fun _ _ _ _ e h => And.intro (e.trans (And.left h)) (And.right h)) ?_ (hS0.drew hN0B) ?_ ?_
            · exact ⟨fun v y y' t h => h, fun v y y' t h => h, fun v y y' t h => h, fun v y y' t h => h, fun v y y' t h => h, fun v y y' t h => h, fun v y y' t h => ⟨h.1, t.bk h.2⟩, fun v y y' t h => HashOwn.tr h t, fun v y y' t h => h, fun v y y' t h => h, fun v y y' t h => h, fun v y y' t h => h, fun v y y' t h => HashOwn.tr h t, fun v y y' t h => FactV.tr h t, fun v y y' t h => RFactsOwn.tr h t, fun v y y' t h => RFactsOwn.tr h t, fun v y y' t h => RFactsOwn.tr h t, trivial⟩
            · refine AllInv.cons (d := []) rfl rfl (fun vs y hS hd K hK => ?_) ?_
              · refine inv_yieldsIf (v := Value.slice none 0 0) (S := NS N0 w Bb o o' (.slice nvo fss.length nvc) fss [(xb, c.cells, 28)]) (Or.inl ⟨by rfl, fun x hx => by simp only [putsL, Act.put, List.setIfInBounds_toArray, List.set_cons_zero, List.set_cons_succ]; go_simp⟩) hS (hK.out _ _ hS (Tr.refl _ _ _ _) rfl)
              refine AllInv.cons (d := []) rfl rfl (fun vs y hS hd K hK => ?_) ?_
              · refine inv_yieldsIf (v := Value.pointer (some ⟨bk, 0, none⟩)) (S := NS N0 w Bb o o' (.slice nvo fss.length nvc) fss [(xb, c.cells, 28)]) (Or.inl ⟨by rfl, fun x hx => by simp only [putsL, Act.put, List.setIfInBounds_toArray, List.set_cons_zero, List.set_cons_succ]; go_simp⟩) hS (hK.out _ _ hS (Tr.refl _ _ _ _) rfl)
              refine AllInv.cons (d := []) rfl rfl (fun vs y hS hd K hK => ?_) ?_
              · refine inv_yieldsIf (v := Value.pointer (some ⟨xb, 1, none⟩)) (S := NS N0 w Bb o o' (.slice nvo fss.length nvc) fss [(xb, c.cells, 28)]) (Or.inl ⟨by rfl, fun x hx => by simp only [putsL, Act.put, List.setIfInBounds_toArray, List.set_cons_zero, List.set_cons_succ]; go_simp⟩) hS (hK.out _ _ hS (Tr.refl _ _ _ _) rfl)
              refine AllInv.cons (d := [(some 86, 2)]) rfl rfl (fun vs y hS hd K hK => ?_) ?_
              · obtain ⟨r2, -⟩ := hd
                have e2 : vs 2 = Value.pointer (some ⟨xb, 1, none⟩) := r2
                refine inv_yieldsIf (S := NS N0 w Bb o o' (.slice nvo fss.length nvc) fss [(xb, c.cells, 28)]) (yieldsIf_load_mid (by rfl) 26 (.tmp 86) rfl (xb) (0 + 1) (by simp only [putsL, Act.put, List.setIfInBounds_toArray, List.set_cons_zero, List.set_cons_succ, e2] <;> rfl) (c.a.map bv) _ (fun x hx => act_a (blk_rangeP (hx.mem 0 rfl))) Try.underlying26 rfl (by rw [List.length_map, c.ha]; exact Try.sizeHash)) hS (hK.out _ _ hS (Tr.refl _ _ _ _) rfl)
              refine AllInv.cons (d := []) rfl rfl (fun vs y hS hd K hK => ?_) ?_
              · refine inv_yieldsIf (v := Value.pointer (some ⟨xb, 33, none⟩)) (S := NS N0 w Bb o o' (.slice nvo fss.length nvc) fss [(xb, c.cells, 28)]) (Or.inl ⟨by rfl, fun x hx => by simp only [putsL, Act.put, List.setIfInBounds_toArray, List.set_cons_zero, List.set_cons_succ]; go_simp⟩) hS (hK.out _ _ hS (Tr.refl _ _ _ _) rfl)
              refine AllInv.cons (d := [(some 88, 4)]) rfl rfl (fun vs y hS hd K hK => ?_) ?_
              · obtain ⟨r4, -⟩ := hd
                have e4 : vs 4 = Value.pointer (some ⟨xb, 33, none⟩) := r4
                refine inv_yieldsIf (S := NS N0 w Bb o o' (.slice nvo fss.length nvc) fss [(xb, c.cells, 28)]) (yieldsIf_load_mid (by rfl) 26 (.tmp 88) rfl (xb) (0 + 33) (by simp only [putsL, Act.put, List.setIfInBounds_toArray, List.set_cons_zero, List.set_cons_succ, e4] <;> rfl) (c.b.map bv) _ (fun x hx => act_b (blk_rangeP (hx.mem 0 rfl))) Try.underlying26 rfl (by rw [List.length_map, c.hb]; exact Try.sizeHash)) hS (hK.out _ _ hS (Tr.refl _ _ _ _) rfl)
              refine AllInv.cons (d := [(some 85, 1), (some 87, 3), (some 89, 5)]) rfl rfl (fun vs y hS hd K hK => ?_) ?_
              · obtain ⟨r1, r3, r5, -⟩ := hd
                have e1 : vs 1 = Value.pointer (some ⟨bk, 0, none⟩) := r1
                have e3 : vs 3 = Value.agg (c.a.map bv).toArray := r3
                have e5 : vs 5 = Value.agg (c.b.map bv).toArray := r5
                simp only [putsL, Act.put, List.setIfInBounds_toArray, List.set_cons_zero, List.set_cons_succ] at hK ⊢
                simp only [e1, e3, e5] at hK ⊢
                go_simp
                go_wp2_with (go_at_call 8; refine (NS.call (f := ⟨[c.a, c.b], [ky]⟩) (r := Value.agg (ky.map bv).toArray) HO.out hN0B HT.out hS (fun qq hq hp hk => (by rw [HKY.out]; exact PMixO_calls c.a c.b Bb qq _ (HPO.out.trans hp.symm) y hk (HRM.out qq hq) hS.size (fun q h => h.elim) c.ha c.hb))).mono ?_; rintro e y1 ⟨rfl, n1, s1, t1⟩)
                exact hK.out _ _ s1 t1 ⟨rfl, n1⟩
              refine AllInv.cons (d := [(some 90, 6)]) rfl rfl (fun vs y hS hd K hK => ?_) ?_
              · obtain ⟨r6, -⟩ := hd
                have e6 : vs 6 = Value.agg (ky.map bv).toArray := r6.1
                simp only [putsL, Act.put, List.setIfInBounds_toArray, List.set_cons_zero, List.set_cons_succ] at hK ⊢
                simp only [e6] at hK ⊢
                rw [if_pos (by rfl)]
                refine wp_bsH 33 25 (.tmp 90) rfl ky HKL.out (by rfl) Try.underlying33 Try.infoH2 ?_
                intro g1 y1 q1 z1 b1 n1
                exact hK.out _ _ (hS.below b1 hN0B) (Tr.ofBelow b1 hS.size) (HashOwn.one n1 HKL.out (by rw [q1]; exact hS.size))
              refine AllInv.cons (d := []) rfl rfl (fun vs y hS hd K hK => ?_) ?_
              · refine inv_yieldsIf (v := Value.pointer (some ⟨xb, 1, none⟩)) (S := NS N0 w Bb o o' (.slice nvo fss.length nvc) fss [(xb, c.cells, 28)]) (Or.inl ⟨by rfl, fun x hx => by simp only [putsL, Act.put, List.setIfInBounds_toArray, List.set_cons_zero, List.set_cons_succ]; go_simp⟩) hS (hK.out _ _ hS (Tr.refl _ _ _ _) rfl)
              refine AllInv.cons (d := [(some 92, 8)]) rfl rfl (fun vs y hS hd K hK => ?_) ?_
              · obtain ⟨r8, -⟩ := hd
                have e8 : vs 8 = Value.pointer (some ⟨xb, 1, none⟩) := r8
                refine inv_yieldsIf (S := NS N0 w Bb o o' (.slice nvo fss.length nvc) fss [(xb, c.cells, 28)]) (yieldsIf_load_mid (by rfl) 26 (.tmp 92) rfl (xb) (0 + 1) (by simp only [putsL, Act.put, List.setIfInBounds_toArray, List.set_cons_zero, List.set_cons_succ, e8] <;> rfl) (c.a.map bv) _ (fun x hx => act_a (blk_rangeP (hx.mem 0 rfl))) Try.underlying26 rfl (by rw [List.length_map, c.ha]; exact Try.sizeHash)) hS (hK.out _ _ hS (Tr.refl _ _ _ _) rfl)
              refine AllInv.cons (d := []) rfl rfl (fun vs y hS hd K hK => ?_) ?_
              · refine inv_yieldsIf (v := Value.pointer (some ⟨xb, 33, none⟩)) (S := NS N0 w Bb o o' (.slice nvo fss.length nvc) fss [(xb, c.cells, 28)]) (Or.inl ⟨by rfl, fun x hx => by simp only [putsL, Act.put, List.setIfInBounds_toArray, List.set_cons_zero, List.set_cons_succ]; go_simp⟩) hS (hK.out _ _ hS (Tr.refl _ _ _ _) rfl)
              refine AllInv.cons (d := [(some 94, 10)]) rfl rfl (fun vs y hS hd K hK => ?_) ?_
              · obtain ⟨r10, -⟩ := hd
                have e10 : vs 10 = Value.pointer (some ⟨xb, 33, none⟩) := r10
                refine inv_yieldsIf (S := NS N0 w Bb o o' (.slice nvo fss.length nvc) fss [(xb, c.cells, 28)]) (yieldsIf_load_mid (by rfl) 26 (.tmp 94) rfl (xb) (0 + 33) (by simp only [putsL, Act.put, List.setIfInBounds_toArray, List.set_cons_zero, List.set_cons_succ, e10] <;> rfl) (c.b.map bv) _ (fun x hx => act_b (blk_rangeP (hx.mem 0 rfl))) Try.underlying26 rfl (by rw [List.length_map, c.hb]; exact Try.sizeHash)) hS (hK.out _ _ hS (Tr.refl _ _ _ _) rfl)
              refine AllInv.cons (d := [(some 93, 9), (some 95, 11)]) rfl rfl (fun vs y hS hd K hK => ?_) ?_
              · obtain ⟨r9, r11, -⟩ := hd
                have e9 : vs 9 = Value.agg (c.a.map bv).toArray := r9
                have e11 : vs 11 = Value.agg (c.b.map bv).toArray := r11
                simp only [putsL, Act.put, List.setIfInBounds_toArray, List.set_cons_zero, List.set_cons_succ] at hK ⊢
                simp only [e9, e11] at hK ⊢
                rw [if_pos (by rfl)]
                refine wp_bsH2n 33 25 (.tmp 93) (.tmp 95) rfl c.a c.b c.ha c.hb (by rfl) (by rfl) Try.underlying33 Try.infoH2 ?_
                intro g1 y1 q1 z1 b1 n1
                exact hK.out _ _ (hS.below b1 hN0B) (Tr.ofBelow b1 hS.size) (HashOwn.two n1 c.ha c.hb (by rw [q1]; exact hS.size))
              refine AllInv.cons (d := [(some 91, 7), (some 96, 12)]) rfl rfl (fun vs y hS hd K hK => ?_) ?_
              · obtain ⟨r7, r12, -⟩ := hd
                have r7 : HashOwn y Bb 25 (vs 7) [ky] := r7
                obtain ⟨p7, c7, e7⟩ := r7.slice
                rw [e7] at r7
                have r12 : HashOwn y Bb 25 (vs 12) [c.a, c.b] := r12
                obtain ⟨p12, c12, e12⟩ := r12.slice
                rw [e12] at r12
                simp only [putsL, Act.put, List.setIfInBounds_toArray, List.set_cons_zero, List.set_cons_succ] at hK ⊢
                simp only [e7, e12] at hK ⊢
                go_simp
                go_wp2_with (go_at_call 6; refine (Made_calls _ _ _ _ _ _ _).mono ?_; rintro e y1 ⟨rfl, b1⟩)
                exact hK.out _ _ (hS.below b1 hN0B) (Tr.ofBelow b1 hS.size) ⟨_, _, rfl, r12.below b1, r7.below b1⟩
              refine AllInv.cons (d := [(some 97, 13)]) rfl rfl (fun vs y hS hd K hK => ?_) ?_
              · obtain ⟨r13, -⟩ := hd
                have r13 : FactV y Bb (vs 13) ⟨[c.a, c.b], [ky]⟩ := r13
                obtain ⟨x13, z13, e13, hx13, hz13⟩ := r13
                simp only [putsL, Act.put, List.setIfInBounds_toArray, List.set_cons_zero, List.set_cons_succ] at hK ⊢
                simp only [e13] at hK ⊢
                rw [if_pos (by rfl)]
                refine wp_factsLit 31 35 1 #[(0, .tmp 97)] rfl rfl Bb hS.size [⟨[c.a, c.b], [ky]⟩] [(x13, z13)] rfl (by omega) (by omega) rfl (pairs1 hx13 hz13) (by simp only [List.map_toArray, List.map_cons, List.map_nil, List.zipIdx_cons, List.zipIdx_nil]; rfl) Try.underlying31 Try.infoRF2 ?_
                intro v1 y1 b1 n1
                exact hK.out _ _ (hS.below b1 hN0B) (Tr.ofBelow b1 hS.size) n1
              refine AllInv.cons (d := [(some 84, 0), (some 98, 14)]) rfl rfl (fun vs y hS hd K hK => ?_) ?_
              · obtain ⟨r0, r14, -⟩ := hd
                have e0 : vs 0 = Value.slice none 0 0 := r0
                have r14 : RFactsOwn (fun _ => False) y Bb (vs 14) [⟨[c.a, c.b], [ky]⟩] := r14
                simp only [putsL, Act.put, List.setIfInBounds_toArray, List.set_cons_zero, List.set_cons_succ] at hK ⊢
                simp only [e0] at hK ⊢
                rw [if_pos (by rfl)]
                refine wp_rfNil (.tmp 84) (.tmp 98) 31 rfl Try.underlying31 Try.infoRF3 Bb hS.size [⟨[c.a, c.b], [ky]⟩] rfl (vs 14) rfl r14 (by simp) (by simp) ?_
                intro v1 y1 b1 n1
                exact hK.out _ _ (hS.below b1 hN0B) (Tr.ofBelow b1 hS.size) n1
              refine AllInv.cons (d := [(some 99, 15)]) rfl rfl (fun vs y hS hd K hK => ?_) ?_
              · obtain ⟨r15, -⟩ := hd
                refine inv_yieldsIf (v := vs 15) (S := NS N0 w Bb o o' (.slice nvo fss.length nvc) fss [(xb, c.cells, 28)]) (Or.inl ⟨by rfl, fun x hx => by simp only [putsL, Act.put, List.setIfInBounds_toArray, List.set_cons_zero, List.set_cons_succ]; go_simp⟩) hS (hK.out _ _ hS (Tr.refl _ _ _ _) r15)
              exact AllInv.nil
            · intro vs y hS hd
              obtain ⟨r0, r1, r2, r3, r4, r5, r6, r7, r8, r9, r10, r11, r12, r13, r14, r15, r16, -⟩ := hd
              have e0 : vs 0 = Value.slice none 0 0 := r0
              have e1 : vs 1 = Value.pointer (some ⟨bk, 0, none⟩) := r1
              have e2 : vs 2 = Value.pointer (some ⟨xb, 1, none⟩) := r2
              have e3 : vs 3 = Value.agg (c.a.map bv).toArray := r3
              have e4 : vs 4 = Value.pointer (some ⟨xb, 33, none⟩) := r4
              have e5 : vs 5 = Value.agg (c.b.map bv).toArray := r5
              have e6 : vs 6 = Value.agg (ky.map bv).toArray := r6.1
              have e8 : vs 8 = Value.pointer (some ⟨xb, 1, none⟩) := r8
              have e9 : vs 9 = Value.agg (c.a.map bv).toArray := r9
              have e10 : vs 10 = Value.pointer (some ⟨xb, 33, none⟩) := r10
              have e11 : vs 11 = Value.agg (c.b.map bv).toArray := r11
              simp only [putsL, Act.put, List.setIfInBounds_toArray, List.set_cons_zero, List.set_cons_succ]
              simp only [e0, e1, e2, e3, e4, e5, e6, e8, e9, e10, e11]
              have hRF : RFactsOwn (fun _ => False) y Bb (vs 16) [⟨[c.a, c.b], [ky]⟩] := r16
              have hBK : BkAt (fun _ : Nat => False) y Bb o' := r6.2
              obtain ⟨fo, fm, fq, hfe⟩ : ∃ ao n c, vs 16 = .slice ao n c := by
                obtain ⟨ao, c, e, -⟩ := hRF.at.slice
                exact ⟨_, _, _, e⟩
              rw [hfe] at hRF
              simp only [hfe]
              have hNT := hS.note
              have hBL := hS.bel
              have hSZ := hS.size
              clear hS
              go_wp2_with (first | ((with_reducible show wpList _ _ _ (⟨some 177, _, _, _, _, _⟩ :: _) _ _); refine wpList_bs1S rfl 32 31 (.tmp 176) rfl _ (by rfl) rfl Try.underlying32 _ Try.infoRS2 ?_; intro g2 y2 b2 n2; have hRF2 := hRF.below b2; have hNT2 := hNT.below b2; have hBK2 := hBK.below b2; have hBL2 := hBL.trans (b2.mono (Nat.le_trans hN0B hSZ)); have hSZ2 := Nat.le_trans hSZ b2.size; clear hRF hNT hBK hBL hSZ b2) | ((with_reducible show wpList _ _ _ (⟨some 178, _, _, _, _, _⟩ :: _) _ _); refine wpList_noteAdd rfl (.tmp 175) (.tmp 177) 32 rfl Try.underlying32 Try.infoRS3 Bb hSZ2 fss [⟨[c.a, c.b], [ky]⟩] _ (by rfl) hNT2 _ g2 1 (by rfl) _ n2 hRF2 HLE.out ?_; intro nv3 y3 n3 f3 b3; have HPN : Hid (PNI N0 w Bb bk sm nm dm nv3 (fss ++ [[⟨[c.a, c.b], [ky]⟩]]) (q + 1) y3) := HP.out.next (by rw [← HOE.out]; exact hBK2.frm f3 (by decide)) n3 (hBL2.trans (b3.mono hN0B)) (Nat.le_trans hSZ2 b3.size) HSF.out (by simp [wrapL]); clear hRF2 hNT2 hBK2 hBL2 hSZ2 n2 n3 f3 b3))
              go_roundw
              case rel => exact ⟨q + 1, _, by omega, by go_num, HPN⟩
              case measure => simp [intOf]; omega
          · obtain ⟨ky, hky⟩ : ∃ z, z = markT (pubT c.a) := ⟨_, rfl⟩
            have HKL : Hid (ky.length = 32) := by show _ = _; rw [hky]; exact markT_len _
            have HKY := Lib.hid hky
            obtain ⟨o', ho'⟩ : ∃ x, x = bkNote o ⟨[c.a], [ky]⟩ := ⟨_, rfl⟩
            have HO := Lib.hid ho'
            have HSF : Hid (∀ f ∈ [⟨[c.a], [ky]⟩], FSmall f) := fun f hf => by
              rw [List.mem_singleton.1 hf]
              exact ⟨FOk.of11 c.ha HKL.out, by simp, by simp⟩
            have HOE : Hid (o' = some ⟨bk, sm, nm, dm, [⟨[c.a], [ky]⟩].foldl noteT (fss.flatten.foldl noteT []), fun _ => none⟩) := by show _ = _; rw [ho', HOV.out]; rfl
            have HT : Hid (∀ b ∈ [(xb, c.cells, 28)], ¬ NT b.2.2) := fun b hb => by rw [List.mem_singleton.1 hb]; show ¬ NT 28; unfold NT; decide
            have HRM : Hid (∀ qq, (qq = o ∨ qq = o') → BkRoom 1 qq) := fun qq hq => hq.elim (fun e => by rw [e]; exact HRM0.out 1 (by omega)) (fun e => by rw [e, HO.out]; exact HRM1.out _ (HSF.out _ (by simp)))
            clear hky ho'
            have HCM : Hid (∀ y, Calls Try.prog 9 #[Value.agg ((pubT c.a).map bv).toArray] y fun e w' => e = .returned (Value.agg (ky.map bv).toArray) ∧ Below y.heap.size y w') := fun y => by rw [HKY.out]; exact RefMark_calls (pubT c.a) _ (pubT_len _)
            go_wp2_with fail
            have hS0 : NS N0 w Bb o o' (.slice nvo fss.length nvc) fss [(xb, c.cells, 28)] W1 := ⟨.inl hbk, hnt, hbl, hsz, fun b hb => by rw [List.mem_singleton.1 hb]; exact hX⟩
            clear hbk hnt hbl hsz hX hka
            refine wp_region_invL (NS N0 w Bb o o' (.slice nvo fss.length nvc) fss [(xb, c.cells, 28)]) (Tr Bb o o')
               [(fun v y => v = Value.slice none 0 0),
                (fun v y => v = Value.pointer (some ⟨bk, 0, none⟩)),
                (fun v y => v = Value.pointer (some ⟨xb, 1, none⟩)),
                (fun v y => v = Value.agg (c.a.map bv).toArray),
                (fun v y => v = Value.agg ((pubT c.a).map bv).toArray ∧ BkAt (fun _ : Nat => False) y Bb o'),
                (fun v y => v = Value.agg (ky.map bv).toArray),
                (fun v y => HashOwn y Bb 25 v [ky]),
                (fun v y => v = Value.pointer (some ⟨xb, 1, none⟩)),
                (fun v y => v = Value.agg (c.a.map bv).toArray),
                (fun v y => HashOwn y Bb 25 v [c.a]),
                (fun v y => FactV y Bb v ⟨[c.a], [ky]⟩),
                (fun v y => RFactsOwn (fun _ => False) y Bb v [⟨[c.a], [ky]⟩]),
                (fun v y => RFactsOwn (fun _ => False) y Bb v [⟨[c.a], [ky]⟩]),
                (fun v y => RFactsOwn (fun _ => False) y Bb v [⟨[c.a], [ky]⟩])]
               [[], [], [], [(some 104, 2)], [(some 103, 1), (some 105, 3)], [(some 106, 4)], [(some 107, 5)], [], [(some 109, 7)], [(some 110, 8)], [(some 108, 6), (some 111, 9)], [(some 112, 10)], [(some 102, 0), (some 113, 11)], [(some 114, 12)]]
               [(some 102, 0), (some 103, 1), (some 104, 2), (some 105, 3), (some 106, 4), (some 107, 5), (some 108, 6), (some 109, 7), (some 110, 8), (some 111, 9), (some 112, 10), (some 113, 11), (some 114, 12), (some 11, 13)]
               [0, 1, 2, 3, 4, 5, 6, 7, 8, 9, 10, 11, 12, 13] (by kernel_rfl) (by kernel_rfl) (by rfl) (fun _ _ _ _ e h => And.intro (e.trans (And.left h)) (And.right h)) ?_ (hS0.drew hN0B) ?_ ?_
            · exact ⟨fun v y y' t h => h, fun v y y' t h => h, fun v y y' t h => h, fun v y y' t h => h, fun v y y' t h => ⟨h.1, t.bk h.2⟩, fun v y y' t h => h, fun v y y' t h => HashOwn.tr h t, fun v y y' t h => h, fun v y y' t h => h, fun v y y' t h => HashOwn.tr h t, fun v y y' t h => FactV.tr h t, fun v y y' t h => RFactsOwn.tr h t, fun v y y' t h => RFactsOwn.tr h t, fun v y y' t h => RFactsOwn.tr h t, trivial⟩
            · refine AllInv.cons (d := []) rfl rfl (fun vs y hS hd K hK => ?_) ?_
              · refine inv_yieldsIf (v := Value.slice none 0 0) (S := NS N0 w Bb o o' (.slice nvo fss.length nvc) fss [(xb, c.cells, 28)]) (Or.inl ⟨by rfl, fun x hx => by simp only [putsL, Act.put, List.setIfInBounds_toArray, List.set_cons_zero, List.set_cons_succ]; go_simp⟩) hS (hK.out _ _ hS (Tr.refl _ _ _ _) rfl)
              refine AllInv.cons (d := []) rfl rfl (fun vs y hS hd K hK => ?_) ?_
              · refine inv_yieldsIf (v := Value.pointer (some ⟨bk, 0, none⟩)) (S := NS N0 w Bb o o' (.slice nvo fss.length nvc) fss [(xb, c.cells, 28)]) (Or.inl ⟨by rfl, fun x hx => by simp only [putsL, Act.put, List.setIfInBounds_toArray, List.set_cons_zero, List.set_cons_succ]; go_simp⟩) hS (hK.out _ _ hS (Tr.refl _ _ _ _) rfl)
              refine AllInv.cons (d := []) rfl rfl (fun vs y hS hd K hK => ?_) ?_
              · refine inv_yieldsIf (v := Value.pointer (some ⟨xb, 1, none⟩)) (S := NS N0 w Bb o o' (.slice nvo fss.length nvc) fss [(xb, c.cells, 28)]) (Or.inl ⟨by rfl, fun x hx => by simp only [putsL, Act.put, List.setIfInBounds_toArray, List.set_cons_zero, List.set_cons_succ]; go_simp⟩) hS (hK.out _ _ hS (Tr.refl _ _ _ _) rfl)
              refine AllInv.cons (d := [(some 104, 2)]) rfl rfl (fun vs y hS hd K hK => ?_) ?_
              · obtain ⟨r2, -⟩ := hd
                have e2 : vs 2 = Value.pointer (some ⟨xb, 1, none⟩) := r2
                refine inv_yieldsIf (S := NS N0 w Bb o o' (.slice nvo fss.length nvc) fss [(xb, c.cells, 28)]) (yieldsIf_load_mid (by rfl) 26 (.tmp 104) rfl (xb) (0 + 1) (by simp only [putsL, Act.put, List.setIfInBounds_toArray, List.set_cons_zero, List.set_cons_succ, e2] <;> rfl) (c.a.map bv) _ (fun x hx => act_a (blk_rangeP (hx.mem 0 rfl))) Try.underlying26 rfl (by rw [List.length_map, c.ha]; exact Try.sizeHash)) hS (hK.out _ _ hS (Tr.refl _ _ _ _) rfl)
              refine AllInv.cons (d := [(some 103, 1), (some 105, 3)]) rfl rfl (fun vs y hS hd K hK => ?_) ?_
              · obtain ⟨r1, r3, -⟩ := hd
                have e1 : vs 1 = Value.pointer (some ⟨bk, 0, none⟩) := r1
                have e3 : vs 3 = Value.agg (c.a.map bv).toArray := r3
                simp only [putsL, Act.put, List.setIfInBounds_toArray, List.set_cons_zero, List.set_cons_succ] at hK ⊢
                simp only [e1, e3] at hK ⊢
                go_simp
                go_wp2_with (go_at_call 10; refine (NS.call (f := ⟨[c.a], [ky]⟩) (r := Value.agg ((pubT c.a).map bv).toArray) HO.out hN0B HT.out hS (fun qq hq hp hk => (by rw [HKY.out]; exact PubO_calls c.a Bb qq _ (HPO.out.trans hp.symm) y hk (HRM.out qq hq) hS.size (fun q h => h.elim) c.ha))).mono ?_; rintro e y1 ⟨rfl, n1, s1, t1⟩)
                exact hK.out _ _ s1 t1 ⟨rfl, n1⟩
              refine AllInv.cons (d := [(some 106, 4)]) rfl rfl (fun vs y hS hd K hK => ?_) ?_
              · obtain ⟨r4, -⟩ := hd
                have e4 : vs 4 = Value.agg ((pubT c.a).map bv).toArray := r4.1
                simp only [putsL, Act.put, List.setIfInBounds_toArray, List.set_cons_zero, List.set_cons_succ] at hK ⊢
                simp only [e4] at hK ⊢
                go_simp
                go_wp2_with (go_at_call 9; refine (HCM.out _).mono ?_; rintro e y1 ⟨rfl, b1⟩)
                exact hK.out _ _ (hS.below b1 hN0B) (Tr.ofBelow b1 hS.size) rfl
              refine AllInv.cons (d := [(some 107, 5)]) rfl rfl (fun vs y hS hd K hK => ?_) ?_
              · obtain ⟨r5, -⟩ := hd
                have e5 : vs 5 = Value.agg (ky.map bv).toArray := r5
                simp only [putsL, Act.put, List.setIfInBounds_toArray, List.set_cons_zero, List.set_cons_succ] at hK ⊢
                simp only [e5] at hK ⊢
                rw [if_pos (by rfl)]
                refine wp_bsH 33 25 (.tmp 107) rfl ky HKL.out (by rfl) Try.underlying33 Try.infoH2 ?_
                intro g1 y1 q1 z1 b1 n1
                exact hK.out _ _ (hS.below b1 hN0B) (Tr.ofBelow b1 hS.size) (HashOwn.one n1 HKL.out (by rw [q1]; exact hS.size))
              refine AllInv.cons (d := []) rfl rfl (fun vs y hS hd K hK => ?_) ?_
              · refine inv_yieldsIf (v := Value.pointer (some ⟨xb, 1, none⟩)) (S := NS N0 w Bb o o' (.slice nvo fss.length nvc) fss [(xb, c.cells, 28)]) (Or.inl ⟨by rfl, fun x hx => by simp only [putsL, Act.put, List.setIfInBounds_toArray, List.set_cons_zero, List.set_cons_succ]; go_simp⟩) hS (hK.out _ _ hS (Tr.refl _ _ _ _) rfl)
              refine AllInv.cons (d := [(some 109, 7)]) rfl rfl (fun vs y hS hd K hK => ?_) ?_
              · obtain ⟨r7, -⟩ := hd
                have e7 : vs 7 = Value.pointer (some ⟨xb, 1, none⟩) := r7
                refine inv_yieldsIf (S := NS N0 w Bb o o' (.slice nvo fss.length nvc) fss [(xb, c.cells, 28)]) (yieldsIf_load_mid (by rfl) 26 (.tmp 109) rfl (xb) (0 + 1) (by simp only [putsL, Act.put, List.setIfInBounds_toArray, List.set_cons_zero, List.set_cons_succ, e7] <;> rfl) (c.a.map bv) _ (fun x hx => act_a (blk_rangeP (hx.mem 0 rfl))) Try.underlying26 rfl (by rw [List.length_map, c.ha]; exact Try.sizeHash)) hS (hK.out _ _ hS (Tr.refl _ _ _ _) rfl)
              refine AllInv.cons (d := [(some 110, 8)]) rfl rfl (fun vs y hS hd K hK => ?_) ?_
              · obtain ⟨r8, -⟩ := hd
                have e8 : vs 8 = Value.agg (c.a.map bv).toArray := r8
                simp only [putsL, Act.put, List.setIfInBounds_toArray, List.set_cons_zero, List.set_cons_succ] at hK ⊢
                simp only [e8] at hK ⊢
                rw [if_pos (by rfl)]
                refine wp_bsH 33 25 (.tmp 110) rfl c.a c.ha (by rfl) Try.underlying33 Try.infoH2 ?_
                intro g1 y1 q1 z1 b1 n1
                exact hK.out _ _ (hS.below b1 hN0B) (Tr.ofBelow b1 hS.size) (HashOwn.one n1 c.ha (by rw [q1]; exact hS.size))
              refine AllInv.cons (d := [(some 108, 6), (some 111, 9)]) rfl rfl (fun vs y hS hd K hK => ?_) ?_
              · obtain ⟨r6, r9, -⟩ := hd
                have r6 : HashOwn y Bb 25 (vs 6) [ky] := r6
                obtain ⟨p6, c6, e6⟩ := r6.slice
                rw [e6] at r6
                have r9 : HashOwn y Bb 25 (vs 9) [c.a] := r9
                obtain ⟨p9, c9, e9⟩ := r9.slice
                rw [e9] at r9
                simp only [putsL, Act.put, List.setIfInBounds_toArray, List.set_cons_zero, List.set_cons_succ] at hK ⊢
                simp only [e6, e9] at hK ⊢
                go_simp
                go_wp2_with (go_at_call 6; refine (Made_calls _ _ _ _ _ _ _).mono ?_; rintro e y1 ⟨rfl, b1⟩)
                exact hK.out _ _ (hS.below b1 hN0B) (Tr.ofBelow b1 hS.size) ⟨_, _, rfl, r9.below b1, r6.below b1⟩
              refine AllInv.cons (d := [(some 112, 10)]) rfl rfl (fun vs y hS hd K hK => ?_) ?_
              · obtain ⟨r10, -⟩ := hd
                have r10 : FactV y Bb (vs 10) ⟨[c.a], [ky]⟩ := r10
                obtain ⟨x10, z10, e10, hx10, hz10⟩ := r10
                simp only [putsL, Act.put, List.setIfInBounds_toArray, List.set_cons_zero, List.set_cons_succ] at hK ⊢
                simp only [e10] at hK ⊢
                rw [if_pos (by rfl)]
                refine wp_factsLit 31 35 1 #[(0, .tmp 112)] rfl rfl Bb hS.size [⟨[c.a], [ky]⟩] [(x10, z10)] rfl (by omega) (by omega) rfl (pairs1 hx10 hz10) (by simp only [List.map_toArray, List.map_cons, List.map_nil, List.zipIdx_cons, List.zipIdx_nil]; rfl) Try.underlying31 Try.infoRF2 ?_
                intro v1 y1 b1 n1
                exact hK.out _ _ (hS.below b1 hN0B) (Tr.ofBelow b1 hS.size) n1
              refine AllInv.cons (d := [(some 102, 0), (some 113, 11)]) rfl rfl (fun vs y hS hd K hK => ?_) ?_
              · obtain ⟨r0, r11, -⟩ := hd
                have e0 : vs 0 = Value.slice none 0 0 := r0
                have r11 : RFactsOwn (fun _ => False) y Bb (vs 11) [⟨[c.a], [ky]⟩] := r11
                simp only [putsL, Act.put, List.setIfInBounds_toArray, List.set_cons_zero, List.set_cons_succ] at hK ⊢
                simp only [e0] at hK ⊢
                rw [if_pos (by rfl)]
                refine wp_rfNil (.tmp 102) (.tmp 113) 31 rfl Try.underlying31 Try.infoRF3 Bb hS.size [⟨[c.a], [ky]⟩] rfl (vs 11) rfl r11 (by simp) (by simp) ?_
                intro v1 y1 b1 n1
                exact hK.out _ _ (hS.below b1 hN0B) (Tr.ofBelow b1 hS.size) n1
              refine AllInv.cons (d := [(some 114, 12)]) rfl rfl (fun vs y hS hd K hK => ?_) ?_
              · obtain ⟨r12, -⟩ := hd
                refine inv_yieldsIf (v := vs 12) (S := NS N0 w Bb o o' (.slice nvo fss.length nvc) fss [(xb, c.cells, 28)]) (Or.inl ⟨by rfl, fun x hx => by simp only [putsL, Act.put, List.setIfInBounds_toArray, List.set_cons_zero, List.set_cons_succ]; go_simp⟩) hS (hK.out _ _ hS (Tr.refl _ _ _ _) r12)
              exact AllInv.nil
            · intro vs y hS hd
              obtain ⟨r0, r1, r2, r3, r4, r5, r6, r7, r8, r9, r10, r11, r12, r13, -⟩ := hd
              have e0 : vs 0 = Value.slice none 0 0 := r0
              have e1 : vs 1 = Value.pointer (some ⟨bk, 0, none⟩) := r1
              have e2 : vs 2 = Value.pointer (some ⟨xb, 1, none⟩) := r2
              have e3 : vs 3 = Value.agg (c.a.map bv).toArray := r3
              have e4 : vs 4 = Value.agg ((pubT c.a).map bv).toArray := r4.1
              have e5 : vs 5 = Value.agg (ky.map bv).toArray := r5
              have e7 : vs 7 = Value.pointer (some ⟨xb, 1, none⟩) := r7
              have e8 : vs 8 = Value.agg (c.a.map bv).toArray := r8
              simp only [putsL, Act.put, List.setIfInBounds_toArray, List.set_cons_zero, List.set_cons_succ]
              simp only [e0, e1, e2, e3, e4, e5, e7, e8]
              have hRF : RFactsOwn (fun _ => False) y Bb (vs 13) [⟨[c.a], [ky]⟩] := r13
              have hBK : BkAt (fun _ : Nat => False) y Bb o' := r4.2
              obtain ⟨fo, fm, fq, hfe⟩ : ∃ ao n c, vs 13 = .slice ao n c := by
                obtain ⟨ao, c, e, -⟩ := hRF.at.slice
                exact ⟨_, _, _, e⟩
              rw [hfe] at hRF
              simp only [hfe]
              have hNT := hS.note
              have hBL := hS.bel
              have hSZ := hS.size
              clear hS
              go_wp2_with (first | ((with_reducible show wpList _ _ _ (⟨some 177, _, _, _, _, _⟩ :: _) _ _); refine wpList_bs1S rfl 32 31 (.tmp 176) rfl _ (by rfl) rfl Try.underlying32 _ Try.infoRS2 ?_; intro g2 y2 b2 n2; have hRF2 := hRF.below b2; have hNT2 := hNT.below b2; have hBK2 := hBK.below b2; have hBL2 := hBL.trans (b2.mono (Nat.le_trans hN0B hSZ)); have hSZ2 := Nat.le_trans hSZ b2.size; clear hRF hNT hBK hBL hSZ b2) | ((with_reducible show wpList _ _ _ (⟨some 178, _, _, _, _, _⟩ :: _) _ _); refine wpList_noteAdd rfl (.tmp 175) (.tmp 177) 32 rfl Try.underlying32 Try.infoRS3 Bb hSZ2 fss [⟨[c.a], [ky]⟩] _ (by rfl) hNT2 _ g2 1 (by rfl) _ n2 hRF2 HLE.out ?_; intro nv3 y3 n3 f3 b3; have HPN : Hid (PNI N0 w Bb bk sm nm dm nv3 (fss ++ [[⟨[c.a], [ky]⟩]]) (q + 1) y3) := HP.out.next (by rw [← HOE.out]; exact hBK2.frm f3 (by decide)) n3 (hBL2.trans (b3.mono hN0B)) (Nat.le_trans hSZ2 b3.size) HSF.out (by simp [wrapL]); clear hRF2 hNT2 hBK2 hBL2 hSZ2 n2 n3 f3 b3))
              go_roundw
              case rel => exact ⟨q + 1, _, by omega, by go_num, HPN⟩
              case measure => simp [intOf]; omega
          · have hcs := act_s (blk_rangeP hX)
            have hcv := act_v (blk_rangeP hX)
            rw [Nat.zero_add] at hcs hcv
            rw [HSE.out] at hcv
            go_wp2_with ((with_reducible show wpList _ _ _ (⟨some 119, _, _, _, _, _⟩ :: _) _ _); refine wpList_load_mid rfl 26 (.tmp 118) rfl xb (0 + 1) (by rfl) (c.a.map bv) _ (act_a (blk_rangeP hX)) Try.underlying26 rfl (by rw [List.length_map, c.ha]; exact Try.sizeHash) ?_)
            refine (SealO_calls c.a [] c.s (.slice sao L.length sc) L Bb o _ HPO.out W1 hbk (HRM0.out 1 (by omega)) hsz (fun q h => h.elim) (fun w' _ b => HSVB.out _ (hbl.trans (b.mono hN0B))) (by omega) c.ha (by simp) (by omega)).mono ?_
            rintro e y1 ⟨rfl, hb1, f1, bl1⟩
            have hl32 := (HSVB.out _ hbl).1
            obtain ⟨o', ho'⟩ : ∃ x, x = sealF o c.a L := ⟨_, rfl⟩
            have HOE : Hid (o' = some ⟨bk, sm, nm, dm, [⟨[c.a], L⟩].foldl noteT (fss.flatten.foldl noteT []), fun _ => none⟩) := by show _ = _; rw [ho', HOV.out, sealF_some]; try rfl
            rw [← ho'] at hb1
            have HSF : Hid (∀ f ∈ [⟨[c.a], L⟩], FSmall f) := fun f hf => by rw [List.mem_singleton.1 hf]; exact ⟨FOk.of1n c.ha hl32 (by omega), by simp, by show L.length ≤ 40; omega⟩
            clear ho'
            have hS0 : NS N0 w Bb o' o' (.slice nvo fss.length nvc) fss [(xb, c.cells, 28)] y1 := ⟨.inl hb1, hnt.frm f1 (by unfold NT; decide) (by unfold NT; decide) (by unfold NT; decide), hbl.trans (bl1.mono hN0B), Nat.le_trans hsz f1.size, fun b hb => by rw [List.mem_singleton.1 hb]; exact hX.frm f1 (show ¬ NT 28 by unfold NT; decide)⟩
            clear hbk hnt hbl hsz hX hka hcs hcv hb1 f1 bl1 hl32
            go_wp2_with fail
            refine wp_region_invL (NS N0 w Bb o' o' (.slice nvo fss.length nvc) fss [(xb, c.cells, 28)]) (Tr Bb o' o')
               [(fun v y => v = Value.slice none 0 0),
                (fun v y => v = Value.pointer (some ⟨xb, 66, none⟩)),
                (fun v y => v = Value.slice sao L.length sc),
                (fun v y => HashOwn y Bb 25 v L),
                (fun v y => v = Value.pointer (some ⟨xb, 1, none⟩)),
                (fun v y => v = Value.agg (c.a.map bv).toArray),
                (fun v y => HashOwn y Bb 25 v [c.a]),
                (fun v y => FactV y Bb v ⟨[c.a], L⟩),
                (fun v y => RFactsOwn (fun _ => False) y Bb v [⟨[c.a], L⟩]),
                (fun v y => RFactsOwn (fun _ => False) y Bb v [⟨[c.a], L⟩]),
                (fun v y => RFactsOwn (fun _ => False) y Bb v [⟨[c.a], L⟩])]
               [[], [], [(some 126, 1)], [(some 127, 2)], [], [(some 129, 4)], [(some 130, 5)], [(some 128, 3), (some 131, 6)], [(some 132, 7)], [(some 125, 0), (some 133, 8)], [(some 134, 9)]]
               [(some 125, 0), (some 126, 1), (some 127, 2), (some 128, 3), (some 129, 4), (some 130, 5), (some 131, 6), (some 132, 7), (some 133, 8), (some 134, 9), (some 11, 10)]
               [0, 1, 2, 3, 4, 5, 6, 7, 8, 9, 10] (by kernel_rfl) (by kernel_rfl) (by rfl) (fun _ _ _ _ e h => And.intro (e.trans (And.left h)) (And.right h)) ?_ (hS0.drew hN0B) ?_ ?_
            · exact ⟨fun v y y' t h => h, fun v y y' t h => h, fun v y y' t h => h, fun v y y' t h => HashOwn.tr h t, fun v y y' t h => h, fun v y y' t h => h, fun v y y' t h => HashOwn.tr h t, fun v y y' t h => FactV.tr h t, fun v y y' t h => RFactsOwn.tr h t, fun v y y' t h => RFactsOwn.tr h t, fun v y y' t h => RFactsOwn.tr h t, trivial⟩
            · refine AllInv.cons (d := []) rfl rfl (fun vs y hS hd K hK => ?_) ?_
              · refine inv_yieldsIf (v := Value.slice none 0 0) (S := NS N0 w Bb o' o' (.slice nvo fss.length nvc) fss [(xb, c.cells, 28)]) (Or.inl ⟨by rfl, fun x hx => by simp only [putsL, Act.put, List.setIfInBounds_toArray, List.set_cons_zero, List.set_cons_succ]; go_simp⟩) hS (hK.out _ _ hS (Tr.refl _ _ _ _) rfl)
              refine AllInv.cons (d := []) rfl rfl (fun vs y hS hd K hK => ?_) ?_
              · refine inv_yieldsIf (v := Value.pointer (some ⟨xb, 66, none⟩)) (S := NS N0 w Bb o' o' (.slice nvo fss.length nvc) fss [(xb, c.cells, 28)]) (Or.inl ⟨by rfl, fun x hx => by simp only [putsL, Act.put, List.setIfInBounds_toArray, List.set_cons_zero, List.set_cons_succ]; go_simp⟩) hS (hK.out _ _ hS (Tr.refl _ _ _ _) rfl)
              refine AllInv.cons (d := [(some 126, 1)]) rfl rfl (fun vs y hS hd K hK => ?_) ?_
              · obtain ⟨r1, -⟩ := hd
                have e1 : vs 1 = Value.pointer (some ⟨xb, 66, none⟩) := r1
                refine inv_yieldsIf (v := Value.slice sao L.length sc) (S := NS N0 w Bb o' o' (.slice nvo fss.length nvc) fss [(xb, c.cells, 28)]) (Or.inl ⟨by rfl, fun x hx => by simp only [putsL, Act.put, List.setIfInBounds_toArray, List.set_cons_zero, List.set_cons_succ, e1]; have hc := act_v (blk_rangeP (hx.mem 0 rfl)); rw [Nat.zero_add, HSE.out] at hc; go_simp⟩) hS (hK.out _ _ hS (Tr.refl _ _ _ _) rfl)
              refine AllInv.cons (d := [(some 127, 2)]) rfl rfl (fun vs y hS hd K hK => ?_) ?_
              · obtain ⟨r2, -⟩ := hd
                have e2 : vs 2 = Value.slice sao L.length sc := r2
                simp only [putsL, Act.put, List.setIfInBounds_toArray, List.set_cons_zero, List.set_cons_succ] at hK ⊢
                simp only [e2] at hK ⊢
                go_simp
                go_wp2_with (go_at_call 12; refine (plain4_calls _ L _ (HSVB.out _ hS.bel) (by omega)).mono ?_; rintro e y1 ⟨v1, rfl, n1, b1⟩)
                exact hK.out _ _ (hS.below b1 hN0B) (Tr.ofBelow b1 hS.size) (n1.weakR hS.size)
              refine AllInv.cons (d := []) rfl rfl (fun vs y hS hd K hK => ?_) ?_
              · refine inv_yieldsIf (v := Value.pointer (some ⟨xb, 1, none⟩)) (S := NS N0 w Bb o' o' (.slice nvo fss.length nvc) fss [(xb, c.cells, 28)]) (Or.inl ⟨by rfl, fun x hx => by simp only [putsL, Act.put, List.setIfInBounds_toArray, List.set_cons_zero, List.set_cons_succ]; go_simp⟩) hS (hK.out _ _ hS (Tr.refl _ _ _ _) rfl)
              refine AllInv.cons (d := [(some 129, 4)]) rfl rfl (fun vs y hS hd K hK => ?_) ?_
              · obtain ⟨r4, -⟩ := hd
                have e4 : vs 4 = Value.pointer (some ⟨xb, 1, none⟩) := r4
                refine inv_yieldsIf (S := NS N0 w Bb o' o' (.slice nvo fss.length nvc) fss [(xb, c.cells, 28)]) (yieldsIf_load_mid (by rfl) 26 (.tmp 129) rfl (xb) (0 + 1) (by simp only [putsL, Act.put, List.setIfInBounds_toArray, List.set_cons_zero, List.set_cons_succ, e4] <;> rfl) (c.a.map bv) _ (fun x hx => act_a (blk_rangeP (hx.mem 0 rfl))) Try.underlying26 rfl (by rw [List.length_map, c.ha]; exact Try.sizeHash)) hS (hK.out _ _ hS (Tr.refl _ _ _ _) rfl)
              refine AllInv.cons (d := [(some 130, 5)]) rfl rfl (fun vs y hS hd K hK => ?_) ?_
              · obtain ⟨r5, -⟩ := hd
                have e5 : vs 5 = Value.agg (c.a.map bv).toArray := r5
                simp only [putsL, Act.put, List.setIfInBounds_toArray, List.set_cons_zero, List.set_cons_succ] at hK ⊢
                simp only [e5] at hK ⊢
                rw [if_pos (by rfl)]
                refine wp_bsH 33 25 (.tmp 130) rfl c.a c.ha (by rfl) Try.underlying33 Try.infoH2 ?_
                intro g1 y1 q1 z1 b1 n1
                exact hK.out _ _ (hS.below b1 hN0B) (Tr.ofBelow b1 hS.size) (HashOwn.one n1 c.ha (by rw [q1]; exact hS.size))
              refine AllInv.cons (d := [(some 128, 3), (some 131, 6)]) rfl rfl (fun vs y hS hd K hK => ?_) ?_
              · obtain ⟨r3, r6, -⟩ := hd
                have r3 : HashOwn y Bb 25 (vs 3) L := r3
                obtain ⟨p3, c3, e3⟩ := r3.slice
                rw [e3] at r3
                have r6 : HashOwn y Bb 25 (vs 6) [c.a] := r6
                obtain ⟨p6, c6, e6⟩ := r6.slice
                rw [e6] at r6
                simp only [putsL, Act.put, List.setIfInBounds_toArray, List.set_cons_zero, List.set_cons_succ] at hK ⊢
                simp only [e3, e6] at hK ⊢
                go_simp
                go_wp2_with (go_at_call 6; refine (Made_calls _ _ _ _ _ _ _).mono ?_; rintro e y1 ⟨rfl, b1⟩)
                exact hK.out _ _ (hS.below b1 hN0B) (Tr.ofBelow b1 hS.size) ⟨_, _, rfl, r6.below b1, r3.below b1⟩
              refine AllInv.cons (d := [(some 132, 7)]) rfl rfl (fun vs y hS hd K hK => ?_) ?_
              · obtain ⟨r7, -⟩ := hd
                have r7 : FactV y Bb (vs 7) ⟨[c.a], L⟩ := r7
                obtain ⟨x7, z7, e7, hx7, hz7⟩ := r7
                simp only [putsL, Act.put, List.setIfInBounds_toArray, List.set_cons_zero, List.set_cons_succ] at hK ⊢
                simp only [e7] at hK ⊢
                rw [if_pos (by rfl)]
                refine wp_factsLit 31 35 1 #[(0, .tmp 132)] rfl rfl Bb hS.size [⟨[c.a], L⟩] [(x7, z7)] rfl (by omega) (by omega) rfl (pairs1 hx7 hz7) (by simp only [List.map_toArray, List.map_cons, List.map_nil, List.zipIdx_cons, List.zipIdx_nil]; rfl) Try.underlying31 Try.infoRF2 ?_
                intro v1 y1 b1 n1
                exact hK.out _ _ (hS.below b1 hN0B) (Tr.ofBelow b1 hS.size) n1
              refine AllInv.cons (d := [(some 125, 0), (some 133, 8)]) rfl rfl (fun vs y hS hd K hK => ?_) ?_
              · obtain ⟨r0, r8, -⟩ := hd
                have e0 : vs 0 = Value.slice none 0 0 := r0
                have r8 : RFactsOwn (fun _ => False) y Bb (vs 8) [⟨[c.a], L⟩] := r8
                simp only [putsL, Act.put, List.setIfInBounds_toArray, List.set_cons_zero, List.set_cons_succ] at hK ⊢
                simp only [e0] at hK ⊢
                rw [if_pos (by rfl)]
                refine wp_rfNil (.tmp 125) (.tmp 133) 31 rfl Try.underlying31 Try.infoRF3 Bb hS.size [⟨[c.a], L⟩] rfl (vs 8) rfl r8 (by simp) (by simp) ?_
                intro v1 y1 b1 n1
                exact hK.out _ _ (hS.below b1 hN0B) (Tr.ofBelow b1 hS.size) n1
              refine AllInv.cons (d := [(some 134, 9)]) rfl rfl (fun vs y hS hd K hK => ?_) ?_
              · obtain ⟨r9, -⟩ := hd
                refine inv_yieldsIf (v := vs 9) (S := NS N0 w Bb o' o' (.slice nvo fss.length nvc) fss [(xb, c.cells, 28)]) (Or.inl ⟨by rfl, fun x hx => by simp only [putsL, Act.put, List.setIfInBounds_toArray, List.set_cons_zero, List.set_cons_succ]; go_simp⟩) hS (hK.out _ _ hS (Tr.refl _ _ _ _) r9)
              exact AllInv.nil
            · intro vs y hS hd
              obtain ⟨r0, r1, r2, r3, r4, r5, r6, r7, r8, r9, r10, -⟩ := hd
              have e0 : vs 0 = Value.slice none 0 0 := r0
              have e1 : vs 1 = Value.pointer (some ⟨xb, 66, none⟩) := r1
              have e2 : vs 2 = Value.slice sao L.length sc := r2
              have e4 : vs 4 = Value.pointer (some ⟨xb, 1, none⟩) := r4
              have e5 : vs 5 = Value.agg (c.a.map bv).toArray := r5
              simp only [putsL, Act.put, List.setIfInBounds_toArray, List.set_cons_zero, List.set_cons_succ]
              simp only [e0, e1, e2, e4, e5]
              have hRF : RFactsOwn (fun _ => False) y Bb (vs 10) [⟨[c.a], L⟩] := r10
              have hBK : BkAt (fun _ : Nat => False) y Bb o' := hS.bk.elim id id
              obtain ⟨fo, fm, fq, hfe⟩ : ∃ ao n c, vs 10 = .slice ao n c := by
                obtain ⟨ao, c, e, -⟩ := hRF.at.slice
                exact ⟨_, _, _, e⟩
              rw [hfe] at hRF
              simp only [hfe]
              have hNT := hS.note
              have hBL := hS.bel
              have hSZ := hS.size
              clear hS
              go_wp2_with (first | ((with_reducible show wpList _ _ _ (⟨some 177, _, _, _, _, _⟩ :: _) _ _); refine wpList_bs1S rfl 32 31 (.tmp 176) rfl _ (by rfl) rfl Try.underlying32 _ Try.infoRS2 ?_; intro g2 y2 b2 n2; have hRF2 := hRF.below b2; have hNT2 := hNT.below b2; have hBK2 := hBK.below b2; have hBL2 := hBL.trans (b2.mono (Nat.le_trans hN0B hSZ)); have hSZ2 := Nat.le_trans hSZ b2.size; clear hRF hNT hBK hBL hSZ b2) | ((with_reducible show wpList _ _ _ (⟨some 178, _, _, _, _, _⟩ :: _) _ _); refine wpList_noteAdd rfl (.tmp 175) (.tmp 177) 32 rfl Try.underlying32 Try.infoRS3 Bb hSZ2 fss [⟨[c.a], L⟩] _ (by rfl) hNT2 _ g2 1 (by rfl) _ n2 hRF2 HLE.out ?_; intro nv3 y3 n3 f3 b3; have HPN : Hid (PNI N0 w Bb bk sm nm dm nv3 (fss ++ [[⟨[c.a], L⟩]]) (q + 1) y3) := HP.out.next (by rw [← HOE.out]; exact hBK2.frm f3 (by decide)) n3 (hBL2.trans (b3.mono hN0B)) (Nat.le_trans hSZ2 b3.size) HSF.out (by simp [wrapL]); clear hRF2 hNT2 hBK2 hBL2 hSZ2 n2 n3 f3 b3))
              go_roundw
              case rel => exact ⟨q + 1, _, by omega, by go_num, HPN⟩
              case measure => simp [intOf]; omega
          · obtain ⟨p, hp⟩ : ∃ z, z = pubT c.a := ⟨_, rfl⟩
            have HPV := Lib.hid hp
            have HPL : Hid (p.length = 32) := by show _ = _; rw [hp]; exact pubT_len _
            obtain ⟨m, hm2⟩ : ∃ z, z = markT p := ⟨_, rfl⟩
            have HML : Hid (m.length = 32) := by show _ = _; rw [hm2]; exact markT_len _
            have HMV := Lib.hid hm2
            obtain ⟨k, hk2⟩ : ∃ z, z = sharedT p c.b := ⟨_, rfl⟩
            have HKL : Hid (k.length = 32) := by show _ = _; rw [hk2]; exact sharedT_len _ _
            have HKV := Lib.hid hk2
            clear hp hm2 hk2
            have hz1 := Below.refl W1.heap.size W1
            go_wp2_with ((with_reducible show wpList _ _ _ (⟨some 138, _, _, _, _, _⟩ :: _) _ _); refine wpList_load_mid rfl 26 (.tmp 137) rfl xb (0 + 1) (by rfl) (c.a.map bv) _ (act_a (blk_rangeP hX)) Try.underlying26 rfl (by rw [List.length_map, c.ha]; exact Try.sizeHash) ?_)
            have ltq27 : xb < W1.heap.size := hX.lt
            refine (RefPub_calls c.a _ c.ha).mono ?_
            rintro e wq25 ⟨rfl, bq26⟩
            have hCq28 := hX.below bq26 hX.lt
            have hBq29 := hz1.trans (bq26.mono (hz1.size))
            clear hX hz1
            clear bq26
            rw [← HPV.out]
            go_wp2_with (first | ((with_reducible show wpList _ _ _ (⟨some 12, _, _, _, _, _⟩ :: _) _ _); refine wpList_allocZ rfl 25 rfl _ Try.zeroA32 ?_; intro wq30 hsq31 baq32 hNq33) | ((with_reducible show wpList _ _ _ (⟨none, Op.store _ (.tmp 12) _, _, _, _, _⟩ :: _) _ _); refine wpList_storeBlk rfl 25 (.tmp 12) (.tmp 139) rfl (wq25.heap.size) ((p.map bv).toArray) (by rfl) (by rfl) _ _ hNq33 (by rw [bv_size, HPL.out]; exact Try.sizeA32) (by rw [bv_size, HPL.out, Z32_size]) (bv_all _) ?_; intro wq34 hKq35 gq36; have bbq37 := below_new baq32 gq36 (Nat.le_refl _) baq32.size; have ltq38 : xb < wq25.heap.size := hCq28.lt; have hCq39 := hCq28.below bbq37 hCq28.lt; have hBq40 := hBq29.trans (bbq37.mono (hBq29.size)); clear hCq28 hBq29; clear bbq37 baq32 hNq33 gq36 hsq31) | ((with_reducible show wpList _ _ _ (⟨some 141, _, _, _, _, _⟩ :: _) _ _); refine wpList_load_mid rfl 25 (.tmp 12) rfl (wq25.heap.size) 0 (by rfl) (p.map bv) _ (blk_rangeP hKq35) Try.underlying25 rfl (by rw [List.length_map, HPL.out]; exact Try.sizeA32) ?_) | ((with_reducible show wpList _ _ _ (⟨some 143, _, _, _, _, _⟩ :: _) _ _); refine wpList_load_mid rfl 26 (.tmp 142) rfl xb (0 + 33) (by rfl) (c.b.map bv) _ (act_b (blk_rangeP hCq39)) Try.underlying26 rfl (by rw [List.length_map, c.hb]; exact Try.sizeHash) ?_) | ((with_reducible show wpList _ _ _ (⟨some 145, _, _, _, _, _⟩ :: _) _ _); refine wpList_load1 rfl 9 (.tmp 144) rfl xb 65 (by rfl) (.string (str c.s)) _ (by have hc := act_s (blk_rangeP hCq39); rwa [Nat.zero_add] at hc) Try.underlying9 rfl ?_) | ((with_reducible show wpList _ _ _ (⟨some 147, _, _, _, _, _⟩ :: _) _ _); refine wpList_load1 rfl 23 (.tmp 146) rfl xb 66 (by rfl) (.slice sao L.length sc) _ (by have hc := act_v (blk_rangeP hCq39); rwa [Nat.zero_add, HSE.out] at hc) Try.underlying23 rfl ?_))
            obtain ⟨W2, hW2⟩ : ∃ z, z = wq34 := ⟨_, rfl⟩
            obtain ⟨pb, hpb⟩ : ∃ z, z = wq25.heap.size := ⟨_, rfl⟩
            have hX2 : Blk W2 xb c.cells.toArray 28 := by rw [hW2]; exact hCq39
            have hP2 : Blk W2 pb (p.map bv).toArray 25 := by rw [hW2, hpb]; exact hKq35
            have hz2 : Below W1.heap.size W1 W2 := by rw [hW2]; exact hBq40
            rw [← hW2, ← hpb]
            clear hW2 hpb hCq39 hKq35 hBq40
            have hbk2 := hbk.below hz2
            have hnt2 := hnt.below hz2
            have hbl2 := hbl.trans (hz2.mono (Nat.le_trans hN0B hsz))
            have hsz2 := Nat.le_trans hsz hz2.size
            refine (WrapO_calls p c.b [] c.s (.slice sao L.length sc) L Bb o _ HPO.out W2 hbk2 (HRM0.out 3 (by omega)) hsz2 (fun q h => h.elim) (fun w' _ b => HSVB.out _ (hbl2.trans (b.mono hN0B))) (by omega) HPL.out c.hb (by simp) (by omega)).mono ?_
            rintro e y1 ⟨rfl, hb1, f1, bl1⟩
            have hl32 := (HSVB.out _ hbl2).1
            obtain ⟨o', ho'⟩ : ∃ x, x = wrapF o p c.b L := ⟨_, rfl⟩
            have HOE : Hid (o' = some ⟨bk, sm, nm, dm, [⟨[m], [k]⟩, ⟨[c.b], [k]⟩, ⟨[k], L⟩].foldl noteT (fss.flatten.foldl noteT []), fun _ => none⟩) := by show _ = _; rw [ho', HOV.out, wrapF_some, wrapL, ← HMV.out, ← HKV.out]; try rfl
            rw [← ho'] at hb1
            have HSF : Hid (∀ f ∈ [⟨[m], [k]⟩, ⟨[c.b], [k]⟩, ⟨[k], L⟩], FSmall f) := fun f hf => by
              simp only [List.mem_cons, List.not_mem_nil, or_false] at hf
              rcases hf with rfl | rfl | rfl
              · exact ⟨FOk.of11 HML.out HKL.out, by simp, by simp⟩
              · exact ⟨FOk.of11 c.hb HKL.out, by simp, by simp⟩
              · exact ⟨FOk.of1n HKL.out hl32 (by omega), by simp, by show L.length ≤ 40; omega⟩
            clear ho'
            have hX3 := hX2.frm f1 (show ¬ NT 28 by unfold NT; decide)
            have hP3 := hP2.frm f1 (show ¬ NT 25 by unfold NT; decide)
            have hnt3 := hnt2.frm f1 (by unfold NT; decide) (by unfold NT; decide) (by unfold NT; decide)
            have hbl3 := hbl2.trans (bl1.mono hN0B)
            have hsz3 := Nat.le_trans hsz2 f1.size
            clear hbk hnt hbl hsz hka hbk2 hnt2 hbl2 hsz2 hX2 hP2 hz2 f1 bl1 hl32
            have hz3 := Below.refl y1.heap.size y1
            have HCS : Hid (∀ y, Calls Try.prog 15 #[Value.agg (p.map bv).toArray, .string (str c.b)] y fun e w' => e = .returned (Value.agg (k.map bv).toArray) ∧ Below y.heap.size y w') := fun y => by rw [HKV.out]; exact RefShared_calls p c.b _ HPL.out (by rw [c.hb]; omega)
            have HCM : Hid (∀ y, Calls Try.prog 9 #[Value.agg ((p).map bv).toArray] y fun e w' => e = .returned (Value.agg (m.map bv).toArray) ∧ Below y.heap.size y w') := fun y => by rw [HMV.out]; exact RefMark_calls (p) _ (HPL.out)
            go_wp2_with fail
            refine wp_region_held_drew (S := fun x => Blk x (xb) c.cells.toArray 28 ∧ Blk x (pb) (p.map bv).toArray 25 ∧ Below y1.heap.size y1 x) (by kernel_rfl) ⟨hX3.drew, hP3.drew, below_drewN hz3 1⟩ (fun hSq41 => ?_)
            refine wpAnyH_take (i := 0) rfl (by kernel_rfl) (by kernel_rfl) (by kernel_rfl) (fun _ _ _ h => h) (yieldsIf_load_mid (by rfl) 25 (.tmp 12) rfl (pb) 0 (by rfl) (p.map bv) _ (fun x hx => blk_rangeP hx.2.1) Try.underlying25 rfl (by rw [List.length_map, HPL.out]; exact Try.sizeA32)) hSq41 ?_
            simp only [Act.put, List.getElem_toArray, List.getElem_cons_zero, List.getElem_cons_succ, List.setIfInBounds_toArray, List.set_cons_zero, List.set_cons_succ]
            refine wpAnyH_take (i := 1) (v := Value.pointer (some ⟨xb, 33, none⟩)) rfl (by kernel_rfl) (by kernel_rfl) (by kernel_rfl) (fun _ _ _ h => h) (Or.inl ⟨by rfl, fun x hx => by go_simp⟩) hSq41 ?_
            simp only [Act.put, List.getElem_toArray, List.getElem_cons_zero, List.getElem_cons_succ, List.setIfInBounds_toArray, List.set_cons_zero, List.set_cons_succ]
            refine wpAnyH_take (i := 2) (v := Value.slice (some ⟨xb, 33, none⟩) 32 32) rfl (by kernel_rfl) (by kernel_rfl) (by kernel_rfl) (fun _ _ _ h => h) (Or.inl ⟨by rfl, fun x hx => by go_simp⟩) hSq41 ?_
            simp only [Act.put, List.getElem_toArray, List.getElem_cons_zero, List.getElem_cons_succ, List.setIfInBounds_toArray, List.set_cons_zero, List.set_cons_succ]
            refine wpAnyH_take (i := 3) (v := Value.string (str c.b)) rfl (by kernel_rfl) (by kernel_rfl) (by kernel_rfl) (fun _ _ _ h => h) (Or.inl ⟨by rfl, fun x hx => by have hcv := conv_off c.hb (act_b (blk_rangeP hx.1)); rw [Nat.zero_add] at hcv; go_simp⟩) hSq41 ?_
            simp only [Act.put, List.getElem_toArray, List.getElem_cons_zero, List.getElem_cons_succ, List.setIfInBounds_toArray, List.set_cons_zero, List.set_cons_succ]
            refine wpAnyH_ready (rs := [4, 5]) (by kernel_rfl) (by simp) ?_
            refine AllReadyH.cons rfl (fun K hK => ?_) ?_
            · go_simp
              go_wp2_with (go_at_call 15; refine (HCS.out _).mono ?_; rintro e yq42 ⟨rfl, bq43⟩)
              refine hK.out _ _ ⟨hSq41.1.below bq43 hSq41.1.lt, hSq41.2.1.below bq43 hSq41.2.1.lt, hSq41.2.2.trans (bq43.mono (hSq41.2.2.size))⟩ (fun hSq44 => ?_)
              clear hK K hSq41 bq43
              refine wpAnyH_ready (rs := [5]) (by kernel_rfl) (by simp) ?_
              refine AllReadyH.cons rfl (fun K hK => ?_) AllReadyH.nil
              rw [if_pos (by rfl)]
              refine wp_allocZ 25 rfl Z32 Try.zeroA32 ?_
              intro gq48 yq46 egq49 ezq50 bq45 hEq47
              have lgq51 : y1.heap.size ≤ gq48 := by rw [egq49]; exact hSq44.2.2.size
              have lbq52 : xb < gq48 := by rw [egq49]; exact hSq44.1.lt
              have lbq53 : pb < gq48 := by rw [egq49]; exact hSq44.2.1.lt
              refine hK.out _ _ ⟨hSq44.1.below bq45 hSq44.1.lt, hSq44.2.1.below bq45 hSq44.2.1.lt, hSq44.2.2.trans (bq45.mono (hSq44.2.2.size))⟩ (fun hSq54 => ?_)
              clear hK K hSq44 bq45 egq49 ezq50
              refine wpAnyH_ready (rs := [6]) (by kernel_rfl) (by simp) ?_
              refine AllReadyH.cons rfl (fun K hK => ?_) AllReadyH.nil
              rw [if_pos (by rfl)]
              refine wp_storeBlk 25 (.tmp 13) (.tmp 153) rfl gq48 (k.map bv).toArray (by rfl) (by rfl) _ _ hEq47 (by rw [bv_size, HKL.out]; exact Try.sizeA32) (by rw [bv_size, HKL.out, Z32_size]) (bv_all _) ?_
              intro yq55 hEq56 grq57
              refine hK.out _ _ ⟨hSq54.1.grown grq57 (by first | (simp; done) | (simp; omega) | omega), hSq54.2.1.grown grq57 (by first | (simp; done) | (simp; omega) | omega), below_new hSq54.2.2 grq57 lgq51 (hSq54.2.2.size)⟩ (fun hSq58 => ?_)
              clear hK K hSq54
              refine wpAnyH_done (by kernel_rfl) ?_ _
              obtain ⟨kb, hkb⟩ : ∃ z, z = gq48 := ⟨_, rfl⟩
              obtain ⟨W4, hW4⟩ : ∃ z, z = yq55 := ⟨_, rfl⟩
              have hzz : Below y1.heap.size y1 W4 := by rw [hW4]; exact hSq58.2.2
              have hXX : Blk W4 xb c.cells.toArray 28 := by rw [hW4]; exact hSq58.1
              have hPP : Blk W4 pb (p.map bv).toArray 25 := by rw [hW4]; exact hSq58.2.1
              have hKK : Blk W4 kb (k.map bv).toArray 25 := by rw [hW4, hkb]; exact hEq56
              rw [← hkb, ← hW4]
              have hS0 : NS N0 w Bb o' o' (.slice nvo fss.length nvc) fss [(xb, c.cells, 28), (pb, p.map bv, 25), (kb, k.map bv, 25)] W4 := ⟨.inl (hb1.below hzz), hnt3.below hzz, hbl3.trans (hzz.mono (Nat.le_trans hN0B hsz3)), Nat.le_trans hsz3 hzz.size, fun b hb => by
                simp only [List.mem_cons, List.not_mem_nil, or_false] at hb
                rcases hb with rfl | rfl | rfl
                · exact hXX
                · exact hPP
                · exact hKK⟩
              clear hSq58 hEq56 hkb hW4 hzz hXX hPP hKK hnt3 hbl3 hsz3 hb1
              go_wp2_with fail
              refine wp_region_invL (NS N0 w Bb o' o' (.slice nvo fss.length nvc) fss [(xb, c.cells, 28), (pb, p.map bv, 25), (kb, k.map bv, 25)]) (Tr Bb o' o')
                 [(fun v y => v = Value.slice none 0 0),
                  (fun v y => v = Value.agg (k.map bv).toArray),
                  (fun v y => HashOwn y Bb 25 v [k]),
                  (fun v y => v = Value.agg (p.map bv).toArray),
                  (fun v y => v = Value.agg (m.map bv).toArray),
                  (fun v y => HashOwn y Bb 25 v [m]),
                  (fun v y => FactV y Bb v ⟨[m], [k]⟩),
                  (fun v y => v = Value.agg (k.map bv).toArray),
                  (fun v y => HashOwn y Bb 25 v [k]),
                  (fun v y => v = Value.pointer (some ⟨xb, 33, none⟩)),
                  (fun v y => v = Value.agg (c.b.map bv).toArray),
                  (fun v y => HashOwn y Bb 25 v [c.b]),
                  (fun v y => FactV y Bb v ⟨[c.b], [k]⟩),
                  (fun v y => v = Value.pointer (some ⟨xb, 66, none⟩)),
                  (fun v y => v = Value.slice sao L.length sc),
                  (fun v y => HashOwn y Bb 25 v L),
                  (fun v y => v = Value.agg (k.map bv).toArray),
                  (fun v y => HashOwn y Bb 25 v [k]),
                  (fun v y => FactV y Bb v ⟨[k], L⟩),
                  (fun v y => RFactsOwn (fun _ => False) y Bb v [⟨[m], [k]⟩, ⟨[c.b], [k]⟩, ⟨[k], L⟩]),
                  (fun v y => RFactsOwn (fun _ => False) y Bb v [⟨[m], [k]⟩, ⟨[c.b], [k]⟩, ⟨[k], L⟩]),
                  (fun v y => RFactsOwn (fun _ => False) y Bb v [⟨[m], [k]⟩, ⟨[c.b], [k]⟩, ⟨[k], L⟩])]
                 [[], [], [(some 155, 1)], [], [(some 157, 3)], [(some 158, 4)], [(some 156, 2), (some 159, 5)], [], [(some 161, 7)], [], [(some 163, 9)], [(some 164, 10)], [(some 162, 8), (some 165, 11)], [], [(some 167, 13)], [(some 168, 14)], [], [(some 170, 16)], [(some 169, 15), (some 171, 17)], [(some 160, 6), (some 166, 12), (some 172, 18)], [(some 154, 0), (some 173, 19)], [(some 174, 20)]]
                 [(some 154, 0), (some 155, 1), (some 156, 2), (some 157, 3), (some 158, 4), (some 159, 5), (some 160, 6), (some 161, 7), (some 162, 8), (some 163, 9), (some 164, 10), (some 165, 11), (some 166, 12), (some 167, 13), (some 168, 14), (some 169, 15), (some 170, 16), (some 171, 17), (some 172, 18), (some 173, 19), (some 174, 20), (some 11, 21)]
                 [0, 1, 2, 3, 4, 5, 6, 7, 8, 9, 10, 11, 12, 13, 14, 15, 16, 17, 18, 19, 20, 21] (by kernel_rfl) (by kernel_rfl) (by rfl) (fun _ _ _ _ e h => And.intro (e.trans (And.left h)) (And.right h)) ?_ (hS0.drew hN0B) ?_ ?_
              · exact ⟨fun v y y' t h => h, fun v y y' t h => h, fun v y y' t h => HashOwn.tr h t, fun v y y' t h => h, fun v y y' t h => h, fun v y y' t h => HashOwn.tr h t, fun v y y' t h => FactV.tr h t, fun v y y' t h => h, fun v y y' t h => HashOwn.tr h t, fun v y y' t h => h, fun v y y' t h => h, fun v y y' t h => HashOwn.tr h t, fun v y y' t h => FactV.tr h t, fun v y y' t h => h, fun v y y' t h => h, fun v y y' t h => HashOwn.tr h t, fun v y y' t h => h, fun v y y' t h => HashOwn.tr h t, fun v y y' t h => FactV.tr h t, fun v y y' t h => RFactsOwn.tr h t, fun v y y' t h => RFactsOwn.tr h t, fun v y y' t h => RFactsOwn.tr h t, trivial⟩
              · refine AllInv.cons (d := []) rfl rfl (fun vs y hS hd K hK => ?_) ?_
                · refine inv_yieldsIf (v := Value.slice none 0 0) (S := NS N0 w Bb o' o' (.slice nvo fss.length nvc) fss [(xb, c.cells, 28), (pb, p.map bv, 25), (kb, k.map bv, 25)]) (Or.inl ⟨by rfl, fun x hx => by simp only [putsL, Act.put, List.setIfInBounds_toArray, List.set_cons_zero, List.set_cons_succ]; go_simp⟩) hS (hK.out _ _ hS (Tr.refl _ _ _ _) rfl)
                refine AllInv.cons (d := []) rfl rfl (fun vs y hS hd K hK => ?_) ?_
                · refine inv_yieldsIf (S := NS N0 w Bb o' o' (.slice nvo fss.length nvc) fss [(xb, c.cells, 28), (pb, p.map bv, 25), (kb, k.map bv, 25)]) (yieldsIf_load_mid (by rfl) 25 (.tmp 13) rfl (kb) (0) (by simp only [putsL, Act.put, List.setIfInBounds_toArray, List.set_cons_zero, List.set_cons_succ] <;> rfl) (k.map bv) _ (fun x hx => blk_rangeP (hx.mem 2 rfl)) Try.underlying25 rfl (by rw [List.length_map, HKL.out]; exact Try.sizeA32)) hS (hK.out _ _ hS (Tr.refl _ _ _ _) rfl)
                refine AllInv.cons (d := [(some 155, 1)]) rfl rfl (fun vs y hS hd K hK => ?_) ?_
                · obtain ⟨r1, -⟩ := hd
                  have e1 : vs 1 = Value.agg (k.map bv).toArray := r1
                  simp only [putsL, Act.put, List.setIfInBounds_toArray, List.set_cons_zero, List.set_cons_succ] at hK ⊢
                  simp only [e1] at hK ⊢
                  rw [if_pos (by rfl)]
                  refine wp_bsH 33 25 (.tmp 155) rfl k HKL.out (by rfl) Try.underlying33 Try.infoH2 ?_
                  intro g1 y1 q1 z1 b1 n1
                  exact hK.out _ _ (hS.below b1 hN0B) (Tr.ofBelow b1 hS.size) (HashOwn.one n1 HKL.out (by rw [q1]; exact hS.size))
                refine AllInv.cons (d := []) rfl rfl (fun vs y hS hd K hK => ?_) ?_
                · refine inv_yieldsIf (S := NS N0 w Bb o' o' (.slice nvo fss.length nvc) fss [(xb, c.cells, 28), (pb, p.map bv, 25), (kb, k.map bv, 25)]) (yieldsIf_load_mid (by rfl) 25 (.tmp 12) rfl (pb) (0) (by simp only [putsL, Act.put, List.setIfInBounds_toArray, List.set_cons_zero, List.set_cons_succ] <;> rfl) (p.map bv) _ (fun x hx => blk_rangeP (hx.mem 1 rfl)) Try.underlying25 rfl (by rw [List.length_map, HPL.out]; exact Try.sizeA32)) hS (hK.out _ _ hS (Tr.refl _ _ _ _) rfl)
                refine AllInv.cons (d := [(some 157, 3)]) rfl rfl (fun vs y hS hd K hK => ?_) ?_
                · obtain ⟨r3, -⟩ := hd
                  have e3 : vs 3 = Value.agg (p.map bv).toArray := r3
                  simp only [putsL, Act.put, List.setIfInBounds_toArray, List.set_cons_zero, List.set_cons_succ] at hK ⊢
                  simp only [e3] at hK ⊢
                  go_simp
                  go_wp2_with (go_at_call 9; refine (HCM.out _).mono ?_; rintro e y1 ⟨rfl, b1⟩)
                  exact hK.out _ _ (hS.below b1 hN0B) (Tr.ofBelow b1 hS.size) rfl
                refine AllInv.cons (d := [(some 158, 4)]) rfl rfl (fun vs y hS hd K hK => ?_) ?_
                · obtain ⟨r4, -⟩ := hd
                  have e4 : vs 4 = Value.agg (m.map bv).toArray := r4
                  simp only [putsL, Act.put, List.setIfInBounds_toArray, List.set_cons_zero, List.set_cons_succ] at hK ⊢
                  simp only [e4] at hK ⊢
                  rw [if_pos (by rfl)]
                  refine wp_bsH 33 25 (.tmp 158) rfl m HML.out (by rfl) Try.underlying33 Try.infoH2 ?_
                  intro g1 y1 q1 z1 b1 n1
                  exact hK.out _ _ (hS.below b1 hN0B) (Tr.ofBelow b1 hS.size) (HashOwn.one n1 HML.out (by rw [q1]; exact hS.size))
                refine AllInv.cons (d := [(some 156, 2), (some 159, 5)]) rfl rfl (fun vs y hS hd K hK => ?_) ?_
                · obtain ⟨r2, r5, -⟩ := hd
                  have r2 : HashOwn y Bb 25 (vs 2) [k] := r2
                  obtain ⟨p2, c2, e2⟩ := r2.slice
                  rw [e2] at r2
                  have r5 : HashOwn y Bb 25 (vs 5) [m] := r5
                  obtain ⟨p5, c5, e5⟩ := r5.slice
                  rw [e5] at r5
                  simp only [putsL, Act.put, List.setIfInBounds_toArray, List.set_cons_zero, List.set_cons_succ] at hK ⊢
                  simp only [e2, e5] at hK ⊢
                  go_simp
                  go_wp2_with (go_at_call 6; refine (Made_calls _ _ _ _ _ _ _).mono ?_; rintro e y1 ⟨rfl, b1⟩)
                  exact hK.out _ _ (hS.below b1 hN0B) (Tr.ofBelow b1 hS.size) ⟨_, _, rfl, r5.below b1, r2.below b1⟩
                refine AllInv.cons (d := []) rfl rfl (fun vs y hS hd K hK => ?_) ?_
                · refine inv_yieldsIf (S := NS N0 w Bb o' o' (.slice nvo fss.length nvc) fss [(xb, c.cells, 28), (pb, p.map bv, 25), (kb, k.map bv, 25)]) (yieldsIf_load_mid (by rfl) 25 (.tmp 13) rfl (kb) (0) (by simp only [putsL, Act.put, List.setIfInBounds_toArray, List.set_cons_zero, List.set_cons_succ] <;> rfl) (k.map bv) _ (fun x hx => blk_rangeP (hx.mem 2 rfl)) Try.underlying25 rfl (by rw [List.length_map, HKL.out]; exact Try.sizeA32)) hS (hK.out _ _ hS (Tr.refl _ _ _ _) rfl)
                refine AllInv.cons (d := [(some 161, 7)]) rfl rfl (fun vs y hS hd K hK => ?_) ?_
                · obtain ⟨r7, -⟩ := hd
                  have e7 : vs 7 = Value.agg (k.map bv).toArray := r7
                  simp only [putsL, Act.put, List.setIfInBounds_toArray, List.set_cons_zero, List.set_cons_succ] at hK ⊢
                  simp only [e7] at hK ⊢
                  rw [if_pos (by rfl)]
                  refine wp_bsH 33 25 (.tmp 161) rfl k HKL.out (by rfl) Try.underlying33 Try.infoH2 ?_
                  intro g1 y1 q1 z1 b1 n1
                  exact hK.out _ _ (hS.below b1 hN0B) (Tr.ofBelow b1 hS.size) (HashOwn.one n1 HKL.out (by rw [q1]; exact hS.size))
                refine AllInv.cons (d := []) rfl rfl (fun vs y hS hd K hK => ?_) ?_
                · refine inv_yieldsIf (v := Value.pointer (some ⟨xb, 33, none⟩)) (S := NS N0 w Bb o' o' (.slice nvo fss.length nvc) fss [(xb, c.cells, 28), (pb, p.map bv, 25), (kb, k.map bv, 25)]) (Or.inl ⟨by rfl, fun x hx => by simp only [putsL, Act.put, List.setIfInBounds_toArray, List.set_cons_zero, List.set_cons_succ]; go_simp⟩) hS (hK.out _ _ hS (Tr.refl _ _ _ _) rfl)
                refine AllInv.cons (d := [(some 163, 9)]) rfl rfl (fun vs y hS hd K hK => ?_) ?_
                · obtain ⟨r9, -⟩ := hd
                  have e9 : vs 9 = Value.pointer (some ⟨xb, 33, none⟩) := r9
                  refine inv_yieldsIf (S := NS N0 w Bb o' o' (.slice nvo fss.length nvc) fss [(xb, c.cells, 28), (pb, p.map bv, 25), (kb, k.map bv, 25)]) (yieldsIf_load_mid (by rfl) 26 (.tmp 163) rfl (xb) (0 + 33) (by simp only [putsL, Act.put, List.setIfInBounds_toArray, List.set_cons_zero, List.set_cons_succ, e9] <;> rfl) (c.b.map bv) _ (fun x hx => act_b (blk_rangeP (hx.mem 0 rfl))) Try.underlying26 rfl (by rw [List.length_map, c.hb]; exact Try.sizeHash)) hS (hK.out _ _ hS (Tr.refl _ _ _ _) rfl)
                refine AllInv.cons (d := [(some 164, 10)]) rfl rfl (fun vs y hS hd K hK => ?_) ?_
                · obtain ⟨r10, -⟩ := hd
                  have e10 : vs 10 = Value.agg (c.b.map bv).toArray := r10
                  simp only [putsL, Act.put, List.setIfInBounds_toArray, List.set_cons_zero, List.set_cons_succ] at hK ⊢
                  simp only [e10] at hK ⊢
                  rw [if_pos (by rfl)]
                  refine wp_bsH 33 25 (.tmp 164) rfl c.b c.hb (by rfl) Try.underlying33 Try.infoH2 ?_
                  intro g1 y1 q1 z1 b1 n1
                  exact hK.out _ _ (hS.below b1 hN0B) (Tr.ofBelow b1 hS.size) (HashOwn.one n1 c.hb (by rw [q1]; exact hS.size))
                refine AllInv.cons (d := [(some 162, 8), (some 165, 11)]) rfl rfl (fun vs y hS hd K hK => ?_) ?_
                · obtain ⟨r8, r11, -⟩ := hd
                  have r8 : HashOwn y Bb 25 (vs 8) [k] := r8
                  obtain ⟨p8, c8, e8⟩ := r8.slice
                  rw [e8] at r8
                  have r11 : HashOwn y Bb 25 (vs 11) [c.b] := r11
                  obtain ⟨p11, c11, e11⟩ := r11.slice
                  rw [e11] at r11
                  simp only [putsL, Act.put, List.setIfInBounds_toArray, List.set_cons_zero, List.set_cons_succ] at hK ⊢
                  simp only [e8, e11] at hK ⊢
                  go_simp
                  go_wp2_with (go_at_call 6; refine (Made_calls _ _ _ _ _ _ _).mono ?_; rintro e y1 ⟨rfl, b1⟩)
                  exact hK.out _ _ (hS.below b1 hN0B) (Tr.ofBelow b1 hS.size) ⟨_, _, rfl, r11.below b1, r8.below b1⟩
                refine AllInv.cons (d := []) rfl rfl (fun vs y hS hd K hK => ?_) ?_
                · refine inv_yieldsIf (v := Value.pointer (some ⟨xb, 66, none⟩)) (S := NS N0 w Bb o' o' (.slice nvo fss.length nvc) fss [(xb, c.cells, 28), (pb, p.map bv, 25), (kb, k.map bv, 25)]) (Or.inl ⟨by rfl, fun x hx => by simp only [putsL, Act.put, List.setIfInBounds_toArray, List.set_cons_zero, List.set_cons_succ]; go_simp⟩) hS (hK.out _ _ hS (Tr.refl _ _ _ _) rfl)
                refine AllInv.cons (d := [(some 167, 13)]) rfl rfl (fun vs y hS hd K hK => ?_) ?_
                · obtain ⟨r13, -⟩ := hd
                  have e13 : vs 13 = Value.pointer (some ⟨xb, 66, none⟩) := r13
                  refine inv_yieldsIf (v := Value.slice sao L.length sc) (S := NS N0 w Bb o' o' (.slice nvo fss.length nvc) fss [(xb, c.cells, 28), (pb, p.map bv, 25), (kb, k.map bv, 25)]) (Or.inl ⟨by rfl, fun x hx => by simp only [putsL, Act.put, List.setIfInBounds_toArray, List.set_cons_zero, List.set_cons_succ, e13]; have hc := act_v (blk_rangeP (hx.mem 0 rfl)); rw [Nat.zero_add, HSE.out] at hc; go_simp⟩) hS (hK.out _ _ hS (Tr.refl _ _ _ _) rfl)
                refine AllInv.cons (d := [(some 168, 14)]) rfl rfl (fun vs y hS hd K hK => ?_) ?_
                · obtain ⟨r14, -⟩ := hd
                  have e14 : vs 14 = Value.slice sao L.length sc := r14
                  simp only [putsL, Act.put, List.setIfInBounds_toArray, List.set_cons_zero, List.set_cons_succ] at hK ⊢
                  simp only [e14] at hK ⊢
                  go_simp
                  go_wp2_with (go_at_call 12; refine (plain4_calls _ L _ (HSVB.out _ hS.bel) (by omega)).mono ?_; rintro e y1 ⟨v1, rfl, n1, b1⟩)
                  exact hK.out _ _ (hS.below b1 hN0B) (Tr.ofBelow b1 hS.size) (n1.weakR hS.size)
                refine AllInv.cons (d := []) rfl rfl (fun vs y hS hd K hK => ?_) ?_
                · refine inv_yieldsIf (S := NS N0 w Bb o' o' (.slice nvo fss.length nvc) fss [(xb, c.cells, 28), (pb, p.map bv, 25), (kb, k.map bv, 25)]) (yieldsIf_load_mid (by rfl) 25 (.tmp 13) rfl (kb) (0) (by simp only [putsL, Act.put, List.setIfInBounds_toArray, List.set_cons_zero, List.set_cons_succ] <;> rfl) (k.map bv) _ (fun x hx => blk_rangeP (hx.mem 2 rfl)) Try.underlying25 rfl (by rw [List.length_map, HKL.out]; exact Try.sizeA32)) hS (hK.out _ _ hS (Tr.refl _ _ _ _) rfl)
                refine AllInv.cons (d := [(some 170, 16)]) rfl rfl (fun vs y hS hd K hK => ?_) ?_
                · obtain ⟨r16, -⟩ := hd
                  have e16 : vs 16 = Value.agg (k.map bv).toArray := r16
                  simp only [putsL, Act.put, List.setIfInBounds_toArray, List.set_cons_zero, List.set_cons_succ] at hK ⊢
                  simp only [e16] at hK ⊢
                  rw [if_pos (by rfl)]
                  refine wp_bsH 33 25 (.tmp 170) rfl k HKL.out (by rfl) Try.underlying33 Try.infoH2 ?_
                  intro g1 y1 q1 z1 b1 n1
                  exact hK.out _ _ (hS.below b1 hN0B) (Tr.ofBelow b1 hS.size) (HashOwn.one n1 HKL.out (by rw [q1]; exact hS.size))
                refine AllInv.cons (d := [(some 169, 15), (some 171, 17)]) rfl rfl (fun vs y hS hd K hK => ?_) ?_
                · obtain ⟨r15, r17, -⟩ := hd
                  have r15 : HashOwn y Bb 25 (vs 15) L := r15
                  obtain ⟨p15, c15, e15⟩ := r15.slice
                  rw [e15] at r15
                  have r17 : HashOwn y Bb 25 (vs 17) [k] := r17
                  obtain ⟨p17, c17, e17⟩ := r17.slice
                  rw [e17] at r17
                  simp only [putsL, Act.put, List.setIfInBounds_toArray, List.set_cons_zero, List.set_cons_succ] at hK ⊢
                  simp only [e15, e17] at hK ⊢
                  go_simp
                  go_wp2_with (go_at_call 6; refine (Made_calls _ _ _ _ _ _ _).mono ?_; rintro e y1 ⟨rfl, b1⟩)
                  exact hK.out _ _ (hS.below b1 hN0B) (Tr.ofBelow b1 hS.size) ⟨_, _, rfl, r17.below b1, r15.below b1⟩
                refine AllInv.cons (d := [(some 160, 6), (some 166, 12), (some 172, 18)]) rfl rfl (fun vs y hS hd K hK => ?_) ?_
                · obtain ⟨r6, r12, r18, -⟩ := hd
                  have r6 : FactV y Bb (vs 6) ⟨[m], [k]⟩ := r6
                  obtain ⟨x6, z6, e6, hx6, hz6⟩ := r6
                  have r12 : FactV y Bb (vs 12) ⟨[c.b], [k]⟩ := r12
                  obtain ⟨x12, z12, e12, hx12, hz12⟩ := r12
                  have r18 : FactV y Bb (vs 18) ⟨[k], L⟩ := r18
                  obtain ⟨x18, z18, e18, hx18, hz18⟩ := r18
                  simp only [putsL, Act.put, List.setIfInBounds_toArray, List.set_cons_zero, List.set_cons_succ] at hK ⊢
                  simp only [e6, e12, e18] at hK ⊢
                  rw [if_pos (by rfl)]
                  refine wp_factsLit 31 35 3 #[(0, .tmp 160), (1, .tmp 166), (2, .tmp 172)] rfl rfl Bb hS.size [⟨[m], [k]⟩, ⟨[c.b], [k]⟩, ⟨[k], L⟩] [(x6, z6), (x12, z12), (x18, z18)] rfl (by omega) (by omega) rfl (pairs3 hx6 hz6 hx12 hz12 hx18 hz18) (by simp only [List.map_toArray, List.map_cons, List.map_nil, List.zipIdx_cons, List.zipIdx_nil]; rfl) Try.underlying31 Try.infoRF2 ?_
                  intro v1 y1 b1 n1
                  exact hK.out _ _ (hS.below b1 hN0B) (Tr.ofBelow b1 hS.size) n1
                refine AllInv.cons (d := [(some 154, 0), (some 173, 19)]) rfl rfl (fun vs y hS hd K hK => ?_) ?_
                · obtain ⟨r0, r19, -⟩ := hd
                  have e0 : vs 0 = Value.slice none 0 0 := r0
                  have r19 : RFactsOwn (fun _ => False) y Bb (vs 19) [⟨[m], [k]⟩, ⟨[c.b], [k]⟩, ⟨[k], L⟩] := r19
                  simp only [putsL, Act.put, List.setIfInBounds_toArray, List.set_cons_zero, List.set_cons_succ] at hK ⊢
                  simp only [e0] at hK ⊢
                  rw [if_pos (by rfl)]
                  refine wp_rfNil (.tmp 154) (.tmp 173) 31 rfl Try.underlying31 Try.infoRF3 Bb hS.size [⟨[m], [k]⟩, ⟨[c.b], [k]⟩, ⟨[k], L⟩] rfl (vs 19) rfl r19 (by simp) (by simp) ?_
                  intro v1 y1 b1 n1
                  exact hK.out _ _ (hS.below b1 hN0B) (Tr.ofBelow b1 hS.size) n1
                refine AllInv.cons (d := [(some 174, 20)]) rfl rfl (fun vs y hS hd K hK => ?_) ?_
                · obtain ⟨r20, -⟩ := hd
                  refine inv_yieldsIf (v := vs 20) (S := NS N0 w Bb o' o' (.slice nvo fss.length nvc) fss [(xb, c.cells, 28), (pb, p.map bv, 25), (kb, k.map bv, 25)]) (Or.inl ⟨by rfl, fun x hx => by simp only [putsL, Act.put, List.setIfInBounds_toArray, List.set_cons_zero, List.set_cons_succ]; go_simp⟩) hS (hK.out _ _ hS (Tr.refl _ _ _ _) r20)
                exact AllInv.nil
              · intro vs y hS hd
                obtain ⟨r0, r1, r2, r3, r4, r5, r6, r7, r8, r9, r10, r11, r12, r13, r14, r15, r16, r17, r18, r19, r20, r21, -⟩ := hd
                have e0 : vs 0 = Value.slice none 0 0 := r0
                have e1 : vs 1 = Value.agg (k.map bv).toArray := r1
                have e3 : vs 3 = Value.agg (p.map bv).toArray := r3
                have e4 : vs 4 = Value.agg (m.map bv).toArray := r4
                have e7 : vs 7 = Value.agg (k.map bv).toArray := r7
                have e9 : vs 9 = Value.pointer (some ⟨xb, 33, none⟩) := r9
                have e10 : vs 10 = Value.agg (c.b.map bv).toArray := r10
                have e13 : vs 13 = Value.pointer (some ⟨xb, 66, none⟩) := r13
                have e14 : vs 14 = Value.slice sao L.length sc := r14
                have e16 : vs 16 = Value.agg (k.map bv).toArray := r16
                simp only [putsL, Act.put, List.setIfInBounds_toArray, List.set_cons_zero, List.set_cons_succ]
                simp only [e0, e1, e3, e4, e7, e9, e10, e13, e14, e16]
                have hRF : RFactsOwn (fun _ => False) y Bb (vs 21) [⟨[m], [k]⟩, ⟨[c.b], [k]⟩, ⟨[k], L⟩] := r21
                have hBK : BkAt (fun _ : Nat => False) y Bb o' := hS.bk.elim id id
                obtain ⟨fo, fm, fq, hfe⟩ : ∃ ao n c, vs 21 = .slice ao n c := by
                  obtain ⟨ao, c, e, -⟩ := hRF.at.slice
                  exact ⟨_, _, _, e⟩
                rw [hfe] at hRF
                simp only [hfe]
                have hNT := hS.note
                have hBL := hS.bel
                have hSZ := hS.size
                clear hS
                go_wp2_with (first | ((with_reducible show wpList _ _ _ (⟨some 177, _, _, _, _, _⟩ :: _) _ _); refine wpList_bs1S rfl 32 31 (.tmp 176) rfl _ (by rfl) rfl Try.underlying32 _ Try.infoRS2 ?_; intro g2 y2 b2 n2; have hRF2 := hRF.below b2; have hNT2 := hNT.below b2; have hBK2 := hBK.below b2; have hBL2 := hBL.trans (b2.mono (Nat.le_trans hN0B hSZ)); have hSZ2 := Nat.le_trans hSZ b2.size; clear hRF hNT hBK hBL hSZ b2) | ((with_reducible show wpList _ _ _ (⟨some 178, _, _, _, _, _⟩ :: _) _ _); refine wpList_noteAdd rfl (.tmp 175) (.tmp 177) 32 rfl Try.underlying32 Try.infoRS3 Bb hSZ2 fss [⟨[m], [k]⟩, ⟨[c.b], [k]⟩, ⟨[k], L⟩] _ (by rfl) hNT2 _ g2 1 (by rfl) _ n2 hRF2 HLE.out ?_; intro nv3 y3 n3 f3 b3; have HPN : Hid (PNI N0 w Bb bk sm nm dm nv3 (fss ++ [[⟨[m], [k]⟩, ⟨[c.b], [k]⟩, ⟨[k], L⟩]]) (q + 1) y3) := HP.out.next (by rw [← HOE.out]; exact hBK2.frm f3 (by decide)) n3 (hBL2.trans (b3.mono hN0B)) (Nat.le_trans hSZ2 b3.size) HSF.out (by simp [wrapL]); clear hRF2 hNT2 hBK2 hBL2 hSZ2 n2 n3 f3 b3))
                go_roundw
                case rel => exact ⟨q + 1, _, by omega, by go_num, HPN⟩
                case measure => simp [intOf]; omega
            refine AllReadyH.cons rfl (fun K hK => ?_) AllReadyH.nil
            rw [if_pos (by rfl)]
            refine wp_allocZ 25 rfl Z32 Try.zeroA32 ?_
            intro gq62 yq60 egq63 ezq64 bq59 hEq61
            have lgq65 : y1.heap.size ≤ gq62 := by rw [egq63]; exact hSq41.2.2.size
            have lbq66 : xb < gq62 := by rw [egq63]; exact hSq41.1.lt
            have lbq67 : pb < gq62 := by rw [egq63]; exact hSq41.2.1.lt
            refine hK.out _ _ ⟨hSq41.1.below bq59 hSq41.1.lt, hSq41.2.1.below bq59 hSq41.2.1.lt, hSq41.2.2.trans (bq59.mono (hSq41.2.2.size))⟩ (fun hSq68 => ?_)
            clear hK K hSq41 bq59 egq63 ezq64
            refine wpAnyH_ready (rs := [4]) (by kernel_rfl) (by simp) ?_
            refine AllReadyH.cons rfl (fun K hK => ?_) AllReadyH.nil
            go_simp
            go_wp2_with (go_at_call 15; refine (HCS.out _).mono ?_; rintro e yq69 ⟨rfl, bq70⟩)
            have hEq71 := hEq61.below bq70 hEq61.lt
            refine hK.out _ _ ⟨hSq68.1.below bq70 hSq68.1.lt, hSq68.2.1.below bq70 hSq68.2.1.lt, hSq68.2.2.trans (bq70.mono (hSq68.2.2.size))⟩ (fun hSq72 => ?_)
            clear hK K hSq68 bq70
            refine wpAnyH_ready (rs := [6]) (by kernel_rfl) (by simp) ?_
            refine AllReadyH.cons rfl (fun K hK => ?_) AllReadyH.nil
            rw [if_pos (by rfl)]
            refine wp_storeBlk 25 (.tmp 13) (.tmp 153) rfl gq62 (k.map bv).toArray (by rfl) (by rfl) _ _ hEq71 (by rw [bv_size, HKL.out]; exact Try.sizeA32) (by rw [bv_size, HKL.out, Z32_size]) (bv_all _) ?_
            intro yq73 hEq74 grq75
            refine hK.out _ _ ⟨hSq72.1.grown grq75 (by first | (simp; done) | (simp; omega) | omega), hSq72.2.1.grown grq75 (by first | (simp; done) | (simp; omega) | omega), below_new hSq72.2.2 grq75 lgq65 (hSq72.2.2.size)⟩ (fun hSq76 => ?_)
            clear hK K hSq72
            refine wpAnyH_done (by kernel_rfl) ?_ _
            obtain ⟨kb, hkb⟩ : ∃ z, z = gq62 := ⟨_, rfl⟩
            obtain ⟨W4, hW4⟩ : ∃ z, z = yq73 := ⟨_, rfl⟩
            have hzz : Below y1.heap.size y1 W4 := by rw [hW4]; exact hSq76.2.2
            have hXX : Blk W4 xb c.cells.toArray 28 := by rw [hW4]; exact hSq76.1
            have hPP : Blk W4 pb (p.map bv).toArray 25 := by rw [hW4]; exact hSq76.2.1
            have hKK : Blk W4 kb (k.map bv).toArray 25 := by rw [hW4, hkb]; exact hEq74
            rw [← hkb, ← hW4]
            have hS0 : NS N0 w Bb o' o' (.slice nvo fss.length nvc) fss [(xb, c.cells, 28), (pb, p.map bv, 25), (kb, k.map bv, 25)] W4 := ⟨.inl (hb1.below hzz), hnt3.below hzz, hbl3.trans (hzz.mono (Nat.le_trans hN0B hsz3)), Nat.le_trans hsz3 hzz.size, fun b hb => by
              simp only [List.mem_cons, List.not_mem_nil, or_false] at hb
              rcases hb with rfl | rfl | rfl
              · exact hXX
              · exact hPP
              · exact hKK⟩
            clear hSq76 hEq74 hkb hW4 hzz hXX hPP hKK hnt3 hbl3 hsz3 hb1
            go_wp2_with fail
            refine wp_region_invL (NS N0 w Bb o' o' (.slice nvo fss.length nvc) fss [(xb, c.cells, 28), (pb, p.map bv, 25), (kb, k.map bv, 25)]) (Tr Bb o' o')
               [(fun v y => v = Value.slice none 0 0),
                (fun v y => v = Value.agg (k.map bv).toArray),
                (fun v y => HashOwn y Bb 25 v [k]),
                (fun v y => v = Value.agg (p.map bv).toArray),
                (fun v y => v = Value.agg (m.map bv).toArray),
                (fun v y => HashOwn y Bb 25 v [m]),
                (fun v y => FactV y Bb v ⟨[m], [k]⟩),
                (fun v y => v = Value.agg (k.map bv).toArray),
                (fun v y => HashOwn y Bb 25 v [k]),
                (fun v y => v = Value.pointer (some ⟨xb, 33, none⟩)),
                (fun v y => v = Value.agg (c.b.map bv).toArray),
                (fun v y => HashOwn y Bb 25 v [c.b]),
                (fun v y => FactV y Bb v ⟨[c.b], [k]⟩),
                (fun v y => v = Value.pointer (some ⟨xb, 66, none⟩)),
                (fun v y => v = Value.slice sao L.length sc),
                (fun v y => HashOwn y Bb 25 v L),
                (fun v y => v = Value.agg (k.map bv).toArray),
                (fun v y => HashOwn y Bb 25 v [k]),
                (fun v y => FactV y Bb v ⟨[k], L⟩),
                (fun v y => RFactsOwn (fun _ => False) y Bb v [⟨[m], [k]⟩, ⟨[c.b], [k]⟩, ⟨[k], L⟩]),
                (fun v y => RFactsOwn (fun _ => False) y Bb v [⟨[m], [k]⟩, ⟨[c.b], [k]⟩, ⟨[k], L⟩]),
                (fun v y => RFactsOwn (fun _ => False) y Bb v [⟨[m], [k]⟩, ⟨[c.b], [k]⟩, ⟨[k], L⟩])]
               [[], [], [(some 155, 1)], [], [(some 157, 3)], [(some 158, 4)], [(some 156, 2), (some 159, 5)], [], [(some 161, 7)], [], [(some 163, 9)], [(some 164, 10)], [(some 162, 8), (some 165, 11)], [], [(some 167, 13)], [(some 168, 14)], [], [(some 170, 16)], [(some 169, 15), (some 171, 17)], [(some 160, 6), (some 166, 12), (some 172, 18)], [(some 154, 0), (some 173, 19)], [(some 174, 20)]]
               [(some 154, 0), (some 155, 1), (some 156, 2), (some 157, 3), (some 158, 4), (some 159, 5), (some 160, 6), (some 161, 7), (some 162, 8), (some 163, 9), (some 164, 10), (some 165, 11), (some 166, 12), (some 167, 13), (some 168, 14), (some 169, 15), (some 170, 16), (some 171, 17), (some 172, 18), (some 173, 19), (some 174, 20), (some 11, 21)]
               [0, 1, 2, 3, 4, 5, 6, 7, 8, 9, 10, 11, 12, 13, 14, 15, 16, 17, 18, 19, 20, 21] (by kernel_rfl) (by kernel_rfl) (by rfl) (fun _ _ _ _ e h => And.intro (e.trans (And.left h)) (And.right h)) ?_ (hS0.drew hN0B) ?_ ?_
            · exact ⟨fun v y y' t h => h, fun v y y' t h => h, fun v y y' t h => HashOwn.tr h t, fun v y y' t h => h, fun v y y' t h => h, fun v y y' t h => HashOwn.tr h t, fun v y y' t h => FactV.tr h t, fun v y y' t h => h, fun v y y' t h => HashOwn.tr h t, fun v y y' t h => h, fun v y y' t h => h, fun v y y' t h => HashOwn.tr h t, fun v y y' t h => FactV.tr h t, fun v y y' t h => h, fun v y y' t h => h, fun v y y' t h => HashOwn.tr h t, fun v y y' t h => h, fun v y y' t h => HashOwn.tr h t, fun v y y' t h => FactV.tr h t, fun v y y' t h => RFactsOwn.tr h t, fun v y y' t h => RFactsOwn.tr h t, fun v y y' t h => RFactsOwn.tr h t, trivial⟩
            · refine AllInv.cons (d := []) rfl rfl (fun vs y hS hd K hK => ?_) ?_
              · refine inv_yieldsIf (v := Value.slice none 0 0) (S := NS N0 w Bb o' o' (.slice nvo fss.length nvc) fss [(xb, c.cells, 28), (pb, p.map bv, 25), (kb, k.map bv, 25)]) (Or.inl ⟨by rfl, fun x hx => by simp only [putsL, Act.put, List.setIfInBounds_toArray, List.set_cons_zero, List.set_cons_succ]; go_simp⟩) hS (hK.out _ _ hS (Tr.refl _ _ _ _) rfl)
              refine AllInv.cons (d := []) rfl rfl (fun vs y hS hd K hK => ?_) ?_
              · refine inv_yieldsIf (S := NS N0 w Bb o' o' (.slice nvo fss.length nvc) fss [(xb, c.cells, 28), (pb, p.map bv, 25), (kb, k.map bv, 25)]) (yieldsIf_load_mid (by rfl) 25 (.tmp 13) rfl (kb) (0) (by simp only [putsL, Act.put, List.setIfInBounds_toArray, List.set_cons_zero, List.set_cons_succ] <;> rfl) (k.map bv) _ (fun x hx => blk_rangeP (hx.mem 2 rfl)) Try.underlying25 rfl (by rw [List.length_map, HKL.out]; exact Try.sizeA32)) hS (hK.out _ _ hS (Tr.refl _ _ _ _) rfl)
              refine AllInv.cons (d := [(some 155, 1)]) rfl rfl (fun vs y hS hd K hK => ?_) ?_
              · obtain ⟨r1, -⟩ := hd
                have e1 : vs 1 = Value.agg (k.map bv).toArray := r1
                simp only [putsL, Act.put, List.setIfInBounds_toArray, List.set_cons_zero, List.set_cons_succ] at hK ⊢
                simp only [e1] at hK ⊢
                rw [if_pos (by rfl)]
                refine wp_bsH 33 25 (.tmp 155) rfl k HKL.out (by rfl) Try.underlying33 Try.infoH2 ?_
                intro g1 y1 q1 z1 b1 n1
                exact hK.out _ _ (hS.below b1 hN0B) (Tr.ofBelow b1 hS.size) (HashOwn.one n1 HKL.out (by rw [q1]; exact hS.size))
              refine AllInv.cons (d := []) rfl rfl (fun vs y hS hd K hK => ?_) ?_
              · refine inv_yieldsIf (S := NS N0 w Bb o' o' (.slice nvo fss.length nvc) fss [(xb, c.cells, 28), (pb, p.map bv, 25), (kb, k.map bv, 25)]) (yieldsIf_load_mid (by rfl) 25 (.tmp 12) rfl (pb) (0) (by simp only [putsL, Act.put, List.setIfInBounds_toArray, List.set_cons_zero, List.set_cons_succ] <;> rfl) (p.map bv) _ (fun x hx => blk_rangeP (hx.mem 1 rfl)) Try.underlying25 rfl (by rw [List.length_map, HPL.out]; exact Try.sizeA32)) hS (hK.out _ _ hS (Tr.refl _ _ _ _) rfl)
              refine AllInv.cons (d := [(some 157, 3)]) rfl rfl (fun vs y hS hd K hK => ?_) ?_
              · obtain ⟨r3, -⟩ := hd
                have e3 : vs 3 = Value.agg (p.map bv).toArray := r3
                simp only [putsL, Act.put, List.setIfInBounds_toArray, List.set_cons_zero, List.set_cons_succ] at hK ⊢
                simp only [e3] at hK ⊢
                go_simp
                go_wp2_with (go_at_call 9; refine (HCM.out _).mono ?_; rintro e y1 ⟨rfl, b1⟩)
                exact hK.out _ _ (hS.below b1 hN0B) (Tr.ofBelow b1 hS.size) rfl
              refine AllInv.cons (d := [(some 158, 4)]) rfl rfl (fun vs y hS hd K hK => ?_) ?_
              · obtain ⟨r4, -⟩ := hd
                have e4 : vs 4 = Value.agg (m.map bv).toArray := r4
                simp only [putsL, Act.put, List.setIfInBounds_toArray, List.set_cons_zero, List.set_cons_succ] at hK ⊢
                simp only [e4] at hK ⊢
                rw [if_pos (by rfl)]
                refine wp_bsH 33 25 (.tmp 158) rfl m HML.out (by rfl) Try.underlying33 Try.infoH2 ?_
                intro g1 y1 q1 z1 b1 n1
                exact hK.out _ _ (hS.below b1 hN0B) (Tr.ofBelow b1 hS.size) (HashOwn.one n1 HML.out (by rw [q1]; exact hS.size))
              refine AllInv.cons (d := [(some 156, 2), (some 159, 5)]) rfl rfl (fun vs y hS hd K hK => ?_) ?_
              · obtain ⟨r2, r5, -⟩ := hd
                have r2 : HashOwn y Bb 25 (vs 2) [k] := r2
                obtain ⟨p2, c2, e2⟩ := r2.slice
                rw [e2] at r2
                have r5 : HashOwn y Bb 25 (vs 5) [m] := r5
                obtain ⟨p5, c5, e5⟩ := r5.slice
                rw [e5] at r5
                simp only [putsL, Act.put, List.setIfInBounds_toArray, List.set_cons_zero, List.set_cons_succ] at hK ⊢
                simp only [e2, e5] at hK ⊢
                go_simp
                go_wp2_with (go_at_call 6; refine (Made_calls _ _ _ _ _ _ _).mono ?_; rintro e y1 ⟨rfl, b1⟩)
                exact hK.out _ _ (hS.below b1 hN0B) (Tr.ofBelow b1 hS.size) ⟨_, _, rfl, r5.below b1, r2.below b1⟩
              refine AllInv.cons (d := []) rfl rfl (fun vs y hS hd K hK => ?_) ?_
              · refine inv_yieldsIf (S := NS N0 w Bb o' o' (.slice nvo fss.length nvc) fss [(xb, c.cells, 28), (pb, p.map bv, 25), (kb, k.map bv, 25)]) (yieldsIf_load_mid (by rfl) 25 (.tmp 13) rfl (kb) (0) (by simp only [putsL, Act.put, List.setIfInBounds_toArray, List.set_cons_zero, List.set_cons_succ] <;> rfl) (k.map bv) _ (fun x hx => blk_rangeP (hx.mem 2 rfl)) Try.underlying25 rfl (by rw [List.length_map, HKL.out]; exact Try.sizeA32)) hS (hK.out _ _ hS (Tr.refl _ _ _ _) rfl)
              refine AllInv.cons (d := [(some 161, 7)]) rfl rfl (fun vs y hS hd K hK => ?_) ?_
              · obtain ⟨r7, -⟩ := hd
                have e7 : vs 7 = Value.agg (k.map bv).toArray := r7
                simp only [putsL, Act.put, List.setIfInBounds_toArray, List.set_cons_zero, List.set_cons_succ] at hK ⊢
                simp only [e7] at hK ⊢
                rw [if_pos (by rfl)]
                refine wp_bsH 33 25 (.tmp 161) rfl k HKL.out (by rfl) Try.underlying33 Try.infoH2 ?_
                intro g1 y1 q1 z1 b1 n1
                exact hK.out _ _ (hS.below b1 hN0B) (Tr.ofBelow b1 hS.size) (HashOwn.one n1 HKL.out (by rw [q1]; exact hS.size))
              refine AllInv.cons (d := []) rfl rfl (fun vs y hS hd K hK => ?_) ?_
              · refine inv_yieldsIf (v := Value.pointer (some ⟨xb, 33, none⟩)) (S := NS N0 w Bb o' o' (.slice nvo fss.length nvc) fss [(xb, c.cells, 28), (pb, p.map bv, 25), (kb, k.map bv, 25)]) (Or.inl ⟨by rfl, fun x hx => by simp only [putsL, Act.put, List.setIfInBounds_toArray, List.set_cons_zero, List.set_cons_succ]; go_simp⟩) hS (hK.out _ _ hS (Tr.refl _ _ _ _) rfl)
              refine AllInv.cons (d := [(some 163, 9)]) rfl rfl (fun vs y hS hd K hK => ?_) ?_
              · obtain ⟨r9, -⟩ := hd
                have e9 : vs 9 = Value.pointer (some ⟨xb, 33, none⟩) := r9
                refine inv_yieldsIf (S := NS N0 w Bb o' o' (.slice nvo fss.length nvc) fss [(xb, c.cells, 28), (pb, p.map bv, 25), (kb, k.map bv, 25)]) (yieldsIf_load_mid (by rfl) 26 (.tmp 163) rfl (xb) (0 + 33) (by simp only [putsL, Act.put, List.setIfInBounds_toArray, List.set_cons_zero, List.set_cons_succ, e9] <;> rfl) (c.b.map bv) _ (fun x hx => act_b (blk_rangeP (hx.mem 0 rfl))) Try.underlying26 rfl (by rw [List.length_map, c.hb]; exact Try.sizeHash)) hS (hK.out _ _ hS (Tr.refl _ _ _ _) rfl)
              refine AllInv.cons (d := [(some 164, 10)]) rfl rfl (fun vs y hS hd K hK => ?_) ?_
              · obtain ⟨r10, -⟩ := hd
                have e10 : vs 10 = Value.agg (c.b.map bv).toArray := r10
                simp only [putsL, Act.put, List.setIfInBounds_toArray, List.set_cons_zero, List.set_cons_succ] at hK ⊢
                simp only [e10] at hK ⊢
                rw [if_pos (by rfl)]
                refine wp_bsH 33 25 (.tmp 164) rfl c.b c.hb (by rfl) Try.underlying33 Try.infoH2 ?_
                intro g1 y1 q1 z1 b1 n1
                exact hK.out _ _ (hS.below b1 hN0B) (Tr.ofBelow b1 hS.size) (HashOwn.one n1 c.hb (by rw [q1]; exact hS.size))
              refine AllInv.cons (d := [(some 162, 8), (some 165, 11)]) rfl rfl (fun vs y hS hd K hK => ?_) ?_
              · obtain ⟨r8, r11, -⟩ := hd
                have r8 : HashOwn y Bb 25 (vs 8) [k] := r8
                obtain ⟨p8, c8, e8⟩ := r8.slice
                rw [e8] at r8
                have r11 : HashOwn y Bb 25 (vs 11) [c.b] := r11
                obtain ⟨p11, c11, e11⟩ := r11.slice
                rw [e11] at r11
                simp only [putsL, Act.put, List.setIfInBounds_toArray, List.set_cons_zero, List.set_cons_succ] at hK ⊢
                simp only [e8, e11] at hK ⊢
                go_simp
                go_wp2_with (go_at_call 6; refine (Made_calls _ _ _ _ _ _ _).mono ?_; rintro e y1 ⟨rfl, b1⟩)
                exact hK.out _ _ (hS.below b1 hN0B) (Tr.ofBelow b1 hS.size) ⟨_, _, rfl, r11.below b1, r8.below b1⟩
              refine AllInv.cons (d := []) rfl rfl (fun vs y hS hd K hK => ?_) ?_
              · refine inv_yieldsIf (v := Value.pointer (some ⟨xb, 66, none⟩)) (S := NS N0 w Bb o' o' (.slice nvo fss.length nvc) fss [(xb, c.cells, 28), (pb, p.map bv, 25), (kb, k.map bv, 25)]) (Or.inl ⟨by rfl, fun x hx => by simp only [putsL, Act.put, List.setIfInBounds_toArray, List.set_cons_zero, List.set_cons_succ]; go_simp⟩) hS (hK.out _ _ hS (Tr.refl _ _ _ _) rfl)
              refine AllInv.cons (d := [(some 167, 13)]) rfl rfl (fun vs y hS hd K hK => ?_) ?_
              · obtain ⟨r13, -⟩ := hd
                have e13 : vs 13 = Value.pointer (some ⟨xb, 66, none⟩) := r13
                refine inv_yieldsIf (v := Value.slice sao L.length sc) (S := NS N0 w Bb o' o' (.slice nvo fss.length nvc) fss [(xb, c.cells, 28), (pb, p.map bv, 25), (kb, k.map bv, 25)]) (Or.inl ⟨by rfl, fun x hx => by simp only [putsL, Act.put, List.setIfInBounds_toArray, List.set_cons_zero, List.set_cons_succ, e13]; have hc := act_v (blk_rangeP (hx.mem 0 rfl)); rw [Nat.zero_add, HSE.out] at hc; go_simp⟩) hS (hK.out _ _ hS (Tr.refl _ _ _ _) rfl)
              refine AllInv.cons (d := [(some 168, 14)]) rfl rfl (fun vs y hS hd K hK => ?_) ?_
              · obtain ⟨r14, -⟩ := hd
                have e14 : vs 14 = Value.slice sao L.length sc := r14
                simp only [putsL, Act.put, List.setIfInBounds_toArray, List.set_cons_zero, List.set_cons_succ] at hK ⊢
                simp only [e14] at hK ⊢
                go_simp
                go_wp2_with (go_at_call 12; refine (plain4_calls _ L _ (HSVB.out _ hS.bel) (by omega)).mono ?_; rintro e y1 ⟨v1, rfl, n1, b1⟩)
                exact hK.out _ _ (hS.below b1 hN0B) (Tr.ofBelow b1 hS.size) (n1.weakR hS.size)
              refine AllInv.cons (d := []) rfl rfl (fun vs y hS hd K hK => ?_) ?_
              · refine inv_yieldsIf (S := NS N0 w Bb o' o' (.slice nvo fss.length nvc) fss [(xb, c.cells, 28), (pb, p.map bv, 25), (kb, k.map bv, 25)]) (yieldsIf_load_mid (by rfl) 25 (.tmp 13) rfl (kb) (0) (by simp only [putsL, Act.put, List.setIfInBounds_toArray, List.set_cons_zero, List.set_cons_succ] <;> rfl) (k.map bv) _ (fun x hx => blk_rangeP (hx.mem 2 rfl)) Try.underlying25 rfl (by rw [List.length_map, HKL.out]; exact Try.sizeA32)) hS (hK.out _ _ hS (Tr.refl _ _ _ _) rfl)
              refine AllInv.cons (d := [(some 170, 16)]) rfl rfl (fun vs y hS hd K hK => ?_) ?_
              · obtain ⟨r16, -⟩ := hd
                have e16 : vs 16 = Value.agg (k.map bv).toArray := r16
                simp only [putsL, Act.put, List.setIfInBounds_toArray, List.set_cons_zero, List.set_cons_succ] at hK ⊢
                simp only [e16] at hK ⊢
                rw [if_pos (by rfl)]
                refine wp_bsH 33 25 (.tmp 170) rfl k HKL.out (by rfl) Try.underlying33 Try.infoH2 ?_
                intro g1 y1 q1 z1 b1 n1
                exact hK.out _ _ (hS.below b1 hN0B) (Tr.ofBelow b1 hS.size) (HashOwn.one n1 HKL.out (by rw [q1]; exact hS.size))
              refine AllInv.cons (d := [(some 169, 15), (some 171, 17)]) rfl rfl (fun vs y hS hd K hK => ?_) ?_
              · obtain ⟨r15, r17, -⟩ := hd
                have r15 : HashOwn y Bb 25 (vs 15) L := r15
                obtain ⟨p15, c15, e15⟩ := r15.slice
                rw [e15] at r15
                have r17 : HashOwn y Bb 25 (vs 17) [k] := r17
                obtain ⟨p17, c17, e17⟩ := r17.slice
                rw [e17] at r17
                simp only [putsL, Act.put, List.setIfInBounds_toArray, List.set_cons_zero, List.set_cons_succ] at hK ⊢
                simp only [e15, e17] at hK ⊢
                go_simp
                go_wp2_with (go_at_call 6; refine (Made_calls _ _ _ _ _ _ _).mono ?_; rintro e y1 ⟨rfl, b1⟩)
                exact hK.out _ _ (hS.below b1 hN0B) (Tr.ofBelow b1 hS.size) ⟨_, _, rfl, r17.below b1, r15.below b1⟩
              refine AllInv.cons (d := [(some 160, 6), (some 166, 12), (some 172, 18)]) rfl rfl (fun vs y hS hd K hK => ?_) ?_
              · obtain ⟨r6, r12, r18, -⟩ := hd
                have r6 : FactV y Bb (vs 6) ⟨[m], [k]⟩ := r6
                obtain ⟨x6, z6, e6, hx6, hz6⟩ := r6
                have r12 : FactV y Bb (vs 12) ⟨[c.b], [k]⟩ := r12
                obtain ⟨x12, z12, e12, hx12, hz12⟩ := r12
                have r18 : FactV y Bb (vs 18) ⟨[k], L⟩ := r18
                obtain ⟨x18, z18, e18, hx18, hz18⟩ := r18
                simp only [putsL, Act.put, List.setIfInBounds_toArray, List.set_cons_zero, List.set_cons_succ] at hK ⊢
                simp only [e6, e12, e18] at hK ⊢
                rw [if_pos (by rfl)]
                refine wp_factsLit 31 35 3 #[(0, .tmp 160), (1, .tmp 166), (2, .tmp 172)] rfl rfl Bb hS.size [⟨[m], [k]⟩, ⟨[c.b], [k]⟩, ⟨[k], L⟩] [(x6, z6), (x12, z12), (x18, z18)] rfl (by omega) (by omega) rfl (pairs3 hx6 hz6 hx12 hz12 hx18 hz18) (by simp only [List.map_toArray, List.map_cons, List.map_nil, List.zipIdx_cons, List.zipIdx_nil]; rfl) Try.underlying31 Try.infoRF2 ?_
                intro v1 y1 b1 n1
                exact hK.out _ _ (hS.below b1 hN0B) (Tr.ofBelow b1 hS.size) n1
              refine AllInv.cons (d := [(some 154, 0), (some 173, 19)]) rfl rfl (fun vs y hS hd K hK => ?_) ?_
              · obtain ⟨r0, r19, -⟩ := hd
                have e0 : vs 0 = Value.slice none 0 0 := r0
                have r19 : RFactsOwn (fun _ => False) y Bb (vs 19) [⟨[m], [k]⟩, ⟨[c.b], [k]⟩, ⟨[k], L⟩] := r19
                simp only [putsL, Act.put, List.setIfInBounds_toArray, List.set_cons_zero, List.set_cons_succ] at hK ⊢
                simp only [e0] at hK ⊢
                rw [if_pos (by rfl)]
                refine wp_rfNil (.tmp 154) (.tmp 173) 31 rfl Try.underlying31 Try.infoRF3 Bb hS.size [⟨[m], [k]⟩, ⟨[c.b], [k]⟩, ⟨[k], L⟩] rfl (vs 19) rfl r19 (by simp) (by simp) ?_
                intro v1 y1 b1 n1
                exact hK.out _ _ (hS.below b1 hN0B) (Tr.ofBelow b1 hS.size) n1
              refine AllInv.cons (d := [(some 174, 20)]) rfl rfl (fun vs y hS hd K hK => ?_) ?_
              · obtain ⟨r20, -⟩ := hd
                refine inv_yieldsIf (v := vs 20) (S := NS N0 w Bb o' o' (.slice nvo fss.length nvc) fss [(xb, c.cells, 28), (pb, p.map bv, 25), (kb, k.map bv, 25)]) (Or.inl ⟨by rfl, fun x hx => by simp only [putsL, Act.put, List.setIfInBounds_toArray, List.set_cons_zero, List.set_cons_succ]; go_simp⟩) hS (hK.out _ _ hS (Tr.refl _ _ _ _) r20)
              exact AllInv.nil
            · intro vs y hS hd
              obtain ⟨r0, r1, r2, r3, r4, r5, r6, r7, r8, r9, r10, r11, r12, r13, r14, r15, r16, r17, r18, r19, r20, r21, -⟩ := hd
              have e0 : vs 0 = Value.slice none 0 0 := r0
              have e1 : vs 1 = Value.agg (k.map bv).toArray := r1
              have e3 : vs 3 = Value.agg (p.map bv).toArray := r3
              have e4 : vs 4 = Value.agg (m.map bv).toArray := r4
              have e7 : vs 7 = Value.agg (k.map bv).toArray := r7
              have e9 : vs 9 = Value.pointer (some ⟨xb, 33, none⟩) := r9
              have e10 : vs 10 = Value.agg (c.b.map bv).toArray := r10
              have e13 : vs 13 = Value.pointer (some ⟨xb, 66, none⟩) := r13
              have e14 : vs 14 = Value.slice sao L.length sc := r14
              have e16 : vs 16 = Value.agg (k.map bv).toArray := r16
              simp only [putsL, Act.put, List.setIfInBounds_toArray, List.set_cons_zero, List.set_cons_succ]
              simp only [e0, e1, e3, e4, e7, e9, e10, e13, e14, e16]
              have hRF : RFactsOwn (fun _ => False) y Bb (vs 21) [⟨[m], [k]⟩, ⟨[c.b], [k]⟩, ⟨[k], L⟩] := r21
              have hBK : BkAt (fun _ : Nat => False) y Bb o' := hS.bk.elim id id
              obtain ⟨fo, fm, fq, hfe⟩ : ∃ ao n c, vs 21 = .slice ao n c := by
                obtain ⟨ao, c, e, -⟩ := hRF.at.slice
                exact ⟨_, _, _, e⟩
              rw [hfe] at hRF
              simp only [hfe]
              have hNT := hS.note
              have hBL := hS.bel
              have hSZ := hS.size
              clear hS
              go_wp2_with (first | ((with_reducible show wpList _ _ _ (⟨some 177, _, _, _, _, _⟩ :: _) _ _); refine wpList_bs1S rfl 32 31 (.tmp 176) rfl _ (by rfl) rfl Try.underlying32 _ Try.infoRS2 ?_; intro g2 y2 b2 n2; have hRF2 := hRF.below b2; have hNT2 := hNT.below b2; have hBK2 := hBK.below b2; have hBL2 := hBL.trans (b2.mono (Nat.le_trans hN0B hSZ)); have hSZ2 := Nat.le_trans hSZ b2.size; clear hRF hNT hBK hBL hSZ b2) | ((with_reducible show wpList _ _ _ (⟨some 178, _, _, _, _, _⟩ :: _) _ _); refine wpList_noteAdd rfl (.tmp 175) (.tmp 177) 32 rfl Try.underlying32 Try.infoRS3 Bb hSZ2 fss [⟨[m], [k]⟩, ⟨[c.b], [k]⟩, ⟨[k], L⟩] _ (by rfl) hNT2 _ g2 1 (by rfl) _ n2 hRF2 HLE.out ?_; intro nv3 y3 n3 f3 b3; have HPN : Hid (PNI N0 w Bb bk sm nm dm nv3 (fss ++ [[⟨[m], [k]⟩, ⟨[c.b], [k]⟩, ⟨[k], L⟩]]) (q + 1) y3) := HP.out.next (by rw [← HOE.out]; exact hBK2.frm f3 (by decide)) n3 (hBL2.trans (b3.mono hN0B)) (Nat.le_trans hSZ2 b3.size) HSF.out (by simp [wrapL]); clear hRF2 hNT2 hBK2 hBL2 hSZ2 n2 n3 f3 b3))
              go_roundw
              case rel => exact ⟨q + 1, _, by omega, by go_num, HPN⟩
              case measure => simp [intOf]; omega
        · obtain rfl : q = i := by omega
          obtain ⟨zv, rfl⟩ : ∃ z, z = wr := ⟨_, rfl⟩
          obtain ⟨NV, hNV⟩ : ∃ n, n = zv.heap.size := ⟨_, rfl⟩
          have HNV := Lib.hid hNV
          obtain ⟨nvo, nvc, rfl⟩ := HP.out.note.slice
          have hlq := HP.out.len
          have HLQ := Lib.hid hlq
          have hBv : Below NV zv zv := Below.refl _ _
          have HBV := Lib.hid hBv
          have HR0 : Hid (RFactsOwn (fun q => q < NV) zv Bb (.slice none 0 0) []) := RFactsOwn.nil _ _ _
          obtain ⟨ql, hql⟩ : ∃ n, n = fss.length := ⟨_, rfl⟩
          have HQL := Lib.hid hql
          have hqb : ql ≤ 40 := by omega
          have HCN : Hid (fss.flatten.length ≤ 120) := by show _ ≤ _; have := HP.out.cnt; omega
          rw [← hql]
          clear hlt hBv hNV hql
          go_wp2_with fail
          go_loopw [7, 14] (fun mv j wr => ∃ (a : Nat) (ms : List FactT), a ≤ ql ∧ j = .int .i64 a ∧ Hid (RFactsOwn (fun q => q < NV) wr Bb mv ms) ∧ Hid (ms = (fss.take a).flatten.foldl noteT []) ∧ Hid (Below NV zv wr)) (fun _ j _ => ql - (intOf j).toNat)
          case atStart => exact ⟨0, [], by omega, rfl, HR0, (by show _ = _; simp), HBV⟩
          case round =>
            clear HR0 HBV
            obtain ⟨a, ms, ha, rfl, HR, HMS, HB⟩ := hrel
            obtain ⟨z3, rfl⟩ : ∃ z, z = wr := ⟨_, rfl⟩
            by_cases hlt : a < ql
            · obtain ⟨F, hF⟩ : ∃ F, fss[a]? = some F := ⟨_, List.getElem?_eq_getElem (by have := HQL.out; omega)⟩
              have HF := Lib.hid hF
              have HMK : Hid (ms = ((fss.take a).flatten ++ F.take 0).foldl noteT []) := by show _ = _; rw [List.take_zero, List.append_nil]; exact HMS.out
              have HNO : Hid (∀ y, Below NV zv y → NoteOwn y Bb (.slice nvo ql nvc) fss) := fun y hy => by rw [HQL.out]; exact HP.out.note.below (by rw [← HNV.out]; exact hy)
              obtain ⟨ng, ncap, u, hne, hnc, hnl, hru⟩ := (HNO.out zv (Below.refl _ _)).get hF
              have hne2 : nvo = some ⟨ng, 0, none⟩ := by
                simp only [Value.slice.injEq] at hne
                exact hne.1
              obtain rfl := hne2
              obtain ⟨uo, uc, rfl⟩ : ∃ ao c, u = .slice ao F.length c := by
                obtain ⟨ao, c, e, -⟩ := hru.at.slice
                exact ⟨_, _, e⟩
              have HCE : Hid (∀ y, Below NV zv y → y.cell? ⟨ng, a, none⟩ = some (.slice uo F.length uc) ∧ RFactsOwn (fun _ => False) y Bb (.slice uo F.length uc) F) := fun y hy => ⟨(hy.cell (p := ⟨ng, a, none⟩) (by rw [HNV.out]; exact hnl)).trans hnc, hru.below (by rw [← HNV.out]; exact hy)⟩
              obtain ⟨fl, hfl⟩ : ∃ n, n = F.length := ⟨_, rfl⟩
              have HFL := Lib.hid hfl
              have HFL9 : Hid (fl ≤ 120) := by
                show _ ≤ _
                have h1 := flat_len (k := F.length) HF.out
                have h2 := HCN.out
                rw [List.take_length, List.length_append] at h1
                omega
              have hfl9 := HFL9.out
              rw [← hfl] at HCE
              clear hF hne hnc hnl hru hfl
              go_wp2_with fail
              go_loopw [7, 15] (fun mv j wr => ∃ (b : Nat) (ms : List FactT), b ≤ fl ∧ j = .int .i64 b ∧ Hid (RFactsOwn (fun q => q < NV) wr Bb mv ms) ∧ Hid (ms = ((fss.take a).flatten ++ F.take b).foldl noteT []) ∧ Hid (Below NV zv wr)) (fun _ j _ => fl - (intOf j).toNat)
              case atStart => exact ⟨0, ms, by omega, rfl, HR, HMK, HB⟩
              case round =>
                clear HR HMK HMS HB
                obtain ⟨b, ms, hb, rfl, HR, HMS, HB⟩ := hrel
                obtain ⟨z4, rfl⟩ : ∃ z, z = wr := ⟨_, rfl⟩
                have hce := (HCE.out _ HB.out).1
                by_cases hlb : b < fl
                · obtain ⟨f, hf⟩ : ∃ f, F[b]? = some f := ⟨_, List.getElem?_eq_getElem (by have := HFL.out; omega)⟩
                  obtain ⟨fg, fcap, x, y, hfe, hfr, hfg, hfx, hfy⟩ := (HCE.out _ HB.out).2.get hf
                  have hfe2 : uo = some ⟨fg, 0, none⟩ := by
                    simp only [Value.slice.injEq] at hfe
                    exact hfe.1
                  obtain rfl := hfe2
                  have HSM3 : Hid (∀ k, ∀ g ∈ (fss.take a).flatten ++ F.take k, FSmall g) := fun k g hg => HP.out.small g (flat_mem HF.out hg)
                  have hfs := small_fsb (n := 120) (HSM3.out b) (Nat.le_trans (flat_len HF.out) HCN.out)
                  rw [← HMS.out] at hfs
                  have HFS := Lib.hid hfs
                  have HFO : Hid (FOk f) := (HP.out.small f (flat_mem (k := F.length) HF.out (List.mem_append_right _ (by rw [List.take_length]; exact List.mem_of_getElem? hf)))).1
                  have HNX : Hid (noteT ms f = ((fss.take a).flatten ++ F.take (b + 1)).foldl noteT []) := by
                    show _ = _
                    rw [List.take_add_one, hf, Option.toList_some, ← List.append_assoc, List.foldl_append, ← HMS.out]
                    rfl
                  have HXY : Hid (HashOwn z4 Bb 25 x f.ins ∧ HashOwn z4 Bb 25 y f.outs) := ⟨hfx, hfy⟩
                  have hzs : NV ≤ z4.heap.size := by rw [HNV.out]; exact HB.out.size
                  have HZS := Lib.hid hzs
                  have HBZ : Hid (Bb ≤ z4.heap.size) := Nat.le_trans (by rw [HNV.out]; exact HP.out.size) hzs
                  clear hf hfs hfx hfy hfe hfg hzs
                  go_wp2_with ((with_reducible show wpList _ _ _ (⟨some 202, _, _, _, _, _⟩ :: _) _ _); refine wpList_load_mid rfl 35 (.tmp 201) rfl fg (b * 2) (by rfl) [x, y] _ hfr Try.underlying35 rfl Try.sizeRF ?_)
                  refine (RefNote_calls _ x y f ms Bb z4 HR.out HXY.out.1 HXY.out.2 HFO.out HFS.out.ok (by have := HFS.out.len; omega) HBZ.out (fun q hq => Nat.lt_of_lt_of_le hq HZS.out)).mono ?_
                  rintro e z5 ⟨v5, rfl, hR5, hF5, hB5⟩
                  rw [HNX.out] at hR5
                  have HR5 := Lib.hid hR5
                  have HB5 : Hid (Below NV zv z5) := HB.out.trans (Below.ofFrm hB5 hF5 HZS.out)
                  clear hR5 hF5 hB5 hfr hce
                  go_wp2_with fail
                  go_roundw
                  case rel => exact ⟨b + 1, _, by omega, by go_num, HR5, (by show _ = _; rfl), HB5⟩
                  case measure => simp [intOf]; omega
                · obtain rfl : b = fl := by omega
                  have HMN : Hid (ms = (fss.take (a + 1)).flatten.foldl noteT []) := by
                    show _ = _
                    rw [flat_take _ _ _ HF.out, HMS.out, HFL.out, List.take_length]
                  go_wp2_with fail
                  clear hce
                  go_roundw
                  case rel => exact ⟨a + 1, ms, by omega, by go_num, HR, HMN, HB⟩
                  case measure => simp [intOf]; omega
            · obtain rfl : a = ql := by omega
              have HMF : Hid (ms = fss.flatten.foldl noteT []) := by show _ = _; rw [HMS.out, HQL.out, List.take_length]
              have hz3 : Below zv.heap.size zv z3 := by rw [← HNV.out]; exact HB.out
              have hbk := HP.out.bk.below hz3
              rw [← HMF.out] at hbk
              have hbl := HP.out.bel.trans (hz3.mono (Nat.le_trans hN0B HP.out.size))
              have hfs := small_fsb (n := 120) HP.out.small HCN.out
              rw [← HMF.out] at hfs
              have hfl := hfs.len
              have hfi := hfs.ins
              have huv := hfs.univLe (a := L0) (by have := HFN.out; omega) (by omega)
              have HFS := Lib.hid hfs
              have HUV := Lib.hid huv
              have HBL := Lib.hid hbl
              obtain ⟨mo, mc, rfl⟩ := HR.out.slice9
              have hbis := (show BookIs _ _ _ _ _ _ _ _ _ ∧ _ from hbk).1
              have HBIS := Lib.hid hbis
              have HRD := Lib.hid hbis.rd
              have HX0 : Hid (HashesAt z3 (.slice fao fn fc) L0) := HL0.out.below (by rw [← HN0.out]; exact hbl)
              have HML := Lib.hid HR.out.at
              have hl0 : L0.length ≤ 1000 := by have := HFN.out; omega
              clear hz3 hbk hbl hfs huv hbis HR
              go_wp2_with fail
              refine (Len_calls _ _ _ _ _ ms _ _ HBIS.out).mono ?_
              rintro e ww ⟨rfl, hww⟩
              have hww2 := hww.symm
              clear hww
              subst hww2
              go_wp2_with fail
              refine (Follows_gen _ _ L0 ms _ (known_calls _ L0 bk ms _ HX0.out HRD.out HUV.out (by omega) (by omega))).mono ?_
              rintro e w5 ⟨v5, R, rfl, hR, hRi, hRm, hRl, b5⟩
              have HR5 := Lib.hid hR
              have HRI := Lib.hid hRi
              have HRM := Lib.hid hRm
              have HX5 := Lib.hid (HX0.out.below b5)
              have HM5 := Lib.hid (HML.out.below b5)
              have HB5 : Hid (Below N0 w w5) := HBL.out.trans (b5.mono (Nat.le_trans (Nat.le_of_eq HN0.out) HBL.out.size))
              clear hR hRi hRm b5
              go_wp2_with fail
              refine (plain4_calls _ R _ HR5.out (by omega)).mono ?_
              rintro e w6 ⟨v6, rfl, hY, b6⟩
              have HY6 := Lib.hid hY.at
              have HX6 := Lib.hid (HX5.out.below b6)
              have HM6 := Lib.hid (HM5.out.below b6)
              have HB6 : Hid (Below N0 w w6) := HB5.out.trans (b6.mono (Nat.le_trans (Nat.le_of_eq HN0.out) HB5.out.size))
              clear hY b6
              go_wp2_with fail
              refine (plain4_calls _ L0 _ HX6.out (by omega)).mono ?_
              rintro e w7 ⟨v7, rfl, hZ, b7⟩
              have HZ7 := Lib.hid hZ.at
              have HY7 := Lib.hid (HY6.out.below b7)
              have HM7 := Lib.hid (HM6.out.below b7)
              have HB7 : Hid (Below N0 w w7) := HB6.out.trans (b7.mono (Nat.le_trans (Nat.le_of_eq HN0.out) HB6.out.size))
              clear hZ b7
              go_wp2_with fail
              refine (RefFollows_calls _ _ ms L0 _ HM7.out HZ7.out HFS.out.ok HUV.out (by omega)).mono ?_
              rintro e w8 ⟨v8, R2, rfl, hR2, hR2i, hR2m, b8⟩
              obtain rfl : R = R2 := rises_ext HRI.out hR2i HR5.out.1 hR2.1 (fun x => (HRM.out x).trans (hR2m x).symm)
              have HY8 := Lib.hid (HY7.out.below b8)
              have HR8 := Lib.hid hR2.at
              have HB8 : Hid (Below N0 w w8) := HB7.out.trans (b8.mono (Nat.le_trans (Nat.le_of_eq HN0.out) HB7.out.size))
              clear hR2 hR2i hR2m b8
              go_wp2_with fail
              refine (Alike_calls _ _ R R _ HY8.out HR8.out (by omega) (by omega)).mono ?_
              rintro e w9 ⟨rfl, b9⟩
              have HB9 : Hid (Below N0 w w9) := HB8.out.trans (b9.mono (Nat.le_trans (Nat.le_of_eq HN0.out) HB8.out.size))
              clear b9
              rw [decide_eq_true (rfl : R = R)]
              go_wp2_with fail
              go_returns
              exact ⟨rfl, HB9.out⟩
end Go.Proofs.Ytjlpdbaknhbgdaa
