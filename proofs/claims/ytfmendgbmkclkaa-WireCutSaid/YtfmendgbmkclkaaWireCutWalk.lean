/-
  WireCut: bytes that were put, cut off anywhere, fail where something is missing: for every list of things, at every cut.
-/
import Derived.Test.YtfmendgbmkclkaaWireCutLaw
import Derived.Test.YtfmendgbmkclkaaWireBackWalk
import Derived.Test.YtfmendgbmkclkaaQuiet
set_option linter.unusedSimpArgs false
set_option linter.unusedVariables false
namespace Go.Proofs.Ytfmendgbmkclkaa
open Go.RowKit

theorem cut_at (c : Int) (L : Nat) (h0 : 0 < L) (h1 : L ≤ 1099511627776) : ∃ m : Nat, m < L ∧ wrap64 ((IntKind.u64.wrap c).tmod (IntKind.u64.wrap (L : Int))) = (m : Int) := by
  have hc : 0 ≤ IntKind.u64.wrap c := by simp [IntKind.wrap, IntKind.bits, IntKind.signed]; omega
  rw [IntWalk.u64_in (L : Int) (by omega), Int.tmod_eq_emod_of_nonneg hc]
  have h2 := Int.emod_nonneg (IntKind.u64.wrap c) (show (L : Int) ≠ 0 by omega)
  have h3 := Int.emod_lt_of_pos (IntKind.u64.wrap c) (show (0 : Int) < L by omega)
  refine ⟨(IntKind.u64.wrap c % (L : Int)).toNat, by omega, ?_⟩
  rw [IntWalk.wrap64_in _ (by omega), Int.toNat_of_nonneg h2]
theorem range_at_below {w w' : World} {b o : Nat} {cs : List Value} (h : w.rangeAt b o cs) (hb : Below w.heap.size w w') (hlt : b < w.heap.size) : w'.rangeAt b o cs := fun j v hj => (hb.cell (p := ⟨b, o + j, none⟩) hlt).trans (h j v hj)
theorem rEnd_two (l : List UInt8) : rEnd (l, 2) = 2 := by simp [rEnd]

set_option maxHeartbeats 4000000 in
set_option maxRecDepth 100000 in
theorem cut_yes (w : World) (ao : Option Addr) (len cap : Nat) (c : Int) (xs : List Thing) (h : Things w ao len xs) (hl : len ≤ 300) (ht : tot xs ≤ 200000) :
    Calls Try.prog 6 #[.slice ao len cap, .int .i64 c] w fun e w' => e = .returned (.bool true) ∧ Below w.heap.size w w' := by
  have HT := Lib.hid ht
  have HH := Lib.hid h
  clear ht h
  go_enter Try.func6, Try.ntmps6
  go_wp2_with fail
  refine (awake_calls _).mono ?_
  rintro e w1 ⟨rfl, b1⟩
  go_wp2_with fail
  refine (fewYes_calls _ _ _ _ _ (HH.out.below b1) hl HT.out).mono ?_
  rintro e w2 ⟨rfl, rfl⟩
  go_wp2_with fail
  refine (New_calls _).mono ?_
  rintro e w3 ⟨rfl, h3, b3⟩
  obtain ⟨B, hB⟩ : ∃ B, B = w1.heap.size := ⟨_, rfl⟩
  rw [← hB] at h3 b3 ⊢
  have hwB : w.heap.size ≤ B := by rw [hB]; exact b1.size
  have hB3 : B ≤ w3.heap.size := by rw [hB]; exact b3.size
  clear hB
  have H3 := Lib.hid h3
  have HB3 : Hid (Below w.heap.size w w3) := b1.trans (b3.mono hwB)
  clear h3 b3 b1
  go_wp2_with fail
  go_loopw [6] (fun i wr => ∃ (k : Nat) (g : Bool), k ≤ len ∧ i = .int .i64 k ∧ Hid (g = cutsOk (xs.take k)) ∧ WriterIs B wr B (cutsS (xs.take k)) (!g) ∧ B ≤ wr.heap.size ∧ Hid (Below w.heap.size w wr)) (fun i _ => len - (intOf i).toNat)
  case atStart => exact ⟨0, true, by omega, rfl, rfl, H3.out, hB3, HB3⟩
  case round =>
    obtain ⟨k, g, hk, rfl, hg, hwr, hBr, hbr⟩ := hrel
    have hx := HH.out.1
    by_cases hlt : k < len
    · have hkx : k < xs.length := by omega
      rcases (HH.out.below hbr.out).2.2 with h0' | ⟨b, off, rfl, hbw, hcc⟩
      · omega
      have hR := hcc k hkx
      have hok := HH.out.2.1 _ (List.getElem_mem hkx)
      have e2 : Hid (cutsOk (xs.take (k + 1)) = (cutsOk (xs.take k) && cutOkB xs[k])) := by show _ = _; rw [List.take_succ_eq_append_getElem hkx, cutsOk_snoc]
      have e3 : Hid (cutsS (xs.take (k + 1)) = cutS xs[k] (cutsS (xs.take k))) := by show _ = _; rw [List.take_succ_eq_append_getElem hkx, cutsS_snoc]
      have hls : Hid ((cutsS (xs.take k)).length ≤ 274877906944) := by
        show _ ≤ _
        have := cutsS_len (xs.take k) (fun x hx => HH.out.2.1 x (List.mem_of_mem_take hx))
        have := tot_take xs k
        have := HT.out
        have : (xs.take k).length ≤ 300 := by rw [List.length_take]; omega
        omega
      obtain ⟨x, hxe⟩ : ∃ x, x = xs[k] := ⟨_, rfl⟩
      rw [← hxe] at e2 e3 hR hok
      have HXE := Lib.hid hxe
      have HOK := Lib.hid hok
      have HX := Lib.hid hx
      have hc0 := hR 0 _ rfl
      have hc2 := hR 2 _ rfl
      rw [Nat.add_zero] at hc0
      unfold bv at hc0
      have HR3 := Lib.hid (thing_3 x hok.h1 _ _ _ hR)
      clear hxe hcc hx hok hR
      have fin : ∀ (w4 : World), WriterIs B w4 B (cutS x (cutsS (xs.take k))) (!g || !cutOkB x) → WK B wr w4 → Hid (∃ g' : Bool, Hid (g' = cutsOk (xs.take (k + 1))) ∧ WriterIs B w4 B (cutsS (xs.take (k + 1))) (!g') ∧ B ≤ w4.heap.size ∧ Hid (Below w.heap.size w w4)) := by
        intro w4 a c
        refine ⟨g && cutOkB x, ?_, ?_, Nat.le_trans hBr c.size, hbr.out.trans (c.below.mono hwB)⟩
        · show _ = _; rw [hg.out, e2.out]
        · rw [e3.out]; simpa using a
      have FIN := Lib.hid fin
      clear fin e2 e3
      by_cases h4 : x.k.toNat % 2 = 0
      · have hci : (x.k.toNat : Int) % 2 = 0 := by omega
        have H4 := Lib.hid h4
        clear h4
        go_wp2_with ((with_reducible show wpList _ _ _ (⟨some 41, _, _, _, _, _⟩ :: _) _ _); refine wpList_load_mid rfl 40 (.tmp 40) rfl b (off + k * 36 + 3) (by rfl) (x.h.map bv) _ HR3.out Try.underlying40 rfl (by rw [List.length_map, HOK.out.h1]; exact Try.sizeHash') ?_)
        refine (cutW_hash B B _ _ x HOK.out _ hwr hBr hls.out H4.out).mono ?_
        rintro e w4 ⟨rfl, h4, k4⟩
        have F := FIN.out w4 h4 k4
        clear FIN h4 k4 hwr
        go_wp2_with fail
        go_roundw
        case rel => obtain ⟨g', a, c, d, f⟩ := F.out; exact ⟨k + 1, g', by omega, by go_num, a, c, d, f⟩
        case measure => simp [intOf]; omega
      · have hci : (x.k.toNat : Int) % 2 = 1 := by omega
        have H4 := Lib.hid h4
        clear h4
        go_wp2_with fail
        refine (cutW_text B B _ _ x HOK.out _ hwr hBr hls.out H4.out).mono ?_
        rintro e w4 ⟨rfl, h4, k4⟩
        have F := FIN.out w4 h4 k4
        clear FIN h4 k4 hwr
        go_wp2_with fail
        go_roundw
        case rel => obtain ⟨g', a, c, d, f⟩ := F.out; exact ⟨k + 1, g', by omega, by go_num, a, c, d, f⟩
        case measure => simp [intOf]; omega
    · have hkl : xs.take k = xs := List.take_of_length_le (by omega)
      rw [hkl] at hg hwr
      cases g with
      | false =>
        clear hkl hx
        go_wp2_with fail
        refine (endBad_calls B _ _ _ hwr).mono ?_
        rintro e w5 ⟨rfl, rfl⟩
        go_wp2
        go_returns
        exact ⟨rfl, hbr.out⟩
      | true =>
        have hS := cutsS_eq xs hg.out.symm
        have hall : Hid (∀ x ∈ xs, cutOkB x = true) := by have := hg.out.symm; show ∀ x ∈ xs, cutOkB x = true; simpa [cutsOk] using this
        have hbl : Hid ((cutsB xs).length ≤ 1099511627776) := by
          show _ ≤ _
          have h1 := cutsS_len xs (fun x hx => HH.out.2.1 x hx)
          rw [hS] at h1
          have := HT.out
          omega
        rw [hS] at hwr
        clear hkl hS
        have HX := Lib.hid hx
        clear hx
        go_wp2_with fail
        refine (endOk_calls B _ _ _ hwr).mono ?_
        rintro e w5 ⟨rfl, rfl⟩
        by_cases h0 : (cutsB xs).length = 0
        · have e0 : cutsB xs = [] := List.eq_nil_of_length_eq_zero h0
          rw [e0]
          clear h0 e0
          go_wp2
          go_returns
          exact ⟨rfl, hbr.out⟩
        obtain ⟨m, hm, hmn⟩ : ∃ m : Nat, m < (cutsB xs).length ∧ wrap64 ((IntKind.u64.wrap c).tmod (IntKind.u64.wrap ((cutsB xs).length : Int))) = (m : Int) := cut_at c _ (by omega) hbl.out
        have hu : ¬ IntKind.u64.wrap ((cutsB xs).length : Int) = 0 := by rw [IntWalk.u64_in _ (by have := hbl.out; omega)]; omega
        have hm0 : 0 ≤ (m : Int) := by omega
        have hm1 : (m : Int) ≤ ((cutsB xs).length : Nat) := by omega
        go_wp2_with fail
        clear hmn hu
        refine (From_calls ((cutsB xs).take m) _).mono ?_
        rintro e w6 ⟨rfl, h6, b6⟩
        obtain ⟨A, hA⟩ : ∃ A, A = wr.heap.size := ⟨_, rfl⟩
        rw [← hA] at h6 b6 ⊢
        have hwA : w.heap.size ≤ A := by omega
        have HB6 : Hid (Below w.heap.size w w6) := hbr.out.trans (b6.mono hwA)
        have H6 := Lib.hid h6
        have HST : Hid (CutSt xs ((cutsB xs).take m, 0)) := .inr ⟨m, rfl, hm⟩
        have HSL : Hid (((cutsB xs).take m).length ≤ 1099511627776) := by show _ ≤ _; rw [List.length_take]; have := hbl.out; omega
        clear hA h6 b6 hwr hbr hg hm hm0 hm1 h0
        go_wp2_with fail
        obtain ⟨wo, rfl⟩ : ∃ wo : World, wo = wr := ⟨_, rfl⟩
        go_loopw [11, 12, 13] (fun i _ _ wr => ∃ (k : Nat) (st : List UInt8 × Int), k ≤ len ∧ i = .int .i64 k ∧ ReaderIs wr A st ∧ Hid (CutSt (xs.drop k) st) ∧ Hid (st.1.length ≤ 1099511627776) ∧ Hid (Below w.heap.size w wr)) (fun i _ _ _ => len - (intOf i).toNat)
        case atStart => exact ⟨0, _, by omega, rfl, H6.out, HST, HSL, HB6⟩
        case round =>
          obtain ⟨k, st, hk, rfl, hR, hst, hsl, hbr⟩ := hrel
          by_cases hlt : k < len
          · have hkx : k < xs.length := by have := HX.out; omega
            rcases HH.out.2.2 with h0' | ⟨b, off, rfl, hbw, hcc⟩
            · omega
            have hRg0 := hcc k hkx
            have hRg := range_at_below hRg0 hbr.out hbw
            have hok := HH.out.2.1 _ (List.getElem_mem hkx)
            have hpo := hall.out _ (List.getElem_mem hkx)
            have e1 := List.drop_eq_getElem_cons hkx
            obtain ⟨x, hxe⟩ : ∃ x, x = xs[k] := ⟨_, rfl⟩
            rw [← hxe] at e1 hRg hRg0 hok hpo
            have hst' := hst.out
            rw [e1] at hst'
            have HST' := Lib.hid hst'
            have hAw : A < wr.heap.size := Blk.lt hR
            have hc0 := hRg 0 _ rfl
            have hc2 := hRg 2 _ rfl
            rw [Nat.add_zero] at hc0
            unfold bv at hc0
            have HRG := Lib.hid hRg0
            have HOK := Lib.hid hok
            have HPO := Lib.hid hpo
            clear hxe hcc e1 hok hRg hRg0 hpo hst hst'
            by_cases h4 : x.k.toNat % 2 = 0
            · have hci : (x.k.toNat : Int) % 2 = 0 := by omega
              obtain ⟨hn1, hn2⟩ := cut_stepH x _ HOK.out h4 st HST'.out
              have HN1 := Lib.hid hn1
              have HL1 : Hid ((rHash st).2.1.length ≤ 1099511627776) := by show _ ≤ _; have := rHash_l st; have := hsl.out; omega
              have H32 := Lib.hid (rHash_1 st)
              clear h4 hn1
              go_wp2_with fail
              refine (RHash_calls A st _ hR hsl.out).mono ?_
              rintro e w7 ⟨rfl, hR7, g7⟩
              obtain ⟨hv, hve⟩ : ∃ hv, hv = (rHash st).1 := ⟨_, rfl⟩
              obtain ⟨st', hse⟩ : ∃ st', st' = (rHash st).2 := ⟨_, rfl⟩
              rw [← hve] at H32 hn2 ⊢
              rw [← hse] at HN1 HL1 hn2 hR7
              have HB7 : Hid (Below w.heap.size w w7) := hbr.out.trans (grown_below g7 hwA hbr.out.size)
              clear hve hse hR HST' hsl
              have H32' : Hid ((Try.prog.info? 40).map (·.size) = some (hv.map bv).toArray.size) := by show _ = _; rw [List.size_toArray, List.length_map, H32.out]; exact Try.sizeHash'
              have H32'' : Hid (32 = (hv.map bv).toArray.size) := by show _ = _; rw [List.size_toArray, List.length_map, H32.out]
              obtain ⟨C, hC⟩ : ∃ C, C = w7.heap.size := ⟨_, rfl⟩
              have HC := Lib.hid hC
              clear hC
              go_wp2_with ((with_reducible show wpList _ _ _ (⟨none, Op.store _ _ _, _, _, _, _⟩ :: _) _ _); refine wpList_storeBlk rfl 40 (.tmp 12) (.tmp 90) rfl w7.heap.size (hv.map bv).toArray (by rfl) (by rfl) _ _ (Blk.new _ _ _) H32'.out H32''.out (bv_all _) ?_; intro w8 hT8 g8; rw [← HC.out] at hT8 g8 ⊢; have HR8 : Hid (ReaderIs w8 A st') := Blk.grown (Blk.alloc hR7 _) g8 (by have := HC.out; have := Blk.lt hR7; simp; omega); have HB8 : Hid (Below w.heap.size w w8) := HB7.out.trans (((Below.refl w.heap.size w7).alloc HB7.out.size _).trans (grown_below g8 (by have := HB7.out.size; have := HC.out; omega) (by have := HB7.out.size; simp; omega))); have HT8 := Lib.hid hT8; have HG8 : Hid (w7.grownBy w8 (some C)) := grown_trans (grown_alloc (World.grownBy.refl _ _) _) g8; clear hT8 g8)
              obtain ⟨l', err⟩ := st'
              rcases hn2 with hn2 | ⟨hn2, hn3⟩
              · obtain rfl : err = 2 := hn2
                clear hc0 hc2 H32' H32''
                simp only [Act.put, List.setIfInBounds_toArray, List.set_cons_succ, List.set_cons_zero]
                go_quiet ((go_at_call 26; exact quiet_calls (Err_calls A _ _ (Blk.drewN HR8.out _))))
                go_wp2_with fail
                go_roundw
                case rel => exact ⟨k + 1, (l', 2), by omega, by go_num, Blk.drewN HR8.out _, HN1, HL1, below_drewN HB8 _⟩
                case measure => simp [intOf]; omega
              · obtain rfl : err = 0 := hn2
                obtain rfl : hv = x.h := hn3
                have hu40 := Try.underlying40
                have hi40 : (Try.prog.info? 40).map (·.size) = some (x.h.map bv).length := by rw [List.length_map, HOK.out.h1]; exact Try.sizeHash'
                have heq : ∀ w', (Op.equalIn 10000 40 (.agg (x.h.map bv).toArray) (.agg (x.h.map bv).toArray)).run Try.prog w' = .ok true w' := fun w' => by rw [run_eq_hash w' x.h x.h HOK.out.h1 HOK.out.h1]; simp
                have hr8 := Lib.hid (range_drewN (blk_range HT8.out))
                have hrx := Lib.hid (range_drewN (thing_3 x HOK.out.h1 _ _ _ (range_at_below HRG.out HB8.out hbw)))
                simp only [Act.put, List.setIfInBounds_toArray, List.set_cons_succ, List.set_cons_zero]
                refine wp_region_quiet_lit (by kernel_rfl) (by kernel_rfl) ?_
                repeat (first | ((with_reducible show wpQuiet _ _ _ _ (⟨some 95, _, _, _, _, _⟩ :: _) _); refine wpQuiet_loadMid (by rfl) 40 (.tmp 12) rfl C 0 (by rfl) (x.h.map bv) _ hr8.out hu40 rfl hi40 ?_; simp only [Act.put, List.setIfInBounds_toArray, List.set_cons_succ, List.set_cons_zero]) | ((with_reducible show wpQuiet _ _ _ _ (⟨some 100, _, _, _, _, _⟩ :: _) _); refine wpQuiet_loadMid (by rfl) 40 (.tmp 99) rfl b (off + k * 36 + 3) (by rfl) (x.h.map bv) _ hrx.out hu40 rfl hi40 ?_; simp only [Act.put, List.setIfInBounds_toArray, List.set_cons_succ, List.set_cons_zero]) | go_big_quiet_step ((go_at_call 26; exact quiet_calls (Err_calls A _ _ (Blk.drewN HR8.out _)))))
                refine wpQuiet_nil ?_
                intro _ hw'
                obtain ⟨nq, hw''⟩ := hw'
                subst hw''
                clear heq
                go_wp2_with fail
                go_roundw
                case rel => exact ⟨k + 1, (l', 0), by omega, by go_num, Blk.drewN HR8.out _, HN1, HL1, below_drewN HB8 _⟩
                case measure => simp [intOf]; omega
            · have hci : (x.k.toNat : Int) % 2 = 1 := by omega
              have ht : x.s.length ≤ 65536 := by have h1 := HPO.out; simp [cutOkB] at h1; omega
              obtain ⟨hn1, hn2⟩ := cut_stepT x _ h4 ht st HST'.out
              have HN1 := Lib.hid hn1
              have HL1 : Hid ((rText 65536 st).2.1.length ≤ 1099511627776) := by show _ ≤ _; have := rText_l st; have := hsl.out; omega
              clear h4 hn1 ht
              go_wp2_with fail
              refine (RText_calls A st 65536 _ hR hsl.out).mono ?_
              rintro e w7 ⟨rfl, hR7, g7⟩
              obtain ⟨hv, hve⟩ : ∃ hv, hv = (rText 65536 st).1 := ⟨_, rfl⟩
              obtain ⟨st', hse⟩ : ∃ st', st' = (rText 65536 st).2 := ⟨_, rfl⟩
              rw [← hve] at hn2 ⊢
              rw [← hse] at HN1 HL1 hn2 hR7
              have HB7 : Hid (Below w.heap.size w w7) := hbr.out.trans (grown_below g7 hwA hbr.out.size)
              have hd2 := range_at_below HRG.out HB7.out hbw 2 _ rfl
              clear hve hse hR HST' hsl hc0 hc2
              obtain ⟨l', err⟩ := st'
              rcases hn2 with hn2 | ⟨hn2, hn3⟩
              · obtain rfl : err = 2 := hn2
                go_wp2_with fail
                refine (Err_calls A _ _ hR7).mono ?_
                rintro e w9 ⟨rfl, rfl⟩
                go_wp2_with fail
                go_roundw
                case rel => exact ⟨k + 1, (l', 2), by omega, by go_num, hR7, HN1, HL1, HB7⟩
                case measure => simp [intOf]; omega
              · obtain rfl : err = 0 := hn2
                obtain rfl : hv = x.s := hn3
                go_wp2_with fail
                refine (Err_calls A _ _ hR7).mono ?_
                rintro e w9 ⟨rfl, rfl⟩
                go_wp2_with fail
                go_roundw
                case rel => exact ⟨k + 1, (l', 0), by omega, by go_num, hR7, HN1, HL1, HB7⟩
                case measure => simp [intOf]; omega
          · have hkl : xs.drop k = [] := List.drop_eq_nil_of_le (by have := HX.out; omega)
            have h2 := hst.out
            rw [hkl] at h2
            have h2 := cutSt_nil h2
            obtain ⟨l, err⟩ := st
            obtain rfl : err = 2 := h2
            clear hkl h2
            go_wp2_with fail
            refine (Err_calls A _ _ hR).mono ?_
            rintro e w9 ⟨rfl, rfl⟩
            go_wp2_with fail
            refine (REnd_calls A _ _ hR).mono ?_
            rintro e w9 ⟨rfl, rfl⟩
            rw [rEnd_two]
            go_wp2
            go_returns
            exact ⟨rfl, hbr.out⟩

theorem cut_no (w : World) (ao : Option Addr) (len cap : Nat) (c : Int) (xs : List Thing) (h : Things w ao len xs) (hm : len ≤ maxLen) (hno : ¬ (len ≤ 300 ∧ tot xs ≤ 200000)) :
    Calls Try.prog 6 #[.slice ao len cap, .int .i64 c] w fun e w' => e = .returned (.bool true) ∧ Below w.heap.size w w' := by
  have HH := Lib.hid h
  have HN := Lib.hid hno
  have HM := Lib.hid hm
  clear h hno hm
  go_enter Try.func6, Try.ntmps6
  go_wp2_with fail
  refine (awake_calls _).mono ?_
  rintro e w1 ⟨rfl, b1⟩
  go_wp2_with fail
  refine (fewNo_calls _ _ _ _ _ (HH.out.below b1) HM.out HN.out).mono ?_
  rintro e w2 ⟨rfl, rfl⟩
  go_wp2_with fail
  refine (awake_calls _).mono ?_
  rintro e w3 ⟨rfl, b3⟩
  go_wp2
  go_returns
  exact ⟨rfl, b1.trans (b3.mono b1.size)⟩

theorem walkWireCut {H : Type} {enc : TypeId × Value → H} (v : Value) {d : DataW H} {p : List MemPlace} {r : Reach} {b0 : Nat} {w : World} (hv : Value.okWide Try.prog w r b0 35 v)
    (h : DataW.Trod enc Try.prog w 0 (fun _ => true) true 35 v d p) (c : Int) (wf : (Lit.int .i64 c).wf = true) :
    Calls Try.prog 6 #[v, .int .i64 c] w fun e w' => e = .returned (.bool true) ∧ Below w.heap.size w w' := by
  have hT0 := open_things hv h
  obtain ⟨ao, len, cap, xs, rfl, hm, hT⟩ := hT0
  by_cases hf : len ≤ 300 ∧ tot xs ≤ 200000
  · exact cut_yes _ _ _ _ _ _ hT hf.1 hf.2
  · exact cut_no _ _ _ _ _ _ hT hm hf
end Go.Proofs.Ytfmendgbmkclkaa
