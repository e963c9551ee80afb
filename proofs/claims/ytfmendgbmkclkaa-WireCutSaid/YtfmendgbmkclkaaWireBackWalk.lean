/-
  WireBack: what was put is taken as it was, to the end: for every list of things.
-/
import Derived.Test.YtfmendgbmkclkaaWireWritesWalk
import Derived.Test.YtfmendgbmkclkaaWireBack
import Derived.Deep.RegionWith
import Derived.Deep.RegionHeld
import Derived.Test.YtfmendgbmkclkaaHashEq
set_option linter.unusedSimpArgs false
set_option linter.unusedVariables false
namespace Go.Proofs.Ytfmendgbmkclkaa
open Go.RowKit

/-- The writer's calls, by the thing that is put. -/
theorem numT_calls (base b : Nat) (bs : List UInt8) (bad : Bool) (x : Thing) (w : World) (h : WriterIs base w b bs bad) (hs : base ≤ w.heap.size) (hl : bs.length ≤ 274877906944) (hk : x.k.toNat % 4 = 0) :
    Calls Try.prog 12 #[.pointer (some ⟨b, 0, none⟩), .int .i64 x.n] w fun e w' => e = .returned (.tuple #[]) ∧ WriterIs base w' b (putS x bs) (bad || !putOk x) ∧ WK base w w' := by
  by_cases h0 : 0 ≤ x.n ∧ x.n ≤ 4611686018427387903
  · have R1 : putOk x = true := by simp [putOk, hk, h0.1, h0.2]
    have R3 : putS x bs = bs ++ numB x.n.toNat := by simp [putS, putV, R1, hk]
    refine (num_calls base b bs bad x.n w h hs (by omega) h0.1 h0.2).mono fun e w' ⟨a, c, d⟩ => ⟨a, ?_, d⟩
    rw [R3, R1]; simpa using c
  · have R1 : putOk x = false := by simp only [putOk, hk, if_true]; exact decide_eq_false h0
    have R3 : putS x bs = bs := by simp [putS, R1]
    refine (numBad_calls base b bs bad x.n w h (by omega)).mono fun e w' ⟨a, c, d⟩ => ⟨a, ?_, d⟩
    rw [R3, R1]; simpa using c
theorem textT_calls (base b : Nat) (bs : List UInt8) (bad : Bool) (x : Thing) (hx : x.ok) (w : World) (h : WriterIs base w b bs bad) (hs : base ≤ w.heap.size) (hl : bs.length ≤ 274877906944) (hk : x.k.toNat % 4 = 1) :
    Calls Try.prog 21 #[.pointer (some ⟨b, 0, none⟩), .string (str x.s)] w fun e w' => e = .returned (.tuple #[]) ∧ WriterIs base w' b (putS x bs) (bad || !putOk x) ∧ WK base w w' := by
  by_cases h0 : x.s.length ≤ 65536
  · have R1 : putOk x = true := by simp [putOk, hk, h0]
    have R3 : putS x bs = bs ++ (numB x.s.length ++ x.s) := by simp [putS, putV, R1, hk]
    refine (textOk_calls base b bs bad x.s w h hs (by omega) h0).mono fun e w' ⟨a, c, d⟩ => ⟨a, ?_, d⟩
    rw [R3, R1]; simpa [List.append_assoc] using c
  · have R1 : putOk x = false := by simp [putOk, hk]; omega
    have R3 : putS x bs = bs := by simp [putS, R1]
    refine (textBad_calls base b bs bad x.s w h (by omega) hx.s1).mono fun e w' ⟨a, c, d⟩ => ⟨a, ?_, d⟩
    rw [R3, R1]; simpa using c
theorem hashT_calls (base b : Nat) (bs : List UInt8) (bad : Bool) (x : Thing) (hx : x.ok) (w : World) (h : WriterIs base w b bs bad) (hs : base ≤ w.heap.size) (hl : bs.length ≤ 274877906944) (hk : x.k.toNat % 4 = 2) :
    Calls Try.prog 24 #[.pointer (some ⟨b, 0, none⟩), .agg (x.h.map bv).toArray] w fun e w' => e = .returned (.tuple #[]) ∧ WriterIs base w' b (putS x bs) (bad || !putOk x) ∧ WK base w w' := by
  have R1 : putOk x = true := by simp [putOk, hk]
  have R3 : putS x bs = bs ++ x.h := by simp [putS, putV, R1, hk]
  refine (hash_calls base b bs x.h bad w h hs (by omega) hx.h1).mono fun e w' ⟨a, c, d⟩ => ⟨a, ?_, d⟩
  rw [R3, R1]; simpa using c
theorem flagT_calls (base b : Nat) (bs : List UInt8) (bad : Bool) (x : Thing) (w : World) (h : WriterIs base w b bs bad) (hs : base ≤ w.heap.size) (hl : bs.length ≤ 274877906944) (hk : x.k.toNat % 4 = 3) :
    Calls Try.prog 35 #[.pointer (some ⟨b, 0, none⟩), .bool x.b] w fun e w' => e = .returned (.tuple #[]) ∧ WriterIs base w' b (putS x bs) (bad || !putOk x) ∧ WK base w w' := by
  have R1 : putOk x = true := by simp [putOk, hk]
  have R3 : putS x bs = bs ++ [flagB x.b] := by simp [putS, putV, R1, hk]
  refine (flag_calls base b bs bad x.b w h hs (by omega)).mono fun e w' ⟨a, c, d⟩ => ⟨a, ?_, d⟩
  rw [R3, R1]; simpa using c

theorem thing_all (x : Thing) : x.cells.toArray.all (·.oneCell') = true := by
  rw [List.all_toArray, List.all_eq_true]
  intro u hu
  simp only [Thing.cells, List.mem_cons, List.mem_append, List.mem_map, List.mem_singleton, List.not_mem_nil, or_false] at hu
  rcases hu with rfl | rfl | rfl | ⟨c, _, rfl⟩ | rfl <;> rfl

theorem thing_size (x : Thing) (h : x.h.length = 32) : 36 = x.cells.toArray.size := by rw [List.size_toArray, Thing.len x h]
theorem grown_pre_drew {w w' : World} {r : Option Nat} (h : w.drew.grownBy w' r) : w.grownBy w' r := ⟨h.os, h.tape, h.output, h.size, h.block⟩
theorem blk_range3 (x : Thing) (h : x.h.length = 32) (w : World) (b : Nat) (t : TypeId) (hb : Blk w b x.cells.toArray t) : w.rangeAt b 3 (x.h.map bv) := by
  have := thing_3 x h w b 0 (fun j v hj => by rw [Nat.zero_add]; exact hb.cell j v (by simpa using hj))
  rwa [Nat.zero_add] at this
theorem rEnd_ok : rEnd (putsB [], 0) = 0 := rfl
theorem putsB_cons (x : Thing) (l : List Thing) : putsB (x :: l) = putB x ++ putsB l := by simp [putsB]

/-- What a thing's bytes are read as. -/
theorem back0 (x : Thing) (l : List UInt8) (hk : x.k.toNat % 4 = 0) (ho : putOk x = true) : rNum 4611686018427387903 (putV x ++ l, 0) = (x.n, (l, 0)) := by
  simp only [putOk, hk, if_true, decide_eq_true_eq] at ho
  have h := rNum_back x.n.toNat (by omega) l 4611686018427387903 (by omega)
  rw [putV, if_pos hk, h, Int.toNat_of_nonneg ho.1]
theorem back1 (x : Thing) (l : List UInt8) (hk : x.k.toNat % 4 = 1) (ho : putOk x = true) : rText 65536 (putV x ++ l, 0) = (x.s, (l, 0)) := by
  simp [putOk, hk] at ho
  rw [putV, if_neg (by omega), if_pos hk]
  exact rText_back x.s l ho 65536 (by omega)
theorem back2 (x : Thing) (hx : x.ok) (l : List UInt8) (hk : x.k.toNat % 4 = 2) : rHash (putV x ++ l, 0) = (x.h, (l, 0)) := by
  rw [putV, if_neg (by omega), if_neg (by omega), if_pos hk]
  exact rHash_back x.h l hx.h1
theorem back3 (x : Thing) (l : List UInt8) (hk : x.k.toNat % 4 = 3) : rFlag (putV x ++ l, 0) = (x.b, (l, 0)) := by
  rw [putV, if_neg (by omega), if_neg (by omega), if_neg (by omega)]
  exact rFlag_back x.b l

theorem backT0 (A : Nat) (x : Thing) (hx : x.ok) (l : List UInt8) (w : World) (h : ReaderIs w A (putV x ++ l, 0)) (hl : (putV x ++ l).length ≤ 1099511627776) (hk : x.k.toNat % 4 = 0) (ho : putOk x = true) :
    Calls Try.prog 17 #[.pointer (some ⟨A, 0, none⟩), .int .i64 4611686018427387903] w fun e w' => e = .returned (.int .i64 x.n) ∧ ReaderIs w' A (l, 0) ∧ w.grownBy w' (some A) := by
  refine (RNum_calls A _ 4611686018427387903 w h hl).mono fun e w' ⟨a, c, d⟩ => ?_
  rw [back0 x l hk ho] at a c
  exact ⟨a, c, d⟩
theorem backT1 (A : Nat) (x : Thing) (hx : x.ok) (l : List UInt8) (w : World) (h : ReaderIs w A (putV x ++ l, 0)) (hl : (putV x ++ l).length ≤ 1099511627776) (hk : x.k.toNat % 4 = 1) (ho : putOk x = true) :
    Calls Try.prog 23 #[.pointer (some ⟨A, 0, none⟩), .int .i64 65536] w fun e w' => e = .returned (.string (str x.s)) ∧ ReaderIs w' A (l, 0) ∧ w.grownBy w' (some A) := by
  refine (RText_calls A _ 65536 w h hl).mono fun e w' ⟨a, c, d⟩ => ?_
  rw [back1 x l hk ho] at a c
  exact ⟨a, c, d⟩
theorem backT2 (A : Nat) (x : Thing) (hx : x.ok) (l : List UInt8) (w : World) (h : ReaderIs w A (putV x ++ l, 0)) (hl : (putV x ++ l).length ≤ 1099511627776) (hk : x.k.toNat % 4 = 2) (ho : putOk x = true) :
    Calls Try.prog 25 #[.pointer (some ⟨A, 0, none⟩)] w fun e w' => e = .returned (.agg (x.h.map bv).toArray) ∧ ReaderIs w' A (l, 0) ∧ w.grownBy w' (some A) := by
  refine (RHash_calls A _ w h hl).mono fun e w' ⟨a, c, d⟩ => ?_
  rw [back2 x hx l hk] at a c
  exact ⟨a, c, d⟩
theorem backT3 (A : Nat) (x : Thing) (hx : x.ok) (l : List UInt8) (w : World) (h : ReaderIs w A (putV x ++ l, 0)) (hl : (putV x ++ l).length ≤ 1099511627776) (hk : x.k.toNat % 4 = 3) (ho : putOk x = true) :
    Calls Try.prog 30 #[.pointer (some ⟨A, 0, none⟩)] w fun e w' => e = .returned (.bool x.b) ∧ ReaderIs w' A (l, 0) ∧ w.grownBy w' (some A) := by
  refine (RFlag_calls A _ w h hl).mono fun e w' ⟨a, c, d⟩ => ?_
  rw [back3 x l hk] at a c
  exact ⟨a, c, d⟩

set_option maxHeartbeats 4000000 in
set_option maxRecDepth 100000 in
theorem back_yes (w : World) (ao : Option Addr) (len cap : Nat) (xs : List Thing) (h : Things w ao len xs) (hl : len ≤ 300) (ht : tot xs ≤ 200000) :
    Calls Try.prog 8 #[.slice ao len cap] w fun e w' => e = .returned (.bool true) ∧ Below w.heap.size w w' := by
  have HT := Lib.hid ht
  have HH := Lib.hid h
  clear ht h
  go_enter Try.func8, Try.ntmps8
  go_wp2_with fail
  refine (awake_calls _).mono ?_
  rintro e w1 ⟨rfl, b1⟩
  go_wp2_with fail
  refine (fewYes_calls _ _ _ _ _ (HH.out.below b1) hl HT.out).mono ?_
  rintro e w2 ⟨rfl, rfl⟩
  go_wp2_with fail
  refine (New_calls _).mono ?_
  rintro e w3 ⟨rfl, h3, b3⟩
  obtain ⟨B, hB⟩ : ∃ B, B = w1.heap.size := ⟨_, rfl⟩
  rw [← hB] at h3 b3 ⊢
  have hwB : w.heap.size ≤ B := by rw [hB]; exact b1.size
  have hB3 : B ≤ w3.heap.size := by rw [hB]; exact b3.size
  clear hB
  have H3 := Lib.hid h3
  have HB3 : Hid (Below w.heap.size w w3) := b1.trans (b3.mono hwB)
  clear h3 b3 b1
  go_wp2_with fail
  go_loopw [4] (fun i wr => ∃ (k : Nat) (g : Bool), k ≤ len ∧ i = .int .i64 k ∧ Hid (g = putsOk (xs.take k)) ∧ WriterIs B wr B (putsS (xs.take k)) (!g) ∧ B ≤ wr.heap.size ∧ Hid (Below w.heap.size w wr)) (fun i _ => len - (intOf i).toNat)
  case atStart => exact ⟨0, true, by omega, rfl, rfl, H3.out, hB3, HB3⟩
  case round =>
    obtain ⟨k, g, hk, rfl, hg, hwr, hBr, hbr⟩ := hrel
    have hx := HH.out.1
    by_cases hlt : k < len
    · have hkx : k < xs.length := by omega
      rcases (HH.out.below hbr.out).2.2 with h0' | ⟨b, off, rfl, hbw, hcc⟩
      · omega
      have hR := hcc k hkx
      have hok := HH.out.2.1 _ (List.getElem_mem hkx)
      have e2 : Hid (putsOk (xs.take (k + 1)) = (putsOk (xs.take k) && putOk xs[k])) := by show _ = _; rw [List.take_succ_eq_append_getElem hkx, putsOk_snoc]
      have e3 : Hid (putsS (xs.take (k + 1)) = putS xs[k] (putsS (xs.take k))) := by show _ = _; rw [List.take_succ_eq_append_getElem hkx, putsS_snoc]
      have hls : Hid ((putsS (xs.take k)).length ≤ 274877906944) := by
        show _ ≤ _
        have := putsS_len (xs.take k) (fun x hx => HH.out.2.1 x (List.mem_of_mem_take hx))
        have := tot_take xs k
        have := HT.out
        have : (xs.take k).length ≤ 300 := by rw [List.length_take]; omega
        omega
      obtain ⟨x, hxe⟩ : ∃ x, x = xs[k] := ⟨_, rfl⟩
      rw [← hxe] at e2 e3 hR hok
      have HXE := Lib.hid hxe
      have HOK := Lib.hid hok
      have HX := Lib.hid hx
      have hc0 := hR 0 _ rfl
      have hc1 := hR 1 _ rfl
      have hc2 := hR 2 _ rfl
      have hc35 := hR 35 _ (by have := thing_35 x hok.h1; simpa using this)
      rw [Nat.add_zero] at hc0
      unfold bv at hc0
      have HR3 := Lib.hid (thing_3 x hok.h1 _ _ _ hR)
      clear hxe hcc hx hok hR
      have h4 : x.k.toNat % 4 = 0 ∨ x.k.toNat % 4 = 1 ∨ x.k.toNat % 4 = 2 ∨ x.k.toNat % 4 = 3 := by omega
      have fin : ∀ (w4 : World), WriterIs B w4 B (putS x (putsS (xs.take k))) (!g || !putOk x) → WK B wr w4 → Hid (∃ g' : Bool, Hid (g' = putsOk (xs.take (k + 1))) ∧ WriterIs B w4 B (putsS (xs.take (k + 1))) (!g') ∧ B ≤ w4.heap.size ∧ Hid (Below w.heap.size w w4)) := by
        intro w4 a c
        refine ⟨g && putOk x, ?_, ?_, Nat.le_trans hBr c.size, hbr.out.trans (c.below.mono hwB)⟩
        · show _ = _; rw [hg.out, e2.out]
        · rw [e3.out]; simpa using a
      have FIN := Lib.hid fin
      clear fin e2 e3
      rcases h4 with h4 | h4 | h4 | h4
      · have hci : (x.k.toNat : Int) % 4 = 0 := by omega
        have H4 := Lib.hid h4
        clear h4
        go_wp2_with fail
        refine (numT_calls B B _ _ x _ hwr hBr hls.out H4.out).mono ?_
        rintro e w4 ⟨rfl, h4, k4⟩
        have F := FIN.out w4 h4 k4
        clear FIN h4 k4 hwr
        go_wp2_with fail
        go_roundw
        case rel => obtain ⟨g', a, c, d, f⟩ := F.out; exact ⟨k + 1, g', by omega, by go_num, a, c, d, f⟩
        case measure => simp [intOf]; omega
      · have hci : (x.k.toNat : Int) % 4 = 1 := by omega
        have H4 := Lib.hid h4
        clear h4
        go_wp2_with fail
        refine (textT_calls B B _ _ x HOK.out _ hwr hBr hls.out H4.out).mono ?_
        rintro e w4 ⟨rfl, h4, k4⟩
        have F := FIN.out w4 h4 k4
        clear FIN h4 k4 hwr
        go_wp2_with fail
        go_roundw
        case rel => obtain ⟨g', a, c, d, f⟩ := F.out; exact ⟨k + 1, g', by omega, by go_num, a, c, d, f⟩
        case measure => simp [intOf]; omega
      · have hci : (x.k.toNat : Int) % 4 = 2 := by omega
        have H4 := Lib.hid h4
        clear h4
        go_wp2_with ((with_reducible show wpList _ _ _ (⟨some 57, _, _, _, _, _⟩ :: _) _ _); refine wpList_load_mid rfl 40 (.tmp 56) rfl b (off + k * 36 + 3) (by rfl) (x.h.map bv) _ HR3.out Try.underlying40 rfl (by rw [List.length_map, HOK.out.h1]; exact Try.sizeHash') ?_)
        refine (hashT_calls B B _ _ x HOK.out _ hwr hBr hls.out H4.out).mono ?_
        rintro e w4 ⟨rfl, h4, k4⟩
        have F := FIN.out w4 h4 k4
        clear FIN h4 k4 hwr
        go_wp2_with fail
        go_roundw
        case rel => obtain ⟨g', a, c, d, f⟩ := F.out; exact ⟨k + 1, g', by omega, by go_num, a, c, d, f⟩
        case measure => simp [intOf]; omega
      · have hci : (x.k.toNat : Int) % 4 = 3 := by omega
        have H4 := Lib.hid h4
        clear h4
        go_wp2_with fail
        refine (flagT_calls B B _ _ x _ hwr hBr hls.out H4.out).mono ?_
        rintro e w4 ⟨rfl, h4, k4⟩
        have F := FIN.out w4 h4 k4
        clear FIN h4 k4 hwr
        go_wp2_with fail
        go_roundw
        case rel => obtain ⟨g', a, c, d, f⟩ := F.out; exact ⟨k + 1, g', by omega, by go_num, a, c, d, f⟩
        case measure => simp [intOf]; omega
    · have hkl : xs.take k = xs := List.take_of_length_le (by omega)
      rw [hkl] at hg hwr
      cases g with
      | false =>
        clear hkl hx
        go_wp2_with fail
        refine (endBad_calls B _ _ _ hwr).mono ?_
        rintro e w5 ⟨rfl, rfl⟩
        go_wp2
        go_returns
        exact ⟨rfl, hbr.out⟩
      | true =>
        have hS := putsS_eq xs hg.out.symm
        have hall : Hid (∀ x ∈ xs, putOk x = true) := by have := hg.out.symm; show ∀ x ∈ xs, putOk x = true; simpa [putsOk] using this
        rw [hS] at hwr
        clear hkl hS
        have HX := Lib.hid hx
        clear hx
        go_wp2_with fail
        refine (endOk_calls B _ _ _ hwr).mono ?_
        rintro e w5 ⟨rfl, rfl⟩
        have hbl : Hid ((putsB xs).length ≤ 1099511627776) := by
          show _ ≤ _
          have := putsB_len xs (fun x hx => HH.out.2.1 x hx)
          have := HT.out
          have := HX.out
          omega
        go_wp2_with fail
        refine (From_calls (putsB xs) _).mono ?_
        rintro e w6 ⟨rfl, h6, b6⟩
        obtain ⟨A, hA⟩ : ∃ A, A = wr.heap.size := ⟨_, rfl⟩
        rw [← hA] at h6 b6 ⊢
        have hwA : w.heap.size ≤ A := by omega
        have HB6 : Hid (Below w.heap.size w w6) := hbr.out.trans (b6.mono hwA)
        have H6 := Lib.hid h6
        clear hA h6 b6 hwr hbr hg
        go_wp2_with fail
        obtain ⟨wo, rfl⟩ : ∃ wo : World, wo = wr := ⟨_, rfl⟩
        go_loopw [8, 9, 10] (fun i _ _ wr => ∃ k : Nat, k ≤ len ∧ i = .int .i64 k ∧ ReaderIs wr A (putsB (xs.drop k), 0) ∧ Hid (Below w.heap.size w wr)) (fun i _ _ _ => len - (intOf i).toNat)
        case atStart => exact ⟨0, by omega, rfl, H6.out, HB6⟩
        case round =>
          obtain ⟨k, hk, rfl, hR, hbr⟩ := hrel
          by_cases hlt : k < len
          · have hkx : k < xs.length := by have := HX.out; omega
            rcases (HH.out.below hbr.out).2.2 with h0' | ⟨b, off, rfl, hbw, hcc⟩
            · omega
            have hRg := hcc k hkx
            have hok := HH.out.2.1 _ (List.getElem_mem hkx)
            have hpo := hall.out _ (List.getElem_mem hkx)
            have e1 : putsB (xs.drop k) = putV xs[k] ++ putsB (xs.drop (k + 1)) := by
              rw [List.drop_eq_getElem_cons hkx, putsB_cons, putB, if_pos hpo]
            obtain ⟨x, hxe⟩ : ∃ x, x = xs[k] := ⟨_, rfl⟩
            rw [← hxe] at e1 hRg hok hpo
            rw [e1] at hR
            have hll : (putV x ++ putsB (xs.drop (k + 1))).length ≤ 1099511627776 := by
              rw [← e1]
              have := putsB_len (xs.drop k) (fun x hx => HH.out.2.1 x (List.mem_of_mem_drop hx))
              have h2 : tot (xs.drop k) ≤ tot xs := by
                have := tot_take xs k
                have h3 : tot xs = tot (xs.take k) + tot (xs.drop k) := by
                  have h4 := congrArg tot (List.take_append_drop k xs)
                  rw [← h4]; simp only [tot, List.map_append, List.sum_append]
                omega
              have := HT.out
              have : (xs.drop k).length ≤ 300 := by rw [List.length_drop]; have := HX.out; omega
              omega
            have hAw : A < wr.heap.size := Blk.lt hR
            have HXE := Lib.hid hxe
            have HOK := Lib.hid hok
            have HRG := Lib.hid hRg
            have HPO := Lib.hid hpo
            have HLL := Lib.hid hll
            clear hxe hcc e1 hok hRg hpo hll
            have h4 : x.k.toNat % 4 = 0 ∨ x.k.toNat % 4 = 1 ∨ x.k.toNat % 4 = 2 ∨ x.k.toNat % 4 = 3 := by omega
            rcases h4 with h4 | h4 | h4 | h4
            · have hci : (x.k.toNat : Int) % 4 = 0 := by omega
              have H4 := Lib.hid h4
              clear h4
              go_wp2_with (first | ((with_reducible show wpList _ _ _ (⟨some 88, _, _, _, _, _⟩ :: _) _ _); refine wpList_load_mid rfl 42 (.tmp 87) rfl b (off + k * 36) (by rfl) x.cells _ HRG.out Try.underlying42 rfl (by rw [Thing.len x HOK.out.h1]; exact Try.sizeThing) ?_) | ((with_reducible show wpList _ _ _ (⟨none, Op.store _ _ _, _, _, _, _⟩ :: _) _ _); refine wpList_storeBlk rfl 42 (.tmp 9) (.tmp 88) rfl wr.heap.size x.cells.toArray (by rfl) (by rfl) _ _ (Blk.new _ _ _) ((thing_size x HOK.out.h1) ▸ Try.sizeThing) (Eq.trans (b := 36) rfl (thing_size x HOK.out.h1)) (thing_all x) ?_; intro w7 hT7 g7; have HR7 : Hid (ReaderIs w7 A (putV x ++ putsB (xs.drop (k + 1)), 0)) := Blk.grown (Blk.alloc hR _) g7 (by simp; omega); have hd0 := hT7.cell 0 _ (thing_0 x); have hd1 := hT7.cell 1 _ (thing_1 x); have hd2 := hT7.cell 2 _ (thing_2 x); have hd35 := hT7.cell 35 _ (thing_35 x HOK.out.h1); unfold bv at hd0; have HB7 : Hid (Below w.heap.size w w7) := hbr.out.trans (((Below.refl w.heap.size wr).alloc hbr.out.size _).trans (grown_below g7 (by have := hbr.out.size; omega) (by have := hbr.out.size; simp; omega))); have HT7 := Lib.hid hT7; have hC7 : wr.heap.size < w7.heap.size := hT7.lt; clear hT7 hR))
              generalize hCe : wr.heap.size = C at *
              clear hCe
              go_region_with (go_at_call 17; refine (backT0 A x HOK.out _ _ HR7.out.drew HLL.out H4.out HPO.out).mono ?_; rintro e w8 ⟨rfl, h8, g8⟩; have hT8 := HT7.out.drew.grown g8 (by simp; omega); have he1 := hT8.cell 1 _ (thing_1 x); have he2 := hT8.cell 2 _ (thing_2 x); have he35 := hT8.cell 35 _ (thing_35 x HOK.out.h1); have HB8 : Hid (Below w.heap.size w w8) := HB7.out.trans (grown_below (grown_pre_drew g8) hwA HB7.out.size); have H8 := Lib.hid h8; clear h8 g8 hT8)
              all_goals
                clear HR7
                go_wp2_with fail
                refine (Err_calls A _ _ H8.out).mono ?_
                rintro e w9 ⟨rfl, rfl⟩
                go_wp2_with fail
                go_roundw
                case rel => exact ⟨k + 1, by omega, by go_num, H8.out, HB8⟩
                case measure => simp [intOf]; omega
            · have hci : (x.k.toNat : Int) % 4 = 1 := by omega
              have H4 := Lib.hid h4
              clear h4
              go_wp2_with (first | ((with_reducible show wpList _ _ _ (⟨some 88, _, _, _, _, _⟩ :: _) _ _); refine wpList_load_mid rfl 42 (.tmp 87) rfl b (off + k * 36) (by rfl) x.cells _ HRG.out Try.underlying42 rfl (by rw [Thing.len x HOK.out.h1]; exact Try.sizeThing) ?_) | ((with_reducible show wpList _ _ _ (⟨none, Op.store _ _ _, _, _, _, _⟩ :: _) _ _); refine wpList_storeBlk rfl 42 (.tmp 9) (.tmp 88) rfl wr.heap.size x.cells.toArray (by rfl) (by rfl) _ _ (Blk.new _ _ _) ((thing_size x HOK.out.h1) ▸ Try.sizeThing) (Eq.trans (b := 36) rfl (thing_size x HOK.out.h1)) (thing_all x) ?_; intro w7 hT7 g7; have HR7 : Hid (ReaderIs w7 A (putV x ++ putsB (xs.drop (k + 1)), 0)) := Blk.grown (Blk.alloc hR _) g7 (by simp; omega); have hd0 := hT7.cell 0 _ (thing_0 x); have hd1 := hT7.cell 1 _ (thing_1 x); have hd2 := hT7.cell 2 _ (thing_2 x); have hd35 := hT7.cell 35 _ (thing_35 x HOK.out.h1); unfold bv at hd0; have HB7 : Hid (Below w.heap.size w w7) := hbr.out.trans (((Below.refl w.heap.size wr).alloc hbr.out.size _).trans (grown_below g7 (by have := hbr.out.size; omega) (by have := hbr.out.size; simp; omega))); have HT7 := Lib.hid hT7; have hC7 : wr.heap.size < w7.heap.size := hT7.lt; clear hT7 hR))
              generalize hCe : wr.heap.size = C at *
              clear hCe
              go_region_with (go_at_call 23; refine (backT1 A x HOK.out _ _ HR7.out.drew HLL.out H4.out HPO.out).mono ?_; rintro e w8 ⟨rfl, h8, g8⟩; have hT8 := HT7.out.drew.grown g8 (by simp; omega); have he1 := hT8.cell 1 _ (thing_1 x); have he2 := hT8.cell 2 _ (thing_2 x); have he35 := hT8.cell 35 _ (thing_35 x HOK.out.h1); have HB8 : Hid (Below w.heap.size w w8) := HB7.out.trans (grown_below (grown_pre_drew g8) hwA HB7.out.size); have H8 := Lib.hid h8; clear h8 g8 hT8)
              all_goals
                clear HR7
                go_wp2_with fail
                refine (Err_calls A _ _ H8.out).mono ?_
                rintro e w9 ⟨rfl, rfl⟩
                go_wp2_with fail
                go_roundw
                case rel => exact ⟨k + 1, by omega, by go_num, H8.out, HB8⟩
                case measure => simp [intOf]; omega
            · have hci : (x.k.toNat : Int) % 4 = 2 := by omega
              have H4 := Lib.hid h4
              clear h4
              go_wp2_with (first | ((with_reducible show wpList _ _ _ (⟨some 88, _, _, _, _, _⟩ :: _) _ _); refine wpList_load_mid rfl 42 (.tmp 87) rfl b (off + k * 36) (by rfl) x.cells _ HRG.out Try.underlying42 rfl (by rw [Thing.len x HOK.out.h1]; exact Try.sizeThing) ?_) | ((with_reducible show wpList _ _ _ (⟨none, Op.store _ _ _, _, _, _, _⟩ :: _) _ _); refine wpList_storeBlk rfl 42 (.tmp 9) (.tmp 88) rfl wr.heap.size x.cells.toArray (by rfl) (by rfl) _ _ (Blk.new _ _ _) ((thing_size x HOK.out.h1) ▸ Try.sizeThing) (Eq.trans (b := 36) rfl (thing_size x HOK.out.h1)) (thing_all x) ?_; intro w7 hT7 g7; have HR7 : Hid (ReaderIs w7 A (putV x ++ putsB (xs.drop (k + 1)), 0)) := Blk.grown (Blk.alloc hR _) g7 (by simp; omega); have hd0 := hT7.cell 0 _ (thing_0 x); have hd1 := hT7.cell 1 _ (thing_1 x); have hd2 := hT7.cell 2 _ (thing_2 x); have hd35 := hT7.cell 35 _ (thing_35 x HOK.out.h1); unfold bv at hd0; have HB7 : Hid (Below w.heap.size w w7) := hbr.out.trans (((Below.refl w.heap.size wr).alloc hbr.out.size _).trans (grown_below g7 (by have := hbr.out.size; omega) (by have := hbr.out.size; simp; omega))); have HT7 := Lib.hid hT7; have hC7 : wr.heap.size < w7.heap.size := hT7.lt; clear hT7 hR))
              generalize hCe : wr.heap.size = C at *
              clear hCe
              have hu40 := Try.underlying40
              have hi40 : (Try.prog.info? 40).map (·.size) = some (x.h.map bv).length := by rw [List.length_map, HOK.out.h1]; exact Try.sizeHash'
              have heq : ∀ w', (Op.equalIn 10000 40 (.agg (x.h.map bv).toArray) (.agg (x.h.map bv).toArray)).run Try.prog w' = .ok true w' := fun w' => by rw [run_eq_hash w' x.h x.h HOK.out.h1 HOK.out.h1]; simp
              have hr7 : w7.rangeAt C 3 (x.h.map bv) := blk_range3 x HOK.out.h1 _ _ _ HT7.out
              clear hd0 hd1 hd2 hd35
              go_region_held (fun w' => w'.rangeAt C 3 (x.h.map bv)) (first | exact hr7 | exact hr8) ((go_at_call 25; refine (backT2 A x HOK.out _ _ HR7.out.drew HLL.out H4.out HPO.out).mono ?_; rintro e w8 ⟨rfl, h8, g8⟩; have hT8 := HT7.out.drew.grown g8 (by simp; omega); have hr8 : w8.rangeAt C 3 (x.h.map bv) := blk_range3 x HOK.out.h1 _ _ _ hT8; have HB8 : Hid (Below w.heap.size w w8) := HB7.out.trans (grown_below (grown_pre_drew g8) hwA HB7.out.size); have H8 := Lib.hid h8; clear h8 g8 hT8))
              all_goals
                clear HR7
                go_wp2_with fail
                refine (Err_calls A _ _ H8.out).mono ?_
                rintro e w9 ⟨rfl, rfl⟩
                go_wp2_with fail
                go_roundw
                case rel => exact ⟨k + 1, by omega, by go_num, H8.out, HB8⟩
                case measure => simp [intOf]; omega
            · have hci : (x.k.toNat : Int) % 4 = 3 := by omega
              have H4 := Lib.hid h4
              clear h4
              go_wp2_with (first | ((with_reducible show wpList _ _ _ (⟨some 88, _, _, _, _, _⟩ :: _) _ _); refine wpList_load_mid rfl 42 (.tmp 87) rfl b (off + k * 36) (by rfl) x.cells _ HRG.out Try.underlying42 rfl (by rw [Thing.len x HOK.out.h1]; exact Try.sizeThing) ?_) | ((with_reducible show wpList _ _ _ (⟨none, Op.store _ _ _, _, _, _, _⟩ :: _) _ _); refine wpList_storeBlk rfl 42 (.tmp 9) (.tmp 88) rfl wr.heap.size x.cells.toArray (by rfl) (by rfl) _ _ (Blk.new _ _ _) ((thing_size x HOK.out.h1) ▸ Try.sizeThing) (Eq.trans (b := 36) rfl (thing_size x HOK.out.h1)) (thing_all x) ?_; intro w7 hT7 g7; have HR7 : Hid (ReaderIs w7 A (putV x ++ putsB (xs.drop (k + 1)), 0)) := Blk.grown (Blk.alloc hR _) g7 (by simp; omega); have hd0 := hT7.cell 0 _ (thing_0 x); have hd1 := hT7.cell 1 _ (thing_1 x); have hd2 := hT7.cell 2 _ (thing_2 x); have hd35 := hT7.cell 35 _ (thing_35 x HOK.out.h1); unfold bv at hd0; have HB7 : Hid (Below w.heap.size w w7) := hbr.out.trans (((Below.refl w.heap.size wr).alloc hbr.out.size _).trans (grown_below g7 (by have := hbr.out.size; omega) (by have := hbr.out.size; simp; omega))); have HT7 := Lib.hid hT7; have hC7 : wr.heap.size < w7.heap.size := hT7.lt; clear hT7 hR))
              generalize hCe : wr.heap.size = C at *
              clear hCe
              go_region_with (go_at_call 30; refine (backT3 A x HOK.out _ _ HR7.out.drew HLL.out H4.out HPO.out).mono ?_; rintro e w8 ⟨rfl, h8, g8⟩; have hT8 := HT7.out.drew.grown g8 (by simp; omega); have he1 := hT8.cell 1 _ (thing_1 x); have he2 := hT8.cell 2 _ (thing_2 x); have he35 := hT8.cell 35 _ (thing_35 x HOK.out.h1); have HB8 : Hid (Below w.heap.size w w8) := HB7.out.trans (grown_below (grown_pre_drew g8) hwA HB7.out.size); have H8 := Lib.hid h8; clear h8 g8 hT8)
              all_goals
                clear HR7
                go_wp2_with fail
                refine (Err_calls A _ _ H8.out).mono ?_
                rintro e w9 ⟨rfl, rfl⟩
                go_wp2_with fail
                go_roundw
                case rel => exact ⟨k + 1, by omega, by go_num, H8.out, HB8⟩
                case measure => simp [intOf]; omega
          · have hkl : xs.drop k = [] := List.drop_eq_nil_of_le (by have := HX.out; omega)
            rw [hkl] at hR
            clear hkl
            go_wp2_with fail
            refine (REnd_calls A _ _ hR).mono ?_
            rintro e w9 ⟨rfl, rfl⟩
            rw [rEnd_ok]
            go_wp2
            go_returns
            exact ⟨rfl, hbr.out⟩

theorem back_no (w : World) (ao : Option Addr) (len cap : Nat) (xs : List Thing) (h : Things w ao len xs) (hm : len ≤ maxLen) (hno : ¬ (len ≤ 300 ∧ tot xs ≤ 200000)) :
    Calls Try.prog 8 #[.slice ao len cap] w fun e w' => e = .returned (.bool true) ∧ Below w.heap.size w w' := by
  have HH := Lib.hid h
  have HN := Lib.hid hno
  have HM := Lib.hid hm
  clear h hno hm
  go_enter Try.func8, Try.ntmps8
  go_wp2_with fail
  refine (awake_calls _).mono ?_
  rintro e w1 ⟨rfl, b1⟩
  go_wp2_with fail
  refine (fewNo_calls _ _ _ _ _ (HH.out.below b1) HM.out HN.out).mono ?_
  rintro e w2 ⟨rfl, rfl⟩
  go_wp2_with fail
  refine (awake_calls _).mono ?_
  rintro e w3 ⟨rfl, b3⟩
  go_wp2
  go_returns
  exact ⟨rfl, b1.trans (b3.mono b1.size)⟩

theorem walkWireBack {H : Type} {enc : TypeId × Value → H} (v : Value) {d : DataW H} {p : List MemPlace} {r : Reach} {b0 : Nat} {w : World} (hv : Value.okWide Try.prog w r b0 35 v)
    (h : DataW.Trod enc Try.prog w 0 (fun _ => true) true 35 v d p) :
    Calls Try.prog 8 #[v] w fun e w' => e = .returned (.bool true) ∧ Below w.heap.size w w' := by
  have hT0 := open_things hv h
  obtain ⟨ao, len, cap, xs, rfl, hm, hT⟩ := hT0
  by_cases hf : len ≤ 300 ∧ tot xs ≤ 200000
  · exact back_yes _ _ _ _ _ hT hf.1 hf.2
  · exact back_no _ _ _ _ _ hT hm hf
end Go.Proofs.Ytfmendgbmkclkaa
