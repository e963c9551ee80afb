/-
  WireReads: any bytes, read by any calls, answer what the document says, with its errors.
-/
import Derived.Test.YtfmendgbmkclkaaWireRefH
import Derived.Test.YtfmendgbmkclkaaWireAwake
import Derived.Test.YtfmendgbmkclkaaThings
import Derived.Test.YtfmendgbmkclkaaHashEq
import Derived.Test.YtfmendgbmkclkaaQuiet
import Derived.Deep.RegionHeld
import Derived.WalkLawsBesides
import Derived.Outline
set_option linter.unusedSimpArgs false
set_option linter.unusedVariables false
namespace Go.Proofs.Ytfmendgbmkclkaa
open Go.RowKit

/-- One call of a reader. -/
structure Take where
  k : UInt8
  n : Int
def Take.cells (t : Take) : List Value := [bv t.k, .int .i64 t.n]
theorem Try.cellsTake : Try.prog.cellsOf 55 = 2 := by kernel_rfl
section
variable {H : Type} {enc : TypeId × Value → H} {w : World} {base : Nat} {spare : Nat → Bool} {held : Bool} {fuel : Nat} {x : DataW H × List MemPlace}
theorem trod_take {l : List Value} (h : DataW.trod enc Try.prog w base spare held fuel 55 l = some x) : ∃ t : Take, True ∧ l = t.cells := by
  obtain ⟨xs, m, _, _, hl, hx, hf⟩ := DataW.trod_struct Try.underlying55 h
  rw [Try.cellsTake] at hl
  match xs, hx with
  | [y0, y1], _ =>
    have f0 : DataW.trod enc Try.prog w base spare held m 5 ((l.drop 0).take (Try.prog.cellsOf 5)) = some y0 := hf 0 _ rfl
    have f1 : DataW.trod enc Try.prog w base spare held m 3 ((l.drop 1).take (Try.prog.cellsOf 3)) = some y1 := hf 1 _ rfl
    rw [Try.cellsU8] at f0
    rw [Try.cellsInt] at f1
    obtain ⟨k, e0⟩ := trod_u8 f0
    obtain ⟨n, e1, n1, n2⟩ := trod_i64 f1
    refine ⟨⟨k, n⟩, trivial, ?_⟩
    have hj : l = (l.drop 0).take 1 ++ (l.drop 1).take 1 := by
      rw [drop_take_join l 0 1 1, List.drop_zero, List.take_of_length_le (by omega)]
    rw [hj, e0, e1]
    rfl
end
abbrev Takes := Elems Take.cells 2

theorem rHash_l' (st : List UInt8 × Int) : (rHash st).2.1.length ≤ st.1.length := by
  unfold rHash; split
  · simp
  · split <;> simp
theorem rText_l' (most : Int) (st : List UInt8 × Int) : (rText most st).2.1.length ≤ st.1.length := by
  have h := rNum_len (min most 65536) st
  simp only [rText]
  split
  · exact h
  · split
    · exact h
    · simp only [List.length_drop]; omega
theorem rHash_1' (st : List UInt8 × Int) : (rHash st).1.length = 32 := by
  unfold rHash; split
  · simp
  · split
    · simp
    · simp only [List.length_take]; omega
theorem rFlag_l (st : List UInt8 × Int) : (rFlag st).2.1.length ≤ st.1.length := by
  obtain ⟨l, err⟩ := st
  by_cases h : err = 0
  · subst h
    cases l <;> simp [rFlag]
  · simp [rFlag, h]
theorem rFail_l (e : Int) (st : List UInt8 × Int) : (rFail e st).1.length ≤ st.1.length := by
  unfold rFail; split <;> simp

theorem grown_pre_drew' {w w' : World} {r : Option Nat} (h : w.drew.grownBy w' r) : w.grownBy w' r := ⟨h.os, h.tape, h.output, h.size, h.block⟩

set_option maxHeartbeats 4000000 in
set_option maxRecDepth 100000 in
theorem reads_yes (w : World) (s : List UInt8) (ao : Option Addr) (len cap : Nat) (ks : List Take) (h : Takes w ao len ks) (hl : len ≤ 300) (hs : s.length ≤ 200000) :
    Calls Try.prog 7 #[.string (str s), .slice ao len cap] w fun e w' => e = .returned (.bool true) ∧ Below w.heap.size w w' := by
  have HH := Lib.hid h
  have hl' : (len : Int) ≤ 300 := by omega
  clear h
  go_enter Try.func7, Try.ntmps7
  go_wp2_with fail
  refine (awake_calls _).mono ?_
  rintro e w1 ⟨rfl, b1⟩
  go_wp2_with fail
  refine (From_calls s _).mono ?_
  rintro e w2 ⟨rfl, h2, b2⟩
  obtain ⟨A, hA⟩ : ∃ A, A = w1.heap.size := ⟨_, rfl⟩
  rw [← hA] at h2 b2 ⊢
  have hwA : w.heap.size ≤ A := by rw [hA]; exact b1.size
  have hbel2 : Hid (Below w.heap.size w w2) := b1.trans (b2.mono hwA)
  clear hA b2 b1
  go_wp2_with fail
  obtain ⟨M, hM⟩ : ∃ M, M = w2.heap.size := ⟨_, rfl⟩
  have hAM : A < M := by rw [hM]; exact Blk.lt h2
  have hR3 := Blk.alloc h2 (.cells #[.string (str s), .int .i64 0] 53)
  have hM3 := Blk.new w2 #[.string (str s), .int .i64 0] 53
  have hB3 : Hid (Below w.heap.size w (w2.alloc (.cells #[.string (str s), .int .i64 0] 53))) := hbel2.out.alloc (hbel2.out.size) _
  obtain ⟨W3, hW3⟩ : ∃ W3, W3 = w2.alloc (.cells #[.string (str s), .int .i64 0] 53) := ⟨_, rfl⟩
  rw [← hM] at hM3 ⊢
  rw [← hW3] at hR3 hM3 hB3 ⊢
  have HR3 := Lib.hid hR3
  have HM3 := Lib.hid hM3
  clear hW3 hM hR3 hM3 h2 hbel2
  go_loopw [7, 8, 9] (fun i _ _ wr => ∃ (k : Nat) (st : List UInt8 × Int), k ≤ len ∧ i = .int .i64 k ∧ ReaderIs wr A st ∧ RefIs wr M st ∧ Hid (st.1.length ≤ 1099511627776) ∧ Hid (Below w.heap.size w wr)) (fun i _ _ _ => len - (intOf i).toNat)
  case atStart => exact ⟨0, (s, 0), by omega, rfl, HR3.out, HM3.out, by show _ ≤ _; simp; omega, hB3⟩
  case round =>
    obtain ⟨k, st, hk, rfl, hR, hMM, HL, hbel⟩ := hrel
    have hx := HH.out.1
    by_cases hlt : k < len
    · have hkx : k < ks.length := by omega
      rcases (HH.out.below hbel.out).2 with h0' | ⟨b, off, rfl, hbw, hcc⟩
      · omega
      have hc0 := hcc k hkx 0 _ rfl
      have hc1 := hcc k hkx 1 _ rfl
      obtain ⟨x, hxe⟩ : ∃ x, x = ks[k] := ⟨_, rfl⟩
      rw [← hxe] at hc0 hc1
      rw [Nat.add_zero] at hc0
      unfold bv at hc0
      have HX := Lib.hid hx
      have hAw : A < wr.heap.size := Blk.lt hR
      have hMw : M < wr.heap.size := Blk.lt hMM
      have HR := Lib.hid (Blk.alloc hR (.cells #[bv x.k, .int .i64 x.n] 55))
      have HMM := Lib.hid (Blk.alloc hMM (.cells #[bv x.k, .int .i64 x.n] 55))
      have HC := Lib.hid (Blk.new wr #[bv x.k, .int .i64 x.n] 55)
      have HB := Lib.hid (hbel.out.alloc hbel.out.size (.cells #[bv x.k, .int .i64 x.n] 55))
      clear hxe hcc hx hR hMM hbel
      have hcl : x.k.toNat < 256 := x.k.toNat_lt
      have h5 : x.k.toNat % 5 = 0 ∨ x.k.toNat % 5 = 1 ∨ x.k.toNat % 5 = 2 ∨ x.k.toNat % 5 = 3 ∨ x.k.toNat % 5 = 4 := by omega
      rcases h5 with h5 | h5 | h5 | h5 | h5
      · have hci : (x.k.toNat : Int) % 5 = 0 := by omega
        have L8 : Hid ((rNum x.n st).2.1.length ≤ 1099511627776) := Nat.le_trans (rNum_len x.n st) HL.out
        clear h5
        go_wp2_with fail
        obtain ⟨C, hC⟩ : ∃ C, C = wr.heap.size := ⟨_, rfl⟩
        have hw4 : ∃ W4, W4 = wr.alloc (.cells #[bv x.k, .int .i64 x.n] 55) := ⟨_, rfl⟩
        obtain ⟨W4, hW4⟩ := hw4
        rw [← hC] at HC hAw hMw ⊢
        unfold bv at hW4 HR HMM HC HB
        rw [← hW4] at HR HMM HC HB ⊢
        have hAB : Hid (w.heap.size ≤ W4.heap.size) := HB.out.size
        clear hC hW4 hc0 hc1
        have hs4 : W4.cell? ⟨C, 1, none⟩ = some (.int .i64 x.n) := HC.out.cell 1 _ rfl
        go_region_held (fun w' => w'.cell? ⟨C, 1, none⟩ = some (.int .i64 x.n)) (first | exact hs4 | exact hs5 | exact hs8) ((first | (go_at_call 17; refine (RNum_calls A _ x.n _ (Blk.drew HR.out) HL.out).mono ?_; rintro e w5 ⟨rfl, h5, g5⟩; have m5 : RefIs w5 M st := Blk.grown (Blk.drew HMM.out) g5 (by simp; omega); have c5 := Blk.grown (Blk.drew HC.out) g5 (by simp; omega); have hs5 := c5.cell 1 _ rfl; have B5 : Hid (Below w.heap.size w w5) := HB.out.trans (grown_below (grown_pre_drew' g5) hwA hAB.out); have H5 := Lib.hid h5; have C5 := Lib.hid c5; clear h5 g5 c5) | (go_at_call 27; refine (RefRNum_calls M _ x.n _ m5 HL.out).mono ?_; rintro e w8 ⟨rfl, h8, g8⟩; have R8 := Lib.hid (Blk.grown H5.out g8 (by simp; omega)); have HB8 : Hid (Below w.heap.size w w8) := B5.out.trans (grown_below g8 (by omega) B5.out.size); have hs8 := (Blk.grown C5.out g8 (by simp; omega)).cell 1 _ rfl; have M8 := Lib.hid h8; clear h8 g8)))
        all_goals
          clear HR HMM
          have hm1 := M8.out.cell 1 _ rfl
          go_wp2_with fail
          go_quiet ((first | (go_at_call 26; exact quiet_calls (Err_calls A _ _ (Blk.drewN R8.out _))) | (go_at_call 18; exact quiet_calls (REnd_calls A _ _ (Blk.drewN R8.out _))) | (go_at_call 34; exact quiet_calls (RefREnd_calls M _ _ (Blk.drewN M8.out _) L8.out))))
          go_wp2_with fail
          go_roundw
          case rel => exact ⟨k + 1, _, by omega, by go_num, Blk.drewN R8.out _, Blk.drewN M8.out _, L8, below_drewN HB8.out _⟩
          case measure => simp [intOf]; omega
      · have hci : (x.k.toNat : Int) % 5 = 1 := by omega
        have L8 : Hid ((rText x.n st).2.1.length ≤ 1099511627776) := Nat.le_trans (rText_l' x.n st) HL.out
        clear h5
        go_wp2_with fail
        obtain ⟨C, hC⟩ : ∃ C, C = wr.heap.size := ⟨_, rfl⟩
        have hw4 : ∃ W4, W4 = wr.alloc (.cells #[bv x.k, .int .i64 x.n] 55) := ⟨_, rfl⟩
        obtain ⟨W4, hW4⟩ := hw4
        rw [← hC] at HC hAw hMw ⊢
        unfold bv at hW4 HR HMM HC HB
        rw [← hW4] at HR HMM HC HB ⊢
        have hAB : Hid (w.heap.size ≤ W4.heap.size) := HB.out.size
        clear hC hW4 hc0 hc1
        have hs4 : W4.cell? ⟨C, 1, none⟩ = some (.int .i64 x.n) := HC.out.cell 1 _ rfl
        go_region_held (fun w' => w'.cell? ⟨C, 1, none⟩ = some (.int .i64 x.n)) (first | exact hs4 | exact hs5 | exact hs8) ((first | (go_at_call 23; refine (RText_calls A _ x.n _ (Blk.drew HR.out) HL.out).mono ?_; rintro e w5 ⟨rfl, h5, g5⟩; have m5 : RefIs w5 M st := Blk.grown (Blk.drew HMM.out) g5 (by simp; omega); have c5 := Blk.grown (Blk.drew HC.out) g5 (by simp; omega); have hs5 := c5.cell 1 _ rfl; have B5 : Hid (Below w.heap.size w w5) := HB.out.trans (grown_below (grown_pre_drew' g5) hwA hAB.out); have H5 := Lib.hid h5; have C5 := Lib.hid c5; clear h5 g5 c5) | (go_at_call 28; refine (RefRText_calls M _ x.n _ m5 HL.out).mono ?_; rintro e w8 ⟨rfl, h8, g8⟩; have R8 := Lib.hid (Blk.grown H5.out g8 (by simp; omega)); have HB8 : Hid (Below w.heap.size w w8) := B5.out.trans (grown_below g8 (by omega) B5.out.size); have hs8 := (Blk.grown C5.out g8 (by simp; omega)).cell 1 _ rfl; have M8 := Lib.hid h8; clear h8 g8)))
        all_goals
          clear HR HMM
          have hm1 := M8.out.cell 1 _ rfl
          go_wp2_with fail
          go_quiet ((first | (go_at_call 26; exact quiet_calls (Err_calls A _ _ (Blk.drewN R8.out _))) | (go_at_call 18; exact quiet_calls (REnd_calls A _ _ (Blk.drewN R8.out _))) | (go_at_call 34; exact quiet_calls (RefREnd_calls M _ _ (Blk.drewN M8.out _) L8.out))))
          go_wp2_with fail
          go_roundw
          case rel => exact ⟨k + 1, _, by omega, by go_num, Blk.drewN R8.out _, Blk.drewN M8.out _, L8, below_drewN HB8.out _⟩
          case measure => simp [intOf]; omega
      · have hci : (x.k.toNat : Int) % 5 = 2 := by omega
        have L8 : Hid ((rHash st).2.1.length ≤ 1099511627776) := Nat.le_trans (rHash_l' st) HL.out
        clear h5
        go_wp2_with fail
        obtain ⟨C, hC⟩ : ∃ C, C = wr.heap.size := ⟨_, rfl⟩
        have hw4 : ∃ W4, W4 = wr.alloc (.cells #[bv x.k, .int .i64 x.n] 55) := ⟨_, rfl⟩
        obtain ⟨W4, hW4⟩ := hw4
        rw [← hC] at HC hAw hMw ⊢
        unfold bv at hW4 HR HMM HC HB
        rw [← hW4] at HR HMM HC HB ⊢
        have hAB : Hid (w.heap.size ≤ W4.heap.size) := HB.out.size
        clear hC hW4 hc0 hc1
        refine (RHash_calls A _ _ HR.out HL.out).mono ?_
        rintro e w5 ⟨rfl, h5, g5⟩
        have m5 : RefIs w5 M st := Blk.grown HMM.out g5 (by simp; omega)
        have c5 := Blk.grown HC.out g5 (by simp; omega)
        have hs5 := c5.cell 1 _ rfl
        have B5 : Hid (Below w.heap.size w w5) := HB.out.trans (grown_below g5 hwA hAB.out)
        have H5 := Lib.hid h5
        clear h5 g5 c5
        go_wp2_with fail
        refine (RefRHash_calls M _ _ m5 HL.out).mono ?_
        rintro e w8 ⟨rfl, h8, g8⟩
        have R8 := Lib.hid (Blk.grown H5.out g8 (by simp; omega))
        have HB8 : Hid (Below w.heap.size w w8) := B5.out.trans (grown_below g8 (by omega) B5.out.size)
        have M8 := Lib.hid h8
        clear h8 g8
        have heq : ∀ w', (Op.equalIn 10000 40 (.agg ((rHash st).1.map bv).toArray) (.agg ((rHash st).1.map bv).toArray)).run Try.prog w' = .ok true w' := fun w' => by rw [run_eq_hash w' _ _ (rHash_1' st) (rHash_1' st)]; simp
        all_goals
          clear HR HMM
          have hm1 := M8.out.cell 1 _ rfl
          go_wp2_with fail
          go_quiet ((first | (go_at_call 26; exact quiet_calls (Err_calls A _ _ (Blk.drewN R8.out _))) | (go_at_call 18; exact quiet_calls (REnd_calls A _ _ (Blk.drewN R8.out _))) | (go_at_call 34; exact quiet_calls (RefREnd_calls M _ _ (Blk.drewN M8.out _) L8.out))))
          go_wp2_with fail
          go_roundw
          case rel => exact ⟨k + 1, _, by omega, by go_num, Blk.drewN R8.out _, Blk.drewN M8.out _, L8, below_drewN HB8.out _⟩
          case measure => simp [intOf]; omega
      · have hci : (x.k.toNat : Int) % 5 = 3 := by omega
        have L8 : Hid ((rFlag st).2.1.length ≤ 1099511627776) := Nat.le_trans (rFlag_l st) HL.out
        clear h5
        go_wp2_with fail
        obtain ⟨C, hC⟩ : ∃ C, C = wr.heap.size := ⟨_, rfl⟩
        have hw4 : ∃ W4, W4 = wr.alloc (.cells #[bv x.k, .int .i64 x.n] 55) := ⟨_, rfl⟩
        obtain ⟨W4, hW4⟩ := hw4
        rw [← hC] at HC hAw hMw ⊢
        unfold bv at hW4 HR HMM HC HB
        rw [← hW4] at HR HMM HC HB ⊢
        have hAB : Hid (w.heap.size ≤ W4.heap.size) := HB.out.size
        clear hC hW4 hc0 hc1
        refine (RFlag_calls A _ _ HR.out HL.out).mono ?_
        rintro e w5 ⟨rfl, h5, g5⟩
        have m5 : RefIs w5 M st := Blk.grown HMM.out g5 (by simp; omega)
        have c5 := Blk.grown HC.out g5 (by simp; omega)
        have hs5 := c5.cell 1 _ rfl
        have B5 : Hid (Below w.heap.size w w5) := HB.out.trans (grown_below g5 hwA hAB.out)
        have H5 := Lib.hid h5
        clear h5 g5 c5
        go_wp2_with fail
        refine (RefRFlag_calls M _ _ m5 HL.out).mono ?_
        rintro e w8 ⟨rfl, h8, g8⟩
        have R8 := Lib.hid (Blk.grown H5.out g8 (by simp; omega))
        have HB8 : Hid (Below w.heap.size w w8) := B5.out.trans (grown_below g8 (by omega) B5.out.size)
        have M8 := Lib.hid h8
        clear h8 g8
        all_goals
          clear HR HMM
          have hm1 := M8.out.cell 1 _ rfl
          go_wp2_with fail
          go_quiet ((first | (go_at_call 26; exact quiet_calls (Err_calls A _ _ (Blk.drewN R8.out _))) | (go_at_call 18; exact quiet_calls (REnd_calls A _ _ (Blk.drewN R8.out _))) | (go_at_call 34; exact quiet_calls (RefREnd_calls M _ _ (Blk.drewN M8.out _) L8.out))))
          go_wp2_with fail
          go_roundw
          case rel => exact ⟨k + 1, _, by omega, by go_num, Blk.drewN R8.out _, Blk.drewN M8.out _, L8, below_drewN HB8.out _⟩
          case measure => simp [intOf]; omega
      · have hci : (x.k.toNat : Int) % 5 = 4 := by omega
        have L8 : Hid ((rFail x.n st).1.length ≤ 1099511627776) := Nat.le_trans (rFail_l x.n st) HL.out
        clear h5
        go_wp2_with fail
        obtain ⟨C, hC⟩ : ∃ C, C = wr.heap.size := ⟨_, rfl⟩
        have hw4 : ∃ W4, W4 = wr.alloc (.cells #[bv x.k, .int .i64 x.n] 55) := ⟨_, rfl⟩
        obtain ⟨W4, hW4⟩ := hw4
        rw [← hC] at HC hAw hMw ⊢
        unfold bv at hW4 HR HMM HC HB
        rw [← hW4] at HR HMM HC HB ⊢
        have hAB : Hid (w.heap.size ≤ W4.heap.size) := HB.out.size
        clear hC hW4 hc0 hc1
        refine (Fail_calls A _ x.n _ HR.out).mono ?_
        rintro e w5 ⟨rfl, h5, g5⟩
        have m5 : RefIs w5 M st := Blk.grown HMM.out g5 (by simp; omega)
        have c5 := Blk.grown HC.out g5 (by simp; omega)
        have hs5 := c5.cell 1 _ rfl
        have B5 : Hid (Below w.heap.size w w5) := HB.out.trans (grown_below g5 hwA hAB.out)
        have H5 := Lib.hid h5
        clear h5 g5 c5
        go_wp2_with fail
        refine (RefRFail_calls M _ x.n _ m5).mono ?_
        rintro e w8 ⟨rfl, h8, g8⟩
        have R8 := Lib.hid (Blk.grown H5.out g8 (by simp; omega))
        have HB8 : Hid (Below w.heap.size w w8) := B5.out.trans (grown_below g8 (by omega) B5.out.size)
        have M8 := Lib.hid h8
        clear h8 g8
        all_goals
          clear HR HMM
          have hm1 := M8.out.cell 1 _ rfl
          go_wp2_with fail
          go_quiet ((first | (go_at_call 26; exact quiet_calls (Err_calls A _ _ (Blk.drewN R8.out _))) | (go_at_call 18; exact quiet_calls (REnd_calls A _ _ (Blk.drewN R8.out _))) | (go_at_call 34; exact quiet_calls (RefREnd_calls M _ _ (Blk.drewN M8.out _) L8.out))))
          go_wp2_with fail
          go_roundw
          case rel => exact ⟨k + 1, _, by omega, by go_num, Blk.drewN R8.out _, Blk.drewN M8.out _, L8, below_drewN HB8.out _⟩
          case measure => simp [intOf]; omega
    · go_wp2_with fail
      go_returns
      exact ⟨rfl, hbel.out⟩

set_option maxRecDepth 100000 in
theorem reads_no (w : World) (s : List UInt8) (ao : Option Addr) (len cap : Nat) (hm : s.length ≤ maxLen) (hm2 : len ≤ maxLen) (hno : 200000 < s.length ∨ 300 < len) :
    Calls Try.prog 7 #[.string (str s), .slice ao len cap] w fun e w' => e = .returned (.bool true) ∧ Below w.heap.size w w' := by
  unfold maxLen at hm hm2
  by_cases h1 : 200000 < s.length
  all_goals
    go_enter Try.func7, Try.ntmps7
    go_wp2_with fail
    refine (awake_calls _).mono ?_
    rintro e w1 ⟨rfl, b1⟩
  · go_wp2_with fail
    refine (awake_calls _).mono ?_
    rintro e w3 ⟨rfl, b3⟩
    go_wp2
    go_returns
    exact ⟨rfl, b1.trans (b3.mono b1.size)⟩
  · have h2 : s.length ≤ 200000 := by omega
    have h3 : (300 : Int) < len := by omega
    clear h1 hno
    go_wp2_with fail
    refine (awake_calls _).mono ?_
    rintro e w3 ⟨rfl, b3⟩
    go_wp2
    go_returns
    exact ⟨rfl, b1.trans (b3.mono b1.size)⟩

theorem walkWireReads {H : Type} {enc : TypeId × Value → H} (s : List UInt8) (ws : s.length ≤ maxLen) (v : Value) {d : DataW H} {p : List MemPlace} {r : Reach} {b0 : Nat} {w : World} (hv : Value.okWide Try.prog w r b0 50 v)
    (h : DataW.Trod enc Try.prog w 0 (fun _ => true) true 50 v d p) :
    Calls Try.prog 7 #[.string (str s), v] w fun e w' => e = .returned (.bool true) ∧ Below w.heap.size w w' := by
  obtain ⟨ao, len, cap, xs, rfl, hm, hT, _⟩ := open_elems (cells := Take.cells) (size := 2) (ok := fun _ => True) Try.underlying50 Try.cellsTake (fun _ => ⟨by simp [Take.cells], by simp [Take.cells]⟩) (fun l m y hl => trod_take hl) hv h
  by_cases hf : 200000 < s.length ∨ 300 < len
  · exact reads_no _ _ _ _ _ ws hm hf
  · exact reads_yes _ _ _ _ _ _ hT (by omega) (by omega)
end Go.Proofs.Ytfmendgbmkclkaa
