/-
  The program's SHA-256: the digest of parts: as a contract over any world.
-/
import Derived.Test.YtjlpdbaknhbgdaaF0
import Derived.Test.YtjlpdbaknhbgdaaShaPut
import Derived.Test.YtjlpdbaknhbgdaaKit0
set_option linter.unusedSimpArgs false
set_option linter.unusedVariables false
namespace Go.Proofs.Ytjlpdbaknhbgdaa
open Go.RowKit

theorem wpList_build {P : Program} {ops : Array Oper} {rest : List Oper} {o : Oper} {a : Act} {w : World} {Q : Exit → Act → World → Prop} (hgd : o.guard = none) (t : TypeId) (parts : Array (Nat × Operand)) (ho : o.op = .build t parts) (cells : Array Value)
    (hc : P.built t (parts.map fun (i, x) => (i, a.eval x)).toList = some cells) (h : wpList P ops Q rest (a.put o.dst (.agg cells)) w) : wpList P ops Q (o :: rest) a w :=
  wpList_plain hgd fun K hK => wp_build t parts ho (by rw [hc]; rfl) (by rw [hc]; exact hK _ _ h)

theorem uv_all (l : List UInt32) : (l.map uv).toArray.all (·.oneCell') = true := by
  rw [List.all_toArray, List.all_eq_true]; intro v hv; obtain ⟨x, _, rfl⟩ := List.mem_map.1 hv; rfl
theorem Try.sizeK : (Try.prog.info? 87).map (·.size) = some (shaK.map uv).toArray.size := by kernel_rfl
set_option maxRecDepth 100000 in
theorem rounds_calls (w : World) : Calls Try.prog 54 #[] w fun e w' => e = .returned (.agg (shaK.map uv).toArray) ∧ Below w.heap.size w w' := by
  have hN := Blk.new w Z64u 87
  have hB : Below w.heap.size w (w.alloc (.cells Z64u 87)) := (Below.refl _ _).alloc (Nat.le_refl _) _
  go_enter Try.func54, Try.ntmps54
  go_wp2_with (first | ((with_reducible show wpList _ _ _ (⟨some 1, _, _, _, _, _⟩ :: _) _ _); refine wpList_build rfl 87 _ rfl (shaK.map uv).toArray (by kernel_rfl) ?_) | ((with_reducible show wpList _ _ _ (⟨none, Op.store _ _ _, _, _, _, _⟩ :: _) _ _); refine wpList_storeBlk rfl 87 (.tmp 0) (.tmp 1) rfl w.heap.size (shaK.map uv).toArray (by rfl) (by rfl) _ _ hN Try.sizeK (by rfl) (uv_all _) ?_; intro w3 hB3 hg3; have h3 := below_new hB hg3 (by simp) (by simp)))
  refine ret_blk rfl w.heap.size _ _ _ (by rfl) hB3 Try.underlying87 rfl Try.sizeK rfl ?_
  exact ⟨rfl, h3⟩

abbrev Z72 : Array Value := #[.int .u8 0, .int .u8 0, .int .u8 0, .int .u8 0, .int .u8 0, .int .u8 0, .int .u8 0, .int .u8 0, .int .u8 0, .int .u8 0, .int .u8 0, .int .u8 0, .int .u8 0, .int .u8 0, .int .u8 0, .int .u8 0, .int .u8 0, .int .u8 0, .int .u8 0, .int .u8 0, .int .u8 0, .int .u8 0, .int .u8 0, .int .u8 0, .int .u8 0, .int .u8 0, .int .u8 0, .int .u8 0, .int .u8 0, .int .u8 0, .int .u8 0, .int .u8 0, .int .u8 0, .int .u8 0, .int .u8 0, .int .u8 0, .int .u8 0, .int .u8 0, .int .u8 0, .int .u8 0, .int .u8 0, .int .u8 0, .int .u8 0, .int .u8 0, .int .u8 0, .int .u8 0, .int .u8 0, .int .u8 0, .int .u8 0, .int .u8 0, .int .u8 0, .int .u8 0, .int .u8 0, .int .u8 0, .int .u8 0, .int .u8 0, .int .u8 0, .int .u8 0, .int .u8 0, .int .u8 0, .int .u8 0, .int .u8 0, .int .u8 0, .int .u8 0, .int .u8 0, .int .u8 0, .int .u8 0, .int .u8 0, .int .u8 0, .int .u8 0, .int .u8 0, .int .u8 0]
theorem tail_start : Try.zeroCells105.setIfInBounds 0 (.int .u8 128) = ((128 :: List.replicate 71 (0 : UInt8)).map bv).toArray := by kernel_rfl
theorem tailS_len (n : Nat) : (tailS n).length = 64 - (n + 8) % 64 + 8 := by simp [tailS, be8]; omega
theorem tail_start' (n : Nat) : ((128 :: List.replicate 71 (0 : UInt8)).map bv).toArray = fillB 72 (64 - (n + 8) % 64) (tailS n) := by
  unfold fillB tailS
  congr 1
  rw [List.take_append_of_le_length (by simp; omega), List.take_of_length_le (by simp; omega), List.cons_append, List.replicate_append_replicate, show 63 - (n + 8) % 64 + (72 - (64 - (n + 8) % 64)) = 71 by omega]
theorem tail_at (n i : Nat) (hi : i < 8) : (tailS n)[64 - (n + 8) % 64 + i]'(by rw [tailS_len]; omega) = UInt8.ofNat (n * 8 / 2 ^ (56 - 8 * i)) := by
  unfold tailS
  rw [List.getElem_append_right (by simp; omega)]
  simp only [be8, List.getElem_map, List.getElem_range]
  congr 4
  simp
  try omega
theorem tail_val (n i : Nat) (hi : i < 8) : Value.int .u8 ((n : Int) * 8 / 2 ^ (56 - 8 * i) % 256) = bv ((tailS n)[64 - (n + 8) % 64 + i]'(by rw [tailS_len]; omega)) := by
  rw [tail_at n i hi]
  unfold bv
  congr 1 <;> (rw [UInt8.toNat_ofNat']; simp)
theorem flat_at (l : List UInt32) (q r : Nat) (hr : r < 4) : (l.flatMap out4)[4 * q + r]? = (l[q]?).bind fun x => (out4 x)[r]? := by
  induction l generalizing q with
  | nil => simp
  | cons x xs ih =>
    rw [List.flatMap_cons]
    cases q with
    | zero => rw [List.getElem?_append_left (by simp [out4]; omega)]; simp
    | succ q =>
      rw [List.getElem?_append_right (by simp [out4]; omega), show 4 * (q + 1) + r - (out4 x).length = 4 * q + r by simp [out4]; omega, ih]
      simp
theorem out4_at (x : UInt32) (r : Nat) (hr : r < 4) : (out4 x)[r]? = some (UInt8.ofNat (x.toNat / 2 ^ (24 - 8 * r))) := by
  match r, hr with
  | 0, _ => rfl
  | 1, _ => rfl
  | 2, _ => rfl
  | 3, _ => simp [out4]
theorem flat_val (S : S8) (m : List UInt8) (hS : S.list.flatMap out4 = m) (i : Nat) (hi : i < 32) (hm : i < m.length) : Value.int .u8 (((S.list.getD (i / 4) 0).toNat : Int) / 2 ^ (24 - 8 * (i % 4)) % 256) = bv m[i] := by
  have h1 := flat_at S.list (i / 4) (i % 4) (by omega)
  rw [show 4 * (i / 4) + i % 4 = i by omega, hS, List.getElem?_eq_getElem hm] at h1
  have hq : i / 4 < S.list.length := by show i / 4 < 8; omega
  rw [List.getElem?_eq_getElem hq] at h1
  simp only [Option.bind_some] at h1
  rw [out4_at _ _ (by omega)] at h1
  have h2 := Option.some.inj h1
  rw [h2, List.getD_eq_getElem?_getD, List.getElem?_eq_getElem hq]
  unfold bv
  congr 1 <;> (rw [UInt8.toNat_ofNat']; simp)
theorem Try.lenB72 : Try.prog.arrayLen 105 = 72 := by kernel_rfl
theorem Try.undB72 : Try.prog.underlying 105 = some (.array (Try.prog.arrayLen 105) (Try.prog.elem 105)) := by kernel_rfl
theorem Try.elB72 (w : World) : (sizeOf (Try.prog.elem 105)).run Try.prog w = .ok 1 w := by kernel_rfl
theorem slice72 (b l : Nat) (hl : 0 < l) (hl2 : l ≤ 72) (w : World) : (Instr.sliceAt 105 (.pointer (some ⟨b, 0, none⟩)) none (some (.int .i64 (l : Int))) none).run Try.prog w = .ok (.slice (some ⟨b, 0, none⟩) l 72) w := by
  rw [run_sliceAt_array_h w _ _ Try.undB72 _ _ (by omega) (by rw [Try.lenB72]; omega), Try.elB72, Try.lenB72]
  simp only [Result.andThen_ok, slicedAt, Int.toNat_natCast, Nat.mul_one]
  rw [if_neg (by omega), Addr.add_mid]
  rfl
theorem sha_hst (m : List UInt8) : (hst (m ++ tailS m.length)).list.flatMap out4 = sha m := by
  unfold hst sha
  rw [List.length_append, tailS_len, show (m.length + (64 - (m.length + 8) % 64 + 8)) / 64 = (m.length + 72) / 64 by omega]
abbrev state0 : Array Value := stateC s0.list (List.replicate 64 0) 0

set_option maxHeartbeats 4000000 in
set_option maxRecDepth 100000 in
theorem Sum_calls (ao : Option Addr) (len cap : Nat) (ps : List (List UInt8)) (w : World) (h : StrsAt w ao len ps) (hl : ps.flatten.length ≤ 549755813888) (hn : len ≤ 1099511627776) :
    Calls Try.prog 43 #[.slice ao len cap] w fun e w' => e = .returned (.agg ((sha ps.flatten).map bv).toArray) ∧ Below w.heap.size w w' := by
  have HH := Lib.hid h
  have HL := Lib.hid hl
  clear h hl
  have hN := Blk.new w Z32 26
  have hB : Below w.heap.size w (w.alloc (.cells Z32 26)) := (Below.refl _ _).alloc (Nat.le_refl _) _
  go_enter Try.func43, Try.ntmps43
  go_wp2_with ((with_reducible show wpList _ _ _ (⟨some 11, _, _, _, _, _⟩ :: _) _ _); refine wpList_build rfl 90 _ rfl (s0.list.map uv).toArray (by kernel_rfl) ?_)
  generalize w.alloc (.cells Z32 26) = w1 at hN hB ⊢
  refine (rounds_calls _).mono ?_
  rintro e w2 ⟨rfl, b2⟩
  replace hN := Blk.below hN b2 (Blk.lt hN)
  replace hB := hB.trans (b2.mono hB.size)
  clear b2
  go_wp2_with ((with_reducible show wpList _ _ _ (⟨some 13, _, _, _, _, _⟩ :: _) _ _); refine wpList_build rfl 103 _ rfl state0 (by kernel_rfl) ?_)
  obtain ⟨b, hb⟩ : ∃ b, b = w2.heap.size := ⟨_, rfl⟩
  have hS0 : StateOf (w2.alloc (.cells state0 103)) b [] := ⟨List.replicate 64 0, rfl, rfl, by rw [hb]; exact Blk.new w2 state0 103⟩
  have hRb : w.heap.size < b := by rw [hb]; exact Blk.lt hN
  replace hN := Blk.alloc hN (.cells state0 103)
  replace hB : Below w.heap.size w (w2.alloc (.cells state0 103)) := hB.alloc hB.size _
  rw [← hb]
  generalize w2.alloc (.cells state0 103) = w3 at hN hS0 hB ⊢
  have HN := Lib.hid hN
  have HS := Lib.hid hS0
  have HB := Lib.hid hB
  have hb3 : b < w3.heap.size := by obtain ⟨_, _, _, h3⟩ := hS0; exact Blk.lt h3
  clear hb hN hS0 hB
  have hpl : Hid (ps.length = len) := HH.out.1
  go_loopw [5, 17] (fun _ i wr => ∃ k : Nat, k ≤ len ∧ i = .int .i64 k ∧ Hid (StateOf wr b (ps.take k).flatten) ∧ Blk wr w.heap.size Z32 26 ∧ b < wr.heap.size ∧ Hid (Below w.heap.size w wr)) (fun _ i _ => len - (intOf i).toNat)
  case atStart => exact ⟨0, by omega, rfl, HS.out, HN.out, hb3, HB⟩
  case round =>
    obtain ⟨k, hk, rfl, hS, hZ, hbw, hbel⟩ := hrel
    clear HN HS HB hb3
    by_cases hlt : k < len
    · have hkp : k < ps.length := by rw [hpl.out]; exact hlt
      rcases (HH.out.below hbel.out).2 with h0' | ⟨B, off, rfl, hBw, hcc⟩
      · omega
      have hc := hcc k hkp
      have hfl : Hid ((ps.take (k + 1)).flatten = (ps.take k).flatten ++ ps[k]) := by show _ = _; rw [List.take_succ_eq_append_getElem hkp, List.flatten_append]; simp
      have hle : (ps.take k).flatten.length + ps[k].length ≤ 1099511627776 := by
        have h1 := congrArg List.length hfl.out
        rw [List.length_append] at h1
        have h2 : (ps.take (k + 1)).flatten.length ≤ ps.flatten.length := by
          have h3 := congrArg (fun l : List (List UInt8) => l.flatten.length) (List.take_append_drop (k + 1) ps)
          simp only [List.flatten_append, List.length_append] at h3
          omega
        have := HL.out
        omega
      obtain ⟨t, ht⟩ : ∃ t, t = ps[k] := ⟨_, rfl⟩
      rw [← ht] at hc hfl hle
      have HLE := Lib.hid hle
      clear ht hcc hle
      go_wp2_with fail
      refine (put_calls b _ t _ hS.out HLE.out).mono ?_
      rintro e w4 ⟨rfl, h4, g4⟩
      have hS4 : Hid (StateOf w4 b (ps.take (k + 1)).flatten) := by show StateOf _ _ _; rw [hfl.out]; exact h4
      have hZ4 := Blk.grown hZ g4 (by simp; omega)
      have hb4 : b < w4.heap.size := Nat.lt_of_lt_of_le hbw g4.size
      have hbel4 : Hid (Below w.heap.size w w4) := hbel.out.trans (grown_below g4 (by omega) hbel.out.size)
      clear h4 g4 hZ hS hbel hfl HLE
      go_wp2_with fail
      go_roundw
      case rel => exact ⟨k + 1, by omega, by go_num, hS4, hZ4, hb4, hbel4⟩
      case measure => simp [intOf]; omega
    · have e1 : ps.take k = ps := List.take_of_length_le (by rw [hpl.out]; omega)
      rw [e1] at hS
      clear e1
      obtain ⟨blk, hbk, hbt, hSB⟩ := hS.out
      obtain ⟨m, hm⟩ : ∃ m, m = ps.flatten := ⟨_, rfl⟩
      rw [← hm] at hbt hSB hS HL
      obtain ⟨n, hnn⟩ : ∃ n, n = m.length := ⟨_, rfl⟩
      rw [← hnn] at hSB hbt HL
      have hn40 : n ≤ 549755813888 := HL.out
      obtain ⟨T, hT⟩ : ∃ T, T = wr.heap.size := ⟨_, rfl⟩
      have HNN := Lib.hid hnn
      have HBK := Lib.hid hbk
      have HBT := Lib.hid hbt
      have HM := Lib.hid hm
      have hn72 := hSB.cell 72 _ (stateC_n _ blk n rfl hbk)
      clear hm hnn hbk hbt
      go_wp2_with fail
      have hZ2 := Blk.alloc hZ (.cells (Try.zeroCells105.setIfInBounds 0 (.int .u8 128)) 105)
      have hSB2 := Blk.alloc hSB (.cells (Try.zeroCells105.setIfInBounds 0 (.int .u8 128)) 105)
      have hT2 := Blk.new wr (Try.zeroCells105.setIfInBounds 0 (.int .u8 128)) 105
      have hbel2 : Hid (Below w.heap.size w (wr.alloc (.cells (Try.zeroCells105.setIfInBounds 0 (.int .u8 128)) 105))) := hbel.out.alloc hbel.out.size _
      generalize wr.alloc (.cells (Try.zeroCells105.setIfInBounds 0 (.int .u8 128)) 105) = w5 at hZ2 hSB2 hT2 hbel2 ⊢
      rw [tail_start, tail_start' n] at hT2
      obtain ⟨sz, hsz⟩ : ∃ sz, sz = 64 - (n + 8) % 64 := ⟨_, rfl⟩
      rw [← hsz] at hT2
      rw [show (64 - ((n : Int) + 8) % 64) = (sz : Int) by omega]
      have hsz0 : 1 ≤ sz := by omega
      have hsz1 : sz ≤ 64 := by omega
      have HSZ := Lib.hid hsz
      have hTb : b < wr.heap.size := hbw
      have hTR : w.heap.size ≤ wr.heap.size := hbel.out.size
      rw [← hT] at hT2 hTb hTR ⊢
      have HZ2 := Lib.hid hZ2
      have HSB2 := Lib.hid hSB2
      have HT2 := Lib.hid hT2
      clear hsz hT hZ hSB hZ2 hSB2 hT2 hbel hn72 hbw hS
      go_loopw [8, 33] (fun _ j wr => ∃ i : Nat, i ≤ 8 ∧ j = .int .i64 i ∧ Blk wr T (fillB 72 (sz + i) (tailS n)) 105 ∧ Blk wr b (stateC (hst m).list blk n) 103 ∧ Blk wr w.heap.size Z32 26 ∧ Hid (Below w.heap.size w wr)) (fun _ j _ => 8 - (intOf j).toNat)
      case atStart => exact ⟨0, by omega, rfl, HT2.out, HSB2.out, HZ2.out, hbel2⟩
      case round =>
        obtain ⟨i, hi, rfl, hTT, hSB, hZ, hbel⟩ := hrel
        clear HT2 HSB2 HZ2 hbel2
        by_cases hlt8 : i < 8
        · have hn72 := hSB.cell 72 _ (stateC_n _ blk n rfl HBK.out)
          have hc := hTT.cell (sz + i) _ (fillB_get 72 (sz + i) (tailS n) (by rw [tailS_len, ← HSZ.out]; omega) (by omega))
          have hf := hTT.free (sz + i)
          unfold bv at hc
          go_wp2_with fail
          go_roundw
          case rel =>
            have hv : Value.int .u8 ((n : Int) * 8 / 2 ^ (56 - 8 * i) % 256) = bv ((tailS n)[sz + i]'(by rw [tailS_len, ← HSZ.out]; omega)) := by
              have h1 := HSZ.out
              subst h1
              exact tail_val n i hlt8
            rw [hv]
            have h2 := hTT.set (sz + i) (bv ((tailS n)[sz + i]'(by rw [tailS_len, ← HSZ.out]; omega)))
            rw [fillB_set 72 (sz + i) (tailS n) (by rw [tailS_len, ← HSZ.out]; omega) (by omega), Nat.add_assoc] at h2
            exact ⟨i + 1, by omega, by go_num, h2, hSB.setOther _ _ (by simp; omega), hZ.setOther _ _ (by simp; omega), hbel.out.trans (grown_below (grown_set (World.grownBy.refl _ (some T)) _ _) (by omega) hbel.out.size)⟩
          case measure => simp [intOf]; omega
        · obtain rfl : i = 8 := by omega
          have hx : (tailS n).length = sz + 8 := by rw [tailS_len, ← HSZ.out]
          have htk : (fillB 72 (sz + 8) (tailS n)).toList.take (sz + 8) = (tailS n).map bv := by
            unfold fillB
            simp only []
            rw [List.take_of_length_le (show (tailS n).length ≤ sz + 8 by omega), List.map_append, List.take_append_of_le_length (by simp; omega), List.take_of_length_le (by simp; omega)]
          have hst0 : StateOf wr b m := ⟨blk, HBK.out, by rw [← HNN.out]; exact HBT.out, by rw [← HNN.out]; exact hSB⟩
          have hs72 := slice72 T (sz + 8) (by omega) (by omega)
          rw [show ((sz + 8 : Nat) : Int) = (sz : Int) + 8 by omega] at hs72
          have HTK := Lib.hid htk
          have HX := Lib.hid hx
          have HST := Lib.hid hst0
          clear htk hx hst0
          go_wp2_with ((with_reducible show wpList _ _ _ (⟨some 56, _, _, _, _, _⟩ :: _) _ _); refine wpList_convBlk rfl 45 9 5 (.tmp 55) rfl Try.underlying45 Try.underlying5 Try.underlying9 T (sz + 8) 72 (by rfl) _ _ hTT (tailS n) HX.out HTK.out ?_)
          refine (put_calls b m (tailS n) _ HST.out (by rw [HX.out, ← HNN.out]; omega)).mono ?_
          rintro e w6 ⟨rfl, h6, g6⟩
          have hZ6 := Blk.grown hZ g6 (by simp; omega)
          have hbel6 : Hid (Below w.heap.size w w6) := hbel.out.trans (grown_below g6 (by omega) hbel.out.size)
          obtain ⟨blk', hbk', _, hSB6⟩ := h6
          have hflat : (hst (m ++ tailS n)).list.flatMap out4 = sha m := by rw [HNN.out]; exact sha_hst m
          generalize hst (m ++ tailS n) = S at hSB6 hflat
          generalize (m ++ tailS n).length = n' at hSB6
          have HF := Lib.hid hflat
          have hO := Blk.new w6 Z32 26
          have hSB7 := Blk.alloc hSB6 (.cells Z32 26)
          have hZ7 := Blk.alloc hZ6 (.cells Z32 26)
          have hbel7 : Hid (Below w.heap.size w (w6.alloc (.cells Z32 26))) := hbel6.out.alloc hbel6.out.size _
          have hOb : b < w6.heap.size := Blk.lt hSB6
          have hOR : w.heap.size ≤ w6.heap.size := hbel6.out.size
          clear hZ hZ6 hSB6 hSB hTT hbel hbel6 hflat g6 HTK HX HST hs72
          go_wp2_with fail
          generalize w6.alloc (.cells Z32 26) = w7 at hO hSB7 hZ7 hbel7 ⊢
          obtain ⟨O, hOO⟩ : ∃ O, O = w6.heap.size := ⟨_, rfl⟩
          rw [← hOO] at hO hOb hOR ⊢
          rw [show Z32 = fillB 32 0 (sha m) by rw [Z32_eq]; simp [fillB]] at hO
          have HO := Lib.hid hO
          have HSB7 := Lib.hid hSB7
          have HZ7 := Lib.hid hZ7
          clear hOO hO hSB7 hZ7
          go_loopw [10, 58] (fun _ j wr => ∃ i : Nat, i ≤ 32 ∧ j = .int .i64 i ∧ Blk wr O (fillB 32 i (sha m)) 26 ∧ Blk wr b (stateC S.list blk' n') 103 ∧ Blk wr w.heap.size Z32 26 ∧ Hid (Below w.heap.size w wr)) (fun _ j _ => 32 - (intOf j).toNat)
          case atStart => exact ⟨0, by omega, rfl, HO.out, HSB7.out, HZ7.out, hbel7⟩
          case round =>
            obtain ⟨i, hi, rfl, hO, hSB, hZ, hbel⟩ := hrel
            clear HO HSB7 HZ7 hbel7
            have h32 := sha_len m
            by_cases hlt32 : i < 32
            · have hh := hSB.cell (i / 4) _ (stateC_h S.list blk' n' (i / 4) (by show i / 4 < 8; omega))
              have hc := hO.cell i _ (fillB_get 32 i (sha m) (by omega) hlt32)
              have hf := hO.free i
              have hv := Lib.hid (flat_val S (sha m) HF.out i hlt32 (by omega))
              have hset := hO.set i (bv ((sha m)[i]'(by omega)))
              rw [fillB_set 32 i (sha m) (by omega) hlt32] at hset
              have HSET := Lib.hid hset
              clear hset
              generalize (sha m)[i]'(by rw [sha_len]; exact hlt32) = c at hv HSET
              clear h32
              generalize S.list.getD (i / 4) 0 = x at hh hv
              unfold bv at hc
              unfold uv at hh
              go_wp2_with fail
              go_roundw
              case rel =>
                rw [hv.out]
                exact ⟨i + 1, by omega, by go_num, HSET.out, hSB.setOther _ _ (by simp; omega), hZ.setOther _ _ (by simp; omega), hbel.out.trans (grown_below (grown_set (World.grownBy.refl _ (some O)) _ _) (by omega) hbel.out.size)⟩
              case measure => simp [intOf]; omega
            · obtain rfl : i = 32 := by omega
              rw [fillB_all 32 _ h32] at hO
              have H32 := Lib.hid h32
              clear h32
              go_wp2_with (first | ((with_reducible show wpList _ _ _ (⟨some 77, _, _, _, _, _⟩ :: _) _ _); refine wpList_loadBlk rfl 26 (.tmp 9) rfl O (by rfl) _ _ _ hO Try.underlying26 rfl (by rw [bv_size, H32.out]; exact Try.sizeHash) ?_) | ((with_reducible show wpList _ _ _ (⟨none, Op.store _ _ _, _, _, _, _⟩ :: _) _ _); refine wpList_storeBlk rfl 26 (.tmp 2) (.tmp 77) rfl w.heap.size ((sha m).map bv).toArray (by rfl) (by rfl) _ _ hZ (by rw [bv_size, H32.out]; exact Try.sizeHash) (by rw [bv_size, H32.out, Z32_size]) (bv_all _) ?_; intro w9 hB9 hg9; have h9 := hbel.out.trans (grown_below hg9 (Nat.le_refl _) hbel.out.size)))
              refine ret_blk rfl w.heap.size _ _ _ (by rfl) hB9 Try.underlying26 rfl (by rw [bv_size, H32.out]; exact Try.sizeHash) rfl ?_
              rw [HM.out]
              exact ⟨rfl, h9⟩
end Go.Proofs.Ytjlpdbaknhbgdaa
