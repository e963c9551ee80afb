/-
  The program's SHA-256: bytes are taken in: as a contract over any world.
-/
import Derived.Test.YtjlpdbaknhbgdaaShaTurn
set_option linter.unusedSimpArgs false
set_option linter.unusedVariables false
namespace Go.Proofs.Ytjlpdbaknhbgdaa
open Go.RowKit

theorem run_copy_str_min {P : Program} (w : World) (dT sT ty elem : TypeId) (g o dLen dCap n : Nat) (l : List UInt8) (cur : Array Value) (t : TypeId)
    (hu : P.underlying dT = some (.slice elem)) (hs : (P.info? elem).map (·.size) = some 1) (hg : Blk w g cur t) (hn : n = min l.length dLen) (hfit : o + n ≤ cur.size) :
    (Builtin.copy_ #[dT, sT] ty #[.slice (some ⟨g, o, none⟩) dLen dCap, .string (str l)]).run P w =
      .ok (goInt n) (w.setRow g (cur.toList.take o ++ (l.take n).map bv ++ cur.toList.drop (o + n)).toArray) := by
  have hln : (l.take n).length = n := by rw [List.length_take]; omega
  have hlen : (Lib.byteCells (l.take n)).length = n := by rw [Lib.byteCells_length, hln]
  have hst := run_storeCells_at (P := P) g o t (Lib.byteCells (l.take n)) 0 cur w hg (by rw [hlen]; simpa using hfit) (Lib.byteCells_one _)
  have hmin : Nat.min (str l).size dLen = n := by rw [str_size]; exact hn.symm
  have htk : List.take n (List.map (fun b : UInt8 => Value.int IntKind.u8 (b.toNat : Int)) l) = Lib.byteCells (l.take n) := by
    rw [← List.map_take]; rfl
  rw [hlen] at hst
  simp only [Nat.add_zero] at hst
  cases hq : P.info? elem with
  | none => simp [hq] at hs
  | some i =>
    simp [Builtin.copy_, run_underlying hu, Builtin.lenOf, Builtin.firstCells, sizeOf, typeInfo, hq, hmin]
    rw [str_data, htk, hst]
    have e : Lib.byteCells (List.take n l) = List.take n (List.map bv l) := by rw [← List.map_take]; rfl
    simp only [Result.andThen, List.append_assoc, e]

def hst (m : List UInt8) : S8 := blocksS (m.length / 64) m s0
/-- The state behind the bytes m. -/
def StateOf (w : World) (b : Nat) (m : List UInt8) : Prop := ∃ blk : List UInt8, blk.length = 64 ∧ blk.take (m.length % 64) = m.drop (64 * (m.length / 64)) ∧ Blk w b (stateC (hst m).list blk m.length) 103

theorem hst_full (m r blk : List UInt8) (hb : blk.length = 64) (ht : blk.take (m.length % 64) = m.drop (64 * (m.length / 64))) (c : Nat) (hc : c = 64 - m.length % 64) (hr : c ≤ r.length) :
    hst (m ++ r.take c) = compS (hst m) (blk.take (m.length % 64) ++ r.take c ++ blk.drop (m.length % 64 + c)) := by
  have hl : (m ++ r.take c).length = 64 * (m.length / 64 + 1) := by rw [List.length_append, List.length_take]; omega
  unfold hst
  rw [hl, show 64 * (m.length / 64 + 1) / 64 = m.length / 64 + 1 by omega, blocksS_succ, blocksS_app _ _ _ _ (by omega)]
  congr 1
  rw [List.drop_append_of_le_length (by omega), ← ht, List.drop_eq_nil_of_le (show blk.length ≤ m.length % 64 + c by omega), List.append_nil]
  exact List.take_of_length_le (by rw [List.length_append, List.length_take, List.length_take]; omega)
theorem hst_part (m r : List UInt8) (h : m.length % 64 + r.length < 64) : hst (m ++ r) = hst m := by
  unfold hst
  rw [List.length_append, show (m.length + r.length) / 64 = m.length / 64 by omega, blocksS_app _ _ _ _ (by omega)]
theorem stateC_copy (hs : List UInt32) (blk r : List UInt8) (n p c : Nat) (hh : hs.length = 8) (hb : blk.length = 64) (hp : p + c ≤ 64) (hr : r.length = c) :
    ((stateC hs blk n).toList.take (8 + p) ++ r.map bv ++ (stateC hs blk n).toList.drop (8 + p + c)).toArray = stateC hs (blk.take p ++ r ++ blk.drop (p + c)) n := by
  unfold stateC
  congr 1
  simp only []
  rw [List.take_append, List.length_map, hh, List.take_of_length_le (by simp; omega), show 8 + p - 8 = p by omega, List.take_append_of_le_length (by simp; omega)]
  rw [List.drop_append, List.length_map, hh, List.drop_eq_nil_of_le (by simp; omega), show 8 + p + c - 8 = p + c by omega, List.nil_append, List.drop_append_of_le_length (by simp; omega)]
  simp [List.map_append, List.append_assoc]
theorem stateC_setn (hs : List UInt32) (blk : List UInt8) (n m : Nat) (hh : hs.length = 8) (hb : blk.length = 64) : (stateC hs blk n).setIfInBounds 72 (.int .i64 (m : Int)) = stateC hs blk m := by
  unfold stateC
  rw [List.setIfInBounds_toArray]
  congr 1
  rw [List.set_append_right _ _ (by simp; omega), List.length_map, hh, List.set_append_right _ _ (by simp; omega), List.length_map, hb]
  rfl
theorem S8.len (s : S8) : s.list.length = 8 := rfl
def strLen : Value → Nat
  | .string s => s.size
  | _ => 0
theorem stateC_size (hs : List UInt32) (blk : List UInt8) (n : Nat) (hh : hs.length = 8) (hb : blk.length = 64) : (stateC hs blk n).size = 137 := by
  simp [stateC, hh, hb, shaK]
theorem Try.sizeU8' : (Try.prog.info? 5).map (·.size) = some 1 := by kernel_rfl

set_option maxHeartbeats 2000000 in
theorem put_calls (b : Nat) (m t : List UInt8) (w : World) (h : StateOf w b m) (hl : m.length + t.length ≤ 1099511627776) :
    Calls Try.prog 55 #[.pointer (some ⟨b, 0, none⟩), .string (str t)] w fun e w' => e = .returned (.tuple #[]) ∧ StateOf w' b (m ++ t) ∧ w.grownBy w' (some b) := by
  have HS := Lib.hid h
  have HL := Lib.hid hl
  clear h hl
  go_enter Try.func55, Try.ntmps55
  go_wp2_with fail
  go_loopw [1, 4] (fun x _ wr => ∃ k : Nat, k ≤ t.length ∧ x = .string (str (t.drop k)) ∧ Hid (StateOf wr b (m ++ t.take k)) ∧ w.grownBy wr (some b)) (fun x _ _ => strLen x)
  case atStart => exact ⟨0, by omega, rfl, by show StateOf _ _ _; rw [List.take_zero, List.append_nil]; exact HS.out, World.grownBy.refl _ _⟩
  case round =>
    obtain ⟨k, hk, rfl, hS, hG⟩ := hrel
    by_cases hlt : k < t.length
    · obtain ⟨M, hM⟩ : ∃ M, M = m ++ t.take k := ⟨_, rfl⟩
      rw [← hM] at hS
      have hMl : M.length ≤ 1099511627776 := by rw [hM, List.length_append, List.length_take]; have := HL.out; omega
      obtain ⟨r, hr⟩ : ∃ r, r = t.drop k := ⟨_, rfl⟩
      rw [← hr]
      have hrl : 0 < r.length := by rw [hr, List.length_drop]; omega
      have hrm : r.length ≤ 1099511627776 := by rw [hr, List.length_drop]; have := HL.out; omega
      have HR := Lib.hid hr
      have HM := Lib.hid hM
      obtain ⟨blk, hb, ht, hB⟩ := hS.out
      obtain ⟨N, hN⟩ : ∃ N, N = M.length := ⟨_, rfl⟩
      rw [← hN] at ht hB hMl
      obtain ⟨p, hp⟩ : ∃ p, p = N % 64 := ⟨_, rfl⟩
      have hp64 : p < 64 := by omega
      have hsl := slice64 b 8 p hp64
      rw [show ((p : Nat) : Int) = (N : Int) % 64 by omega] at hsl
      obtain ⟨c, hc⟩ : ∃ c, c = min r.length (64 - p) := ⟨_, rfl⟩
      have hc0 : 0 < c := by omega
      have hcr : c ≤ r.length := by omega
      have hc64 : p + c ≤ 64 := by omega
      have hn72 := hB.cell 72 _ (stateC_n _ blk N rfl hb)
      have HN := Lib.hid hN
      have HP := Lib.hid hp
      have HC := Lib.hid hc
      have HB := Lib.hid hb
      have HT := Lib.hid ht
      have hfree := hB.free 72
      clear hM hr hN hp hc hb ht
      go_wp2_with fail
      refine wp_still_store 10 (by kernel_rfl) (by kernel_rfl) ?_
      simp only [List.take_succ_cons, List.take_zero, List.drop_succ_cons, List.drop_zero]
      repeat (first | go_big_quiet_skip | (go_big_quiet_want; go_big_quiet_op; go_big_quiet_on))
      refine wpQuiet_nil ?_
      have hcp := run_copy_str_min (P := Try.prog) wr.drew 45 9 3 5 b (8 + p) (64 - p) (64 - p) c r _ _ Try.underlying45 Try.sizeU8' (Blk.drew hB) HC.out (by rw [stateC_size _ _ _ rfl HB.out]; omega)
      rw [stateC_copy _ blk (r.take c) N p c rfl HB.out hc64 (by rw [List.length_take]; omega)] at hcp
      have hB1 : Blk (wr.drew.setRow b (stateC (hst M).list (blk.take p ++ r.take c ++ blk.drop (p + c)) N)) b (stateC (hst M).list (blk.take p ++ r.take c ++ blk.drop (p + c)) N) 103 := Blk.setRow (Blk.drew hB) _
      have hG1 : w.grownBy (wr.drew.setRow b (stateC (hst M).list (blk.take p ++ r.take c ++ blk.drop (p + c)) N)) (some b) := grown_trans (grown_drew hG) (grown_row _ _ _)
      have hbl : (blk.take p ++ r.take c ++ blk.drop (p + c)).length = 64 := by simp; have := HB.out; omega
      refine Lib.wpList_copy_run _ rfl (.tmp 16) (.tmp 17) _ _ rfl _ _ (by rfl) (by rfl) hcp ?_
      generalize wr.drew.setRow b (stateC (hst M).list (blk.take p ++ r.take c ++ blk.drop (p + c)) N) = W1 at hB1 hG1 ⊢
      clear hcp hB hn72 hfree hsl
      have hn72 := hB1.cell 72 _ (stateC_n _ _ N rfl hbl)
      have hfree := hB1.free 72
      have HBL := Lib.hid hbl
      have hset := hB1.set 72 (.int .i64 ((N + c : Nat) : Int))
      rw [stateC_setn _ _ _ _ rfl hbl] at hset
      have HSET := Lib.hid hset
      clear hset hbl
      have hkc : Hid (m ++ t.take (k + c) = M ++ r.take c) := by show _ = _; rw [HM.out, HR.out, List.append_assoc, ← List.take_add]
      have htd : Hid (List.take (r.length - c) (List.drop c r) = List.drop (k + c) t) := by
        show _ = _
        rw [List.take_of_length_le (by rw [List.length_drop]; omega), HR.out, List.drop_drop]
      have hkl : k + c ≤ t.length := by have h1 := HR.out; have h2 := congrArg List.length h1; rw [List.length_drop] at h2; omega
      have hml : strLen (.string (str (List.drop (k + c) t))) < strLen (.string (str r)) := by
        show (str _).size < (str _).size
        have h2 := congrArg List.length HR.out
        rw [List.length_drop] at h2
        rw [str_size, str_size, List.length_drop]; omega
      have HML := Lib.hid hml
      clear hml
      by_cases hz : p + c = 64
      · have hz2 : ((N : Int) + (c : Int)) % 64 = 0 := by have := HP.out; omega
        have hfin : ∀ W3 : World, Blk W3 b (stateC (compS (hst M) (blk.take p ++ r.take c ++ blk.drop (p + c))).list (blk.take p ++ r.take c ++ blk.drop (p + c)) (N + c)) 103 → StateOf W3 b (m ++ t.take (k + c)) := by
          intro W3 h3
          rw [hkc.out]
          have hq := HN.out
          have hp := HP.out
          have hl : (M ++ r.take c).length = N + c := by rw [List.length_append, List.length_take, ← hq]; omega
          refine ⟨_, HBL.out, ?_, ?_⟩
          · rw [hl, show (N + c) % 64 = 0 by omega, List.take_zero, List.drop_eq_nil_of_le (by rw [hl]; omega)]
          · have hh := hst_full M r blk HB.out (by rw [← hq]; exact HT.out) c (by rw [← hq]; omega) hcr
            rw [← hq, ← hp] at hh
            rw [hl, hh]
            exact h3
        have HFIN := Lib.hid hfin
        clear hfin
        go_wp2_with fail
        refine (turn_calls b (hst M) _ (N + c) _ HBL.out HSET.out).mono ?_
        rintro e w3 ⟨rfl, h3, g3⟩
        have hS3 := Lib.hid (HFIN.out w3 h3)
        clear HFIN h3 HSET
        go_wp2_with fail
        go_roundw
        case rel => exact ⟨k + c, hkl, by rw [htd.out], hS3, grown_trans (grown_set hG1 _ _) g3⟩
        case measure => rw [htd.out]; exact HML.out
      · have hz2 : (((N : Int) + (c : Int)) % 64 == 0) = false := by have := HP.out; simp; omega
        have hfin : StateOf (W1.setCell ⟨b, 72, none⟩ (.int .i64 ((N + c : Nat) : Int))) b (m ++ t.take (k + c)) := by
          rw [hkc.out]
          have hq := HN.out
          have hp := HP.out
          have hc := HC.out
          have hcl : c = r.length := by omega
          have hrt : r.take c = r := List.take_of_length_le (by omega)
          have hl : (M ++ r.take c).length = N + c := by rw [List.length_append, List.length_take, ← hq]; omega
          refine ⟨_, HBL.out, ?_, ?_⟩
          · rw [hl, show (N + c) % 64 = p + c by omega, show (N + c) / 64 = N / 64 by omega, List.drop_append_of_le_length (by rw [← hq]; omega), ← HT.out, ← hp]
            rw [List.take_append_of_le_length (by rw [List.length_append, List.length_take, List.length_take]; have := HB.out; omega), List.take_of_length_le (by rw [List.length_append, List.length_take, List.length_take]; omega)]
          · have hh : hst (M ++ r.take c) = hst M := by rw [hrt]; exact hst_part M r (by rw [← hq]; omega)
            rw [hl, hh]
            exact HSET.out
        have HFIN := Lib.hid hfin
        clear hfin HSET
        go_wp2_with fail
        go_roundw
        case rel => exact ⟨k + c, hkl, by rw [htd.out], HFIN, grown_set hG1 _ _⟩
        case measure => rw [htd.out]; exact HML.out
    · have hkt : k = t.length := by omega
      have e1 : t.drop k = [] := List.drop_eq_nil_of_le (by omega)
      have e2 : t.take k = t := List.take_of_length_le (by omega)
      rw [e2] at hS
      rw [e1]
      clear e1 e2 hkt
      go_wp2_with fail
      go_returns
      exact ⟨rfl, hS.out, hG⟩
end Go.Proofs.Ytjlpdbaknhbgdaa
