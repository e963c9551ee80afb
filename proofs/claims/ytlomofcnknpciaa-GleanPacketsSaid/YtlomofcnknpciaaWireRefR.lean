/-
  The document's reader: what each call does: the same as the program's.
-/
import Derived.Test.YtlomofcnknpciaaWireR2
import Derived.Test.YtlomofcnknpciaaWireRef
import Derived.Test.YtlomofcnknpciaaWireOneLaw
set_option linter.unusedSimpArgs false
set_option linter.unusedVariables false
namespace Go.Proofs.Ytlomofcnknpciaa
open Go.RowKit

/-- Block b is the document's reader. -/
def RefIs (w : World) (b : Nat) (s : List UInt8 × Int) : Prop := Blk w b #[.string (str s.1), .int .i64 s.2] 200

theorem numB_not (c : UInt8) (t : List UInt8) (K : Nat) (hK : c.toNat / 64 = K) (ht : t.length = 2 ^ K - 1) (hlow : lowB K (be t (c.toNat % 64) : Nat) = true) : numB (be t (c.toNat % 64)) ≠ c :: t := by
  have hc : c.toNat < 256 := c.toNat_lt
  intro h
  have hl := congrArg List.length h
  rw [List.length_cons, ht] at hl
  generalize be t (c.toNat % 64) = n at hl hlow
  have hK4 : K = 0 ∨ K = 1 ∨ K = 2 ∨ K = 3 := by omega
  rcases hK4 with rfl | rfl | rfl | rfl
  · simp [lowB] at hlow
  · simp [lowB] at hlow
    unfold numB at hl
    rw [if_pos (by omega)] at hl
    simp at hl
  · simp [lowB] at hlow
    unfold numB at hl
    split at hl
    · simp at hl
    · rw [if_pos (by omega)] at hl
      simp at hl
  · simp [lowB] at hlow
    unfold numB at hl
    split at hl
    · simp at hl
    · split at hl
      · simp at hl
      · rw [if_pos (by omega)] at hl
        simp at hl

set_option maxHeartbeats 2000000 in
theorem RefRNum_calls (b : Nat) (s : List UInt8 × Int) (most : Int) (w : World) (h : RefIs w b s) (hm : s.1.length ≤ 1099511627776) :
    Calls Try.prog 129 #[.pointer (some ⟨b, 0, none⟩), .int .i64 most] w fun e w' => e = .returned (.int .i64 (rNum most s).1) ∧ RefIs w' b (rNum most s).2 ∧ w.grownBy w' (some b) := by
  obtain ⟨l, err⟩ := s
  have hc0 := h.cell 0 _ rfl
  have hc1 := h.cell 1 _ rfl
  have hf0 := h.free 0
  have hf1 := h.free 1
  by_cases he : err = 0
  · subst he
    cases l with
    | nil =>
      go_enter Try.func129, Try.ntmps129
      go_wp2
      go_returns
      exact ⟨rfl, Blk.set h 1 _, grown_set (World.grownBy.refl _ _) _ _⟩
    | cons c l =>
      have hc : c.toNat < 256 := c.toNat_lt
      obtain ⟨K, hK⟩ : ∃ K, K = c.toNat / 64 := ⟨_, rfl⟩
      have hK3 : K ≤ 3 := by omega
      have HK := Lib.hid hK
      have hKi : (c.toNat : Int) / 64 = (K : Int) := by omega
      have HR : Hid (rNum most (c :: l, 0) = if l.length + 1 < 2 ^ K then (0, (c :: l, 2)) else if lowB K (rNumV c l) then (0, (l.drop (2 ^ K - 1), 3)) else if most < (rNumV c l : Int) then (0, (l.drop (2 ^ K - 1), 5)) else ((rNumV c l : Int), (l.drop (2 ^ K - 1), 0))) := by
        show _ = _
        rw [hK]; simp [rNum]
      have hll : l.length ≤ 1099511627776 := by simp at hm; omega
      clear hK
      go_enter Try.func129, Try.ntmps129
      go_wp2_with fail
      go_loop [5, 7] (fun z i => ∃ j S : Nat, j ≤ K ∧ i = .int .i64 j ∧ z = .int .i64 S ∧ Hid (S = 2 ^ j) ∧ S ≤ 8) (fun _ i => K - (intOf i).toNat)
      case atStart => exact ⟨0, 1, by omega, rfl, rfl, rfl, by omega⟩
      case round =>
        obtain ⟨j, S, hj, rfl, rfl, hS, hS8⟩ := hrel
        by_cases hlt : j < K
        · have hS4 : S ≤ 4 := by
            have h1 := hS.out
            have : 2 ^ j ≤ 2 ^ 2 := Nat.pow_le_pow_right (by omega) (by omega)
            omega
          go_wp2_with fail
          go_round
          case rel => exact ⟨j + 1, 2 * S, by omega, by go_num, by go_num, by show _ = _; rw [hS.out, Nat.pow_succ]; omega, by omega⟩
          case measure => simp [intOf]; omega
        · obtain rfl : j = K := by omega
          have hS1 : 1 ≤ S := by have := hS.out; have := Nat.two_pow_pos j; omega
          have HR2 : Hid (rNum most (c :: l, 0) = if l.length + 1 < S then (0, (c :: l, 2)) else if lowB j (rNumV c l) then (0, (l.drop (S - 1), 3)) else if most < (rNumV c l : Int) then (0, (l.drop (S - 1), 5)) else ((rNumV c l : Int), (l.drop (S - 1), 0))) := by
            show _ = _
            rw [HR.out, hS.out]
          clear HR
          by_cases hs : l.length + 1 < S
          · have R : Hid (rNum most (c :: l, 0) = (0, (c :: l, 2))) := by show _ = _; rw [HR2.out, if_pos hs]
            clear HR2
            go_wp2_with fail
            go_returns
            rw [R.out]
            exact ⟨rfl, Blk.set h 1 _, grown_set (World.grownBy.refl _ _) _ _⟩
          · have ha64 : c.toNat % 64 < 64 := by omega
            have hSl : S ≤ l.length + 1 := by omega
            have hlen : (l.take (S - 1)).length = S - 1 := by rw [List.length_take]; omega
            have hV : rNumV c l = be (l.take (S - 1)) (c.toNat % 64) := by rw [rNumV, ← HK.out, ← hS.out]
            have R : Hid (rNum most (c :: l, 0) = if lowB j (be (l.take (S - 1)) (c.toNat % 64) : Nat) then (0, (l.drop (S - 1), 3)) else if most < ((be (l.take (S - 1)) (c.toNat % 64) : Nat) : Int) then (0, (l.drop (S - 1), 5)) else (((be (l.take (S - 1)) (c.toNat % 64) : Nat) : Int), (l.drop (S - 1), 0))) := by
              show _ = _
              rw [HR2.out, if_neg hs, hV]
            have hlow := numB_be c (l.take (S - 1)) j HK.out.symm (by rw [hlen, hS.out])
            have hnot := numB_not c (l.take (S - 1)) j HK.out.symm (by rw [hlen, hS.out])
            have hlt8 := be_lt (l.take (S - 1)) (c.toNat % 64) 64 ha64
            have hmx : be (l.take (S - 1)) (c.toNat % 64) ≤ 4611686018427387903 := by
              rw [hlen] at hlt8
              have : (256 : Nat) ^ (S - 1) ≤ 256 ^ 7 := Nat.pow_le_pow_right (by omega) (by omega)
              have e6 : (256 : Nat) ^ 7 = 72057594037927936 := by decide
              omega
            have htk : (c :: l).take S = c :: l.take (S - 1) := by
              obtain ⟨m, rfl⟩ : ∃ m, S = m + 1 := ⟨S - 1, by omega⟩
              rfl
            have hdk : (c :: l).drop S = l.drop (S - 1) := by
              obtain ⟨m, rfl⟩ : ∃ m, S = m + 1 := ⟨S - 1, by omega⟩
              rfl
            have HLOW := Lib.hid hlow
            have HNOT := Lib.hid hnot
            have HMX := Lib.hid hmx
            have HTK := Lib.hid htk
            have HDK := Lib.hid hdk
            clear HR2 hlen hV hlow hnot hlt8 hmx htk hdk
            have hdec : decide ((l.length : Int) + 1 < (S : Int)) = false := by simp; omega
            go_wp2_with fail
            clear hKi hdec
            go_loop [8, 9] (fun x y => ∃ k : Nat, k + 1 ≤ S ∧ y = .int .i64 ((k : Int) + 1) ∧ x = .int .i64 (be (l.take k) (c.toNat % 64) : Nat)) (fun _ y => S - (intOf y).toNat)
            case atStart => exact ⟨0, by omega, rfl, by simp [be]⟩
            case round =>
              obtain ⟨k, hk, rfl, rfl⟩ := hrel
              by_cases hlt2 : k + 1 < S
              · have hkt : k < l.length := by omega
                have hb1 := be_lt (l.take k) (c.toNat % 64) 64 ha64
                have hb2 : be (l.take k) (c.toNat % 64) < 18014398509481984 := by
                  rw [List.length_take, Nat.min_eq_left (by omega)] at hb1
                  have : (256 : Nat) ^ k ≤ 256 ^ 6 := Nat.pow_le_pow_right (by omega) (by omega)
                  have e6 : (256 : Nat) ^ 6 = 281474976710656 := by decide
                  omega
                have hs : Hid (be (l.take (k + 1)) (c.toNat % 64) = be (l.take k) (c.toNat % 64) * 256 + l[k].toNat) := be_take l k (c.toNat % 64) hkt
                have hcl : l[k].toNat < 256 := l[k].toNat_lt
                obtain ⟨x, hx⟩ : ∃ x : Nat, x = be (l.take k) (c.toNat % 64) := ⟨_, rfl⟩
                rw [← hx] at hb2 hs ⊢
                clear hx hb1
                go_wp2_with fail
                go_round
                case rel => exact ⟨k + 1, by omega, by go_num, by rw [hs.out]; go_num⟩
                case measure => simp [intOf]; omega
              · obtain rfl : S = k + 1 := by omega
                have HTK1 := HTK.out
                have HDK1 := HDK.out
                have hmx := HMX.out
                have HLOW1 := HLOW.out
                have HNOT1 := HNOT.out
                have R1 := R.out
                rw [Nat.add_sub_cancel] at HTK1 HDK1 hmx HLOW1 HNOT1 R1
                clear HTK HDK HMX HLOW HNOT R
                have hb0 : (0 : Int) ≤ (be (l.take k) (c.toNat % 64) : Nat) := by omega
                have hb3' : ((be (l.take k) (c.toNat % 64) : Nat) : Int) ≤ 4611686018427387903 := by omega
                obtain ⟨n, hn⟩ : ∃ n : Nat, n = be (l.take k) (c.toNat % 64) := ⟨_, rfl⟩
                rw [← hn] at hb0 hb3' HLOW1 HNOT1 R1 ⊢
                have hcat : c :: l.take k = (c :: l).take (k + 1) := rfl
                have HB := Lib.hid h
                have R3 := Lib.hid R1
                have HL3 := Lib.hid HLOW1
                have HN3 := Lib.hid HNOT1
                clear hn hlt hmx R1 HLOW1 HNOT1 hcat HTK1 HDK1 HK hS
                go_wp2_with fail
                have hT : List.take (l.length - k) (List.drop k l) = l.drop k := List.take_of_length_le (by rw [List.length_drop]; omega)
                rw [hT]
                have hB1 : RefIs (w.setCell ⟨b, 0, none⟩ (.string (str (l.drop k)))) b (l.drop k, 0) := Blk.set HB.out 0 _
                have hG1 : w.grownBy (w.setCell ⟨b, 0, none⟩ (.string (str (l.drop k)))) (some b) := grown_set (World.grownBy.refl _ _) _ _
                generalize w.setCell ⟨b, 0, none⟩ (.string (str (l.drop k))) = W1 at hB1 hG1 ⊢
                refine (RefNum_calls (n : Int) _ hb0 hb3').mono ?_
                rintro e w1 ⟨rfl, b1⟩
                rw [Int.toNat_natCast]
                have hB2 : RefIs w1 b (l.drop k, 0) := Blk.below hB1 b1 (Blk.lt hB1)
                have hG2 : w.grownBy w1 (some b) := grown_trans hG1 (below_grown b1 _)
                have hd0 := hB2.cell 0 _ rfl
                have hd1 := hB2.cell 1 _ rfl
                have hf1 := hB2.free 1
                clear hT hB1 hG1 b1 hc0 hc1 hf0 HB
                cases hlow : lowB j n with
                | true =>
                  have hne : (numB n == c :: List.take k l) = false := by simpa using HN3.out hlow
                  have RR : Hid (rNum most (c :: l, 0) = (0, (l.drop k, 3))) := by show _ = _; rw [R3.out, if_pos hlow]
                  clear R3 hlow HL3 HN3
                  go_wp2_with fail
                  go_returns
                  rw [RR.out]
                  exact ⟨rfl, Blk.set hB2 1 _, grown_set hG2 _ _⟩
                | false =>
                  have hne : (numB n == c :: List.take k l) = true := by simpa using HL3.out hlow
                  by_cases hmo : most < (n : Int)
                  · have RR : Hid (rNum most (c :: l, 0) = (0, (l.drop k, 5))) := by show _ = _; rw [R3.out, if_neg (by rw [hlow]; simp), if_pos hmo]
                    clear R3 hlow HL3 HN3
                    go_wp2_with fail
                    go_returns
                    rw [RR.out]
                    exact ⟨rfl, Blk.set hB2 1 _, grown_set hG2 _ _⟩
                  · have RR : Hid (rNum most (c :: l, 0) = ((n : Int), (l.drop k, 0))) := by show _ = _; rw [R3.out, if_neg (by rw [hlow]; simp), if_neg hmo]
                    clear R3 hlow HL3 HN3
                    go_wp2_with fail
                    go_returns
                    rw [RR.out]
                    exact ⟨rfl, hB2, hG2⟩
  · have R : Hid (rNum most (l, err) = (0, (l, err))) := by show _ = _; simp [rNum, he]
    have he' : (err != 0) = true := by simp [he]
    go_enter Try.func129, Try.ntmps129
    go_wp2
    go_returns
    rw [R.out]
    exact ⟨rfl, h, World.grownBy.refl _ _⟩

/-- Raw. -/
def rRaw (n : Nat) (s : List UInt8 × Int) : List UInt8 × (List UInt8 × Int) :=
  if s.2 ≠ 0 then ([], s) else if s.1.length < n then ([], (s.1, 2)) else (s.1.take n, (s.1.drop n, 0))
theorem RefRRaw_calls (b : Nat) (s : List UInt8 × Int) (n : Nat) (w : World) (h : RefIs w b s) (hm : s.1.length ≤ 1099511627776) :
    Calls Try.prog 158 #[.pointer (some ⟨b, 0, none⟩), .int .i64 n] w fun e w' => e = .returned (.string (str (rRaw n s).1)) ∧ RefIs w' b (rRaw n s).2 ∧ w.grownBy w' (some b) := by
  obtain ⟨l, err⟩ := s
  have hc0 := h.cell 0 _ rfl
  have hc1 := h.cell 1 _ rfl
  have hf0 := h.free 0
  have hf1 := h.free 1
  by_cases he : err = 0
  · subst he
    by_cases hs : l.length < n
    · have R : Hid (rRaw n (l, 0) = ([], (l, 2))) := by show _ = _; simp [rRaw, hs]
      go_enter Try.func158, Try.ntmps158
      go_wp2
      go_returns
      rw [R.out]
      exact ⟨rfl, Blk.set h 1 _, grown_set (World.grownBy.refl _ _) _ _⟩
    · have R : Hid (rRaw n (l, 0) = (l.take n, (l.drop n, 0))) := by show _ = _; simp [rRaw, hs]
      have hs' : n ≤ l.length := by omega
      clear hs
      go_enter Try.func158, Try.ntmps158
      go_wp2
      go_returns
      rw [R.out]
      refine ⟨rfl, ?_, grown_set (World.grownBy.refl _ _) _ _⟩
      have hT : List.take (l.length - n) (List.drop n l) = l.drop n := List.take_of_length_le (by rw [List.length_drop]; omega)
      rw [hT]
      exact Blk.set h 0 _
  · have R : Hid (rRaw n (l, err) = ([], (l, err))) := by show _ = _; simp [rRaw, he]
    have he' : (err != 0) = true := by simp [he]
    go_enter Try.func158, Try.ntmps158
    go_wp2
    go_returns
    rw [R.out]
    exact ⟨rfl, h, World.grownBy.refl _ _⟩
theorem RefRFail_calls (b : Nat) (s : List UInt8 × Int) (e : Int) (w : World) (h : RefIs w b s) : Calls Try.prog 130 #[.pointer (some ⟨b, 0, none⟩), .int .i64 e] w fun r w' => r = .returned (.tuple #[]) ∧ RefIs w' b (rFail e s) ∧ w.grownBy w' (some b) := by
  obtain ⟨l, err⟩ := s
  have hc1 := h.cell 1 _ rfl
  have hf1 := h.free 1
  by_cases he : err = 0
  · subst he
    have R : Hid (rFail e (l, 0) = (l, e)) := rfl
    go_enter Try.func130, Try.ntmps130
    go_wp2
    go_returns
    rw [R.out]
    exact ⟨rfl, Blk.set h 1 _, grown_set (World.grownBy.refl _ _) _ _⟩
  · have R : Hid (rFail e (l, err) = (l, err)) := by show _ = _; simp [rFail, he]
    have he' : (err == 0) = false := by simp [he]
    go_enter Try.func130, Try.ntmps130
    go_wp2
    go_returns
    rw [R.out]
    exact ⟨rfl, h, World.grownBy.refl _ _⟩
theorem RefREnd_calls (b : Nat) (s : List UInt8 × Int) (w : World) (h : RefIs w b s) (hm : s.1.length ≤ 1099511627776) : Calls Try.prog 133 #[.pointer (some ⟨b, 0, none⟩)] w fun e w' => e = .returned (.int .i64 (rEnd s)) ∧ w = w' := by
  obtain ⟨l, err⟩ := s
  have hc0 := h.cell 0 _ rfl
  have hc1 := h.cell 1 _ rfl
  by_cases he : err = 0
  · subst he
    cases l with
    | nil =>
      go_enter Try.func133, Try.ntmps133
      go_wp2
      go_returns
      exact ⟨rfl, rfl⟩
    | cons c l =>
      have R : Hid (rEnd (c :: l, 0) = 4) := by show _ = _; simp [rEnd]
      go_enter Try.func133, Try.ntmps133
      go_wp2
      go_returns
      rw [R.out]
      exact ⟨rfl, rfl⟩
  · have R : Hid (rEnd (l, err) = err) := by show _ = _; simp [rEnd, he]
    have he' : (err != 0) = true := by simp [he]
    go_enter Try.func133, Try.ntmps133
    go_wp2
    go_returns
    rw [R.out]
    exact ⟨rfl, rfl⟩
end Go.Proofs.Ytlomofcnknpciaa
