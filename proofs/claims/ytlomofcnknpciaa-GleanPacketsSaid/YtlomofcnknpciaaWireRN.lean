/-
  The wire's reader: Num.
-/
import Derived.Test.YtlomofcnknpciaaWireR
set_option linter.unusedSimpArgs false
set_option linter.unusedVariables false
namespace Go.Proofs.Ytlomofcnknpciaa
open Go.RowKit

/-- Bytes behind a number, the greatest first. -/
def be (l : List UInt8) (a : Nat) : Nat := l.foldl (fun a c => a * 256 + c.toNat) a
theorem be_snoc (l : List UInt8) (c : UInt8) (a : Nat) : be (l ++ [c]) a = be l a * 256 + c.toNat := by simp [be]
theorem be_cons (l : List UInt8) (c : UInt8) (a : Nat) : be (c :: l) a = be l (a * 256 + c.toNat) := by simp [be]
theorem be_lt (l : List UInt8) : ∀ a k, a < k → be l a < k * 256 ^ l.length := by
  induction l with
  | nil => intro a k h; simpa [be] using h
  | cons c l ih =>
    intro a k h
    rw [be_cons]
    have hc : c.toNat < 256 := c.toNat_lt
    have := ih (a * 256 + c.toNat) (k * 256) (by omega)
    rw [List.length_cons, Nat.pow_succ, Nat.mul_comm (256 ^ l.length), ← Nat.mul_assoc]
    exact this
theorem be_take (l : List UInt8) (k a : Nat) (h : k < l.length) : be (l.take (k + 1)) a = be (l.take k) a * 256 + l[k].toNat := by
  rw [List.take_succ_eq_append_getElem h, be_snoc]

theorem or_i64_join (x c : Int) (h0 : 0 ≤ x) (h1 : x < 18014398509481984) (h2 : 0 ≤ c) (h3 : c < 256) : bits BinOp.or IntKind.i64 (x * 256) c = x * 256 + c := by
  obtain ⟨X, rfl⟩ := Int.eq_ofNat_of_zero_le h0
  obtain ⟨C, rfl⟩ := Int.eq_ofNat_of_zero_le h2
  have e : (X * 256) ||| C = X * 256 + C := nat_join 8 (X * 256) C (by omega) (by omega)
  show IntKind.i64.wrap ((BitVec.ofInt 64 ((X : Int) * 256) ||| BitVec.ofInt 64 (C : Int)).toNat : Int) = _
  rw [show ((X : Int) * 256) = ((X * 256 : Nat) : Int) by omega, BitVec.toNat_or, BitVec.ofInt_natCast, BitVec.ofInt_natCast, BitVec.toNat_ofNat, BitVec.toNat_ofNat, Nat.mod_eq_of_lt (by omega), Nat.mod_eq_of_lt (by omega), e, IntKind.wrap_i64]
  omega

def rNumV (c : UInt8) (l : List UInt8) : Nat := be (l.take (2 ^ (c.toNat / 64) - 1)) (c.toNat % 64)
def lowB (K : Nat) (n : Int) : Bool := (K == 1 && decide (n < 64)) || (K == 2 && decide (n < 16384)) || (K == 3 && decide (n < 1073741824))
/-- Num: the number, what is left. -/
def rNum (most : Int) (s : List UInt8 × Int) : Int × (List UInt8 × Int) :=
  if s.2 ≠ 0 then (0, s) else match s.1 with
  | [] => (0, ([], 2))
  | c :: l =>
    if l.length + 1 < 2 ^ (c.toNat / 64) then (0, (c :: l, 2))
    else if lowB (c.toNat / 64) (rNumV c l) then (0, (l.drop (2 ^ (c.toNat / 64) - 1), 3))
    else if most < (rNumV c l : Int) then (0, (l.drop (2 ^ (c.toNat / 64) - 1), 5))
    else ((rNumV c l : Int), (l.drop (2 ^ (c.toNat / 64) - 1), 0))

set_option maxHeartbeats 1000000 in
theorem rnum0_calls (b : Nat) (c : UInt8) (l : List UInt8) (most : Int) (w : World) (h : ReaderIs w b (c :: l, 0)) (hm : (c :: l).length ≤ 1099511627776) (hk1 : 0 ≤ c.toNat) (hk2 : c.toNat < 64) (hl : 0 ≤ l.length) :
    Calls Try.prog 118 #[.pointer (some ⟨b, 0, none⟩), .int .i64 most] w fun e w' => e = .returned (.int .i64 (rNum most (c :: l, 0)).1) ∧ ReaderIs w' b (rNum most (c :: l, 0)).2 ∧ w.grownBy w' (some b) := by
  have hc0 := h.cell 0 _ rfl
  have hc1 := h.cell 1 _ rfl
  have hKn : c.toNat / 64 = 0 := by omega
  have hKi : (c.toNat : Int) / 64 = 0 := by omega
  have hv : rNumV c l = be (l.take 0) (c.toNat % 64) := by rw [rNumV, hKn]
  have R : Hid (rNum most (c :: l, 0) = if lowB 0 (be (l.take 0) (c.toNat % 64) : Nat) then (0, (l.drop 0, 3)) else if most < ((be (l.take 0) (c.toNat % 64) : Nat) : Int) then (0, (l.drop 0, 5)) else (((be (l.take 0) (c.toNat % 64) : Nat) : Int), (l.drop 0, 0))) := by
    show _ = _
    simp only [rNum, hv, hKn]
    rw [if_neg (by simp), if_neg (by omega)]
  have hlt := be_lt (l.take 0) (c.toNat % 64) 64 (by omega)
  rw [List.length_take, Nat.min_eq_left hl] at hlt
  clear hv
  go_enter Try.func118, Try.ntmps118
  go_wp2_with fail
  refine (takeOk_calls b (c :: l) 1 _ h hm (by omega) (by simp; omega)).mono ?_
  rintro e w1 ⟨rfl, h1, hg⟩
  rw [show (c :: l).take (Int.toNat 1) = c :: l.take 0 from rfl]
  rw [show (c :: l).drop (Int.toNat 1) = l.drop 0 from rfl] at h1
  have hln : (l.take 0).length = 0 := by rw [List.length_take]; omega
  have hn1 : (l.take 0).length ≤ 0 := by omega
  have hn2 : 0 ≤ (l.take 0).length := by omega
  generalize hT : l.take 0 = t at hlt R hn1 hn2 ⊢
  generalize hD : l.drop 0 = d at h1 R
  clear hT hD hln
  have hd0 := h1.cell 0 _ rfl
  have hd1 := h1.cell 1 _ rfl
  have hf1 := h1.free 1
  have hbw : b < w1.heap.size := Blk.lt h1
  clear h hc0 hc1 hl
  have ha64 : c.toNat % 64 < 64 := by omega
  go_wp2_with fail
  clear hKn hKi
  go_loop [8, 9] (fun x y => ∃ k : Nat, k ≤ 0 ∧ y = .int .i64 ((k : Int) + 1) ∧ x = .int .i64 (be (t.take k) (c.toNat % 64) : Nat)) (fun _ y => 1 - (intOf y).toNat)
  case atStart => exact ⟨0, by omega, rfl, by simp [be]⟩
  case round =>
    obtain ⟨k, hk, rfl, rfl⟩ := hrel
    by_cases hlt2 : k < 0
    · exact absurd hlt2 (by omega)
    · obtain rfl : k = 0 := by omega
      have hb3 : be t (c.toNat % 64) ≤ 4611686018427387903 := by omega
      have htk : t.take 0 = t := List.take_of_length_le hn1
      rw [htk]
      clear htk
      have hb0 : (0 : Int) ≤ (be t (c.toNat % 64) : Nat) := by omega
      have hb3' : ((be t (c.toNat % 64) : Nat) : Int) ≤ 4611686018427387903 := by omega
      obtain ⟨v, hv⟩ : ∃ v : Int, v = (be t (c.toNat % 64) : Nat) := ⟨_, rfl⟩
      rw [← hv] at hb0 hb3' R ⊢
      clear hv hlt hb3
      by_cases hmost : most < v
      · have RR : Hid (rNum most (c :: l, 0) = (0, (d, 5))) := by show _ = _; rw [R.out, if_neg (by simp [lowB]), if_pos hmost]
        clear R
        go_wp2
        go_returns
        rw [RR.out]
        refine ⟨rfl, ?_, ?_⟩
        · exact Blk.set h1 1 (.int .i64 5)
        · exact grown_set hg _ _
      · have RR : Hid (rNum most (c :: l, 0) = (v, (d, 0))) := by show _ = _; rw [R.out, if_neg (by simp [lowB]), if_neg hmost]
        clear R
        go_wp2
        go_returns
        rw [RR.out]
        exact ⟨rfl, h1, hg⟩
set_option maxHeartbeats 1000000 in
theorem rnum1_calls (b : Nat) (c : UInt8) (l : List UInt8) (most : Int) (w : World) (h : ReaderIs w b (c :: l, 0)) (hm : (c :: l).length ≤ 1099511627776) (hk1 : 64 ≤ c.toNat) (hk2 : c.toNat < 128) (hl : 1 ≤ l.length) :
    Calls Try.prog 118 #[.pointer (some ⟨b, 0, none⟩), .int .i64 most] w fun e w' => e = .returned (.int .i64 (rNum most (c :: l, 0)).1) ∧ ReaderIs w' b (rNum most (c :: l, 0)).2 ∧ w.grownBy w' (some b) := by
  have i0 := bnds_0
  have hc0 := h.cell 0 _ rfl
  have hc1 := h.cell 1 _ rfl
  have hKn : c.toNat / 64 = 1 := by omega
  have hKi : (c.toNat : Int) / 64 = 1 := by omega
  have hv : rNumV c l = be (l.take 1) (c.toNat % 64) := by rw [rNumV, hKn]
  have R : Hid (rNum most (c :: l, 0) = if lowB 1 (be (l.take 1) (c.toNat % 64) : Nat) then (0, (l.drop 1, 3)) else if most < ((be (l.take 1) (c.toNat % 64) : Nat) : Int) then (0, (l.drop 1, 5)) else (((be (l.take 1) (c.toNat % 64) : Nat) : Int), (l.drop 1, 0))) := by
    show _ = _
    simp only [rNum, hv, hKn]
    rw [if_neg (by simp), if_neg (by omega)]
  have hlt := be_lt (l.take 1) (c.toNat % 64) 64 (by omega)
  rw [List.length_take, Nat.min_eq_left hl] at hlt
  clear hv
  go_enter Try.func118, Try.ntmps118
  go_wp2_with fail
  refine (takeOk_calls b (c :: l) 2 _ h hm (by omega) (by simp; omega)).mono ?_
  rintro e w1 ⟨rfl, h1, hg⟩
  rw [show (c :: l).take (Int.toNat 2) = c :: l.take 1 from rfl]
  rw [show (c :: l).drop (Int.toNat 2) = l.drop 1 from rfl] at h1
  have hln : (l.take 1).length = 1 := by rw [List.length_take]; omega
  have hn1 : (l.take 1).length ≤ 1 := by omega
  have hn2 : 1 ≤ (l.take 1).length := by omega
  generalize hT : l.take 1 = t at hlt R hn1 hn2 ⊢
  generalize hD : l.drop 1 = d at h1 R
  clear hT hD hln
  have hd0 := h1.cell 0 _ rfl
  have hd1 := h1.cell 1 _ rfl
  have hf1 := h1.free 1
  have hbw : b < w1.heap.size := Blk.lt h1
  clear h hc0 hc1 hl
  have ha64 : c.toNat % 64 < 64 := by omega
  go_wp2_with fail
  clear hKn hKi
  go_loop [8, 9] (fun x y => ∃ k : Nat, k ≤ 1 ∧ y = .int .i64 ((k : Int) + 1) ∧ x = .int .i64 (be (t.take k) (c.toNat % 64) : Nat)) (fun _ y => 2 - (intOf y).toNat)
  case atStart => exact ⟨0, by omega, rfl, by simp [be]⟩
  case round =>
    obtain ⟨k, hk, rfl, rfl⟩ := hrel
    by_cases hlt2 : k < 1
    · have hkt : k < t.length := by omega
      have hb1 := be_lt (t.take k) (c.toNat % 64) 64 ha64
      have hb2 : be (t.take k) (c.toNat % 64) < 18014398509481984 := by
        rw [List.length_take, Nat.min_eq_left (by omega)] at hb1
        have : (256 : Nat) ^ k ≤ 256 ^ 6 := Nat.pow_le_pow_right (by omega) (by omega)
        have e6 : (256 : Nat) ^ 6 = 281474976710656 := by decide
        omega
      have hs : Hid (be (t.take (k + 1)) (c.toNat % 64) = be (t.take k) (c.toNat % 64) * 256 + t[k].toNat) := be_take t k (c.toNat % 64) hkt
      have hcl : t[k].toNat < 256 := t[k].toNat_lt
      have hor := or_i64_join (be (t.take k) (c.toNat % 64) : Nat) (t[k].toNat) (by omega) (by omega) (by omega) (by omega)
      obtain ⟨x, hx⟩ : ∃ x : Nat, x = be (t.take k) (c.toNat % 64) := ⟨_, rfl⟩
      rw [← hx] at hb2 hs hor ⊢
      clear hx hb1
      go_wp2_with fail
      go_round
      case rel => exact ⟨k + 1, by omega, by go_num, by rw [hs.out]; go_num⟩
      case measure => simp [intOf]; omega
    · obtain rfl : k = 1 := by omega
      have hb3 : be t (c.toNat % 64) ≤ 4611686018427387903 := by omega
      have htk : t.take 1 = t := List.take_of_length_le hn1
      rw [htk]
      clear htk
      have hb0 : (0 : Int) ≤ (be t (c.toNat % 64) : Nat) := by omega
      have hb3' : ((be t (c.toNat % 64) : Nat) : Int) ≤ 4611686018427387903 := by omega
      obtain ⟨v, hv⟩ : ∃ v : Int, v = (be t (c.toNat % 64) : Nat) := ⟨_, rfl⟩
      rw [← hv] at hb0 hb3' R ⊢
      clear hv hlt hb3
      by_cases hlow : v < 64
      · have RR : Hid (rNum most (c :: l, 0) = (0, (d, 3))) := by show _ = _; rw [R.out, if_pos (by simp [lowB]; omega)]
        clear R
        go_wp2_with (go_at_call 155; refine (bounds_calls _).mono ?_; rintro e w' ⟨rfl, rfl⟩)
        go_returns
        rw [RR.out]
        refine ⟨rfl, ?_, ?_⟩
        · exact Blk.alloc (Blk.set h1 1 (.int .i64 3)) _
        · exact grown_alloc (grown_set hg _ _) _
      by_cases hmost : most < v
      · have RR : Hid (rNum most (c :: l, 0) = (0, (d, 5))) := by show _ = _; rw [R.out, if_neg (by simp [lowB]; omega), if_pos hmost]
        clear R
        go_wp2_with (go_at_call 155; refine (bounds_calls _).mono ?_; rintro e w' ⟨rfl, rfl⟩)
        go_returns
        rw [RR.out]
        refine ⟨rfl, ?_, ?_⟩
        · exact Blk.alloc (Blk.set h1 1 (.int .i64 5)) _
        · exact grown_alloc (grown_set hg _ _) _
      · have RR : Hid (rNum most (c :: l, 0) = (v, (d, 0))) := by show _ = _; rw [R.out, if_neg (by simp [lowB]; omega), if_neg hmost]
        clear R
        go_wp2_with (go_at_call 155; refine (bounds_calls _).mono ?_; rintro e w' ⟨rfl, rfl⟩)
        go_returns
        rw [RR.out]
        exact ⟨rfl, Blk.alloc h1 _, grown_alloc hg _⟩
set_option maxHeartbeats 1000000 in
theorem rnum2_calls (b : Nat) (c : UInt8) (l : List UInt8) (most : Int) (w : World) (h : ReaderIs w b (c :: l, 0)) (hm : (c :: l).length ≤ 1099511627776) (hk1 : 128 ≤ c.toNat) (hk2 : c.toNat < 192) (hl : 3 ≤ l.length) :
    Calls Try.prog 118 #[.pointer (some ⟨b, 0, none⟩), .int .i64 most] w fun e w' => e = .returned (.int .i64 (rNum most (c :: l, 0)).1) ∧ ReaderIs w' b (rNum most (c :: l, 0)).2 ∧ w.grownBy w' (some b) := by
  have i0 := bnds_1
  have hc0 := h.cell 0 _ rfl
  have hc1 := h.cell 1 _ rfl
  have hKn : c.toNat / 64 = 2 := by omega
  have hKi : (c.toNat : Int) / 64 = 2 := by omega
  have hv : rNumV c l = be (l.take 3) (c.toNat % 64) := by rw [rNumV, hKn]
  have R : Hid (rNum most (c :: l, 0) = if lowB 2 (be (l.take 3) (c.toNat % 64) : Nat) then (0, (l.drop 3, 3)) else if most < ((be (l.take 3) (c.toNat % 64) : Nat) : Int) then (0, (l.drop 3, 5)) else (((be (l.take 3) (c.toNat % 64) : Nat) : Int), (l.drop 3, 0))) := by
    show _ = _
    simp only [rNum, hv, hKn]
    rw [if_neg (by simp), if_neg (by omega)]
  have hlt := be_lt (l.take 3) (c.toNat % 64) 64 (by omega)
  rw [List.length_take, Nat.min_eq_left hl] at hlt
  clear hv
  go_enter Try.func118, Try.ntmps118
  go_wp2_with fail
  refine (takeOk_calls b (c :: l) 4 _ h hm (by omega) (by simp; omega)).mono ?_
  rintro e w1 ⟨rfl, h1, hg⟩
  rw [show (c :: l).take (Int.toNat 4) = c :: l.take 3 from rfl]
  rw [show (c :: l).drop (Int.toNat 4) = l.drop 3 from rfl] at h1
  have hln : (l.take 3).length = 3 := by rw [List.length_take]; omega
  have hn1 : (l.take 3).length ≤ 3 := by omega
  have hn2 : 3 ≤ (l.take 3).length := by omega
  generalize hT : l.take 3 = t at hlt R hn1 hn2 ⊢
  generalize hD : l.drop 3 = d at h1 R
  clear hT hD hln
  have hd0 := h1.cell 0 _ rfl
  have hd1 := h1.cell 1 _ rfl
  have hf1 := h1.free 1
  have hbw : b < w1.heap.size := Blk.lt h1
  clear h hc0 hc1 hl
  have ha64 : c.toNat % 64 < 64 := by omega
  go_wp2_with fail
  clear hKn hKi
  go_loop [8, 9] (fun x y => ∃ k : Nat, k ≤ 3 ∧ y = .int .i64 ((k : Int) + 1) ∧ x = .int .i64 (be (t.take k) (c.toNat % 64) : Nat)) (fun _ y => 4 - (intOf y).toNat)
  case atStart => exact ⟨0, by omega, rfl, by simp [be]⟩
  case round =>
    obtain ⟨k, hk, rfl, rfl⟩ := hrel
    by_cases hlt2 : k < 3
    · have hkt : k < t.length := by omega
      have hb1 := be_lt (t.take k) (c.toNat % 64) 64 ha64
      have hb2 : be (t.take k) (c.toNat % 64) < 18014398509481984 := by
        rw [List.length_take, Nat.min_eq_left (by omega)] at hb1
        have : (256 : Nat) ^ k ≤ 256 ^ 6 := Nat.pow_le_pow_right (by omega) (by omega)
        have e6 : (256 : Nat) ^ 6 = 281474976710656 := by decide
        omega
      have hs : Hid (be (t.take (k + 1)) (c.toNat % 64) = be (t.take k) (c.toNat % 64) * 256 + t[k].toNat) := be_take t k (c.toNat % 64) hkt
      have hcl : t[k].toNat < 256 := t[k].toNat_lt
      have hor := or_i64_join (be (t.take k) (c.toNat % 64) : Nat) (t[k].toNat) (by omega) (by omega) (by omega) (by omega)
      obtain ⟨x, hx⟩ : ∃ x : Nat, x = be (t.take k) (c.toNat % 64) := ⟨_, rfl⟩
      rw [← hx] at hb2 hs hor ⊢
      clear hx hb1
      go_wp2_with fail
      go_round
      case rel => exact ⟨k + 1, by omega, by go_num, by rw [hs.out]; go_num⟩
      case measure => simp [intOf]; omega
    · obtain rfl : k = 3 := by omega
      have hb3 : be t (c.toNat % 64) ≤ 4611686018427387903 := by omega
      have htk : t.take 3 = t := List.take_of_length_le hn1
      rw [htk]
      clear htk
      have hb0 : (0 : Int) ≤ (be t (c.toNat % 64) : Nat) := by omega
      have hb3' : ((be t (c.toNat % 64) : Nat) : Int) ≤ 4611686018427387903 := by omega
      obtain ⟨v, hv⟩ : ∃ v : Int, v = (be t (c.toNat % 64) : Nat) := ⟨_, rfl⟩
      rw [← hv] at hb0 hb3' R ⊢
      clear hv hlt hb3
      by_cases hlow : v < 16384
      · have RR : Hid (rNum most (c :: l, 0) = (0, (d, 3))) := by show _ = _; rw [R.out, if_pos (by simp [lowB]; omega)]
        clear R
        go_wp2_with (go_at_call 155; refine (bounds_calls _).mono ?_; rintro e w' ⟨rfl, rfl⟩)
        go_returns
        rw [RR.out]
        refine ⟨rfl, ?_, ?_⟩
        · exact Blk.alloc (Blk.set h1 1 (.int .i64 3)) _
        · exact grown_alloc (grown_set hg _ _) _
      by_cases hmost : most < v
      · have RR : Hid (rNum most (c :: l, 0) = (0, (d, 5))) := by show _ = _; rw [R.out, if_neg (by simp [lowB]; omega), if_pos hmost]
        clear R
        go_wp2_with (go_at_call 155; refine (bounds_calls _).mono ?_; rintro e w' ⟨rfl, rfl⟩)
        go_returns
        rw [RR.out]
        refine ⟨rfl, ?_, ?_⟩
        · exact Blk.alloc (Blk.set h1 1 (.int .i64 5)) _
        · exact grown_alloc (grown_set hg _ _) _
      · have RR : Hid (rNum most (c :: l, 0) = (v, (d, 0))) := by show _ = _; rw [R.out, if_neg (by simp [lowB]; omega), if_neg hmost]
        clear R
        go_wp2_with (go_at_call 155; refine (bounds_calls _).mono ?_; rintro e w' ⟨rfl, rfl⟩)
        go_returns
        rw [RR.out]
        exact ⟨rfl, Blk.alloc h1 _, grown_alloc hg _⟩
set_option maxHeartbeats 1000000 in
theorem rnum3_calls (b : Nat) (c : UInt8) (l : List UInt8) (most : Int) (w : World) (h : ReaderIs w b (c :: l, 0)) (hm : (c :: l).length ≤ 1099511627776) (hk1 : 192 ≤ c.toNat) (hk2 : c.toNat < 256) (hl : 7 ≤ l.length) :
    Calls Try.prog 118 #[.pointer (some ⟨b, 0, none⟩), .int .i64 most] w fun e w' => e = .returned (.int .i64 (rNum most (c :: l, 0)).1) ∧ ReaderIs w' b (rNum most (c :: l, 0)).2 ∧ w.grownBy w' (some b) := by
  have i0 := bnds_2
  have hc0 := h.cell 0 _ rfl
  have hc1 := h.cell 1 _ rfl
  have hKn : c.toNat / 64 = 3 := by omega
  have hKi : (c.toNat : Int) / 64 = 3 := by omega
  have hv : rNumV c l = be (l.take 7) (c.toNat % 64) := by rw [rNumV, hKn]
  have R : Hid (rNum most (c :: l, 0) = if lowB 3 (be (l.take 7) (c.toNat % 64) : Nat) then (0, (l.drop 7, 3)) else if most < ((be (l.take 7) (c.toNat % 64) : Nat) : Int) then (0, (l.drop 7, 5)) else (((be (l.take 7) (c.toNat % 64) : Nat) : Int), (l.drop 7, 0))) := by
    show _ = _
    simp only [rNum, hv, hKn]
    rw [if_neg (by simp), if_neg (by omega)]
  have hlt := be_lt (l.take 7) (c.toNat % 64) 64 (by omega)
  rw [List.length_take, Nat.min_eq_left hl] at hlt
  clear hv
  go_enter Try.func118, Try.ntmps118
  go_wp2_with fail
  refine (takeOk_calls b (c :: l) 8 _ h hm (by omega) (by simp; omega)).mono ?_
  rintro e w1 ⟨rfl, h1, hg⟩
  rw [show (c :: l).take (Int.toNat 8) = c :: l.take 7 from rfl]
  rw [show (c :: l).drop (Int.toNat 8) = l.drop 7 from rfl] at h1
  have hln : (l.take 7).length = 7 := by rw [List.length_take]; omega
  have hn1 : (l.take 7).length ≤ 7 := by omega
  have hn2 : 7 ≤ (l.take 7).length := by omega
  generalize hT : l.take 7 = t at hlt R hn1 hn2 ⊢
  generalize hD : l.drop 7 = d at h1 R
  clear hT hD hln
  have hd0 := h1.cell 0 _ rfl
  have hd1 := h1.cell 1 _ rfl
  have hf1 := h1.free 1
  have hbw : b < w1.heap.size := Blk.lt h1
  clear h hc0 hc1 hl
  have ha64 : c.toNat % 64 < 64 := by omega
  go_wp2_with fail
  clear hKn hKi
  go_loop [8, 9] (fun x y => ∃ k : Nat, k ≤ 7 ∧ y = .int .i64 ((k : Int) + 1) ∧ x = .int .i64 (be (t.take k) (c.toNat % 64) : Nat)) (fun _ y => 8 - (intOf y).toNat)
  case atStart => exact ⟨0, by omega, rfl, by simp [be]⟩
  case round =>
    obtain ⟨k, hk, rfl, rfl⟩ := hrel
    by_cases hlt2 : k < 7
    · have hkt : k < t.length := by omega
      have hb1 := be_lt (t.take k) (c.toNat % 64) 64 ha64
      have hb2 : be (t.take k) (c.toNat % 64) < 18014398509481984 := by
        rw [List.length_take, Nat.min_eq_left (by omega)] at hb1
        have : (256 : Nat) ^ k ≤ 256 ^ 6 := Nat.pow_le_pow_right (by omega) (by omega)
        have e6 : (256 : Nat) ^ 6 = 281474976710656 := by decide
        omega
      have hs : Hid (be (t.take (k + 1)) (c.toNat % 64) = be (t.take k) (c.toNat % 64) * 256 + t[k].toNat) := be_take t k (c.toNat % 64) hkt
      have hcl : t[k].toNat < 256 := t[k].toNat_lt
      have hor := or_i64_join (be (t.take k) (c.toNat % 64) : Nat) (t[k].toNat) (by omega) (by omega) (by omega) (by omega)
      obtain ⟨x, hx⟩ : ∃ x : Nat, x = be (t.take k) (c.toNat % 64) := ⟨_, rfl⟩
      rw [← hx] at hb2 hs hor ⊢
      clear hx hb1
      go_wp2_with fail
      go_round
      case rel => exact ⟨k + 1, by omega, by go_num, by rw [hs.out]; go_num⟩
      case measure => simp [intOf]; omega
    · obtain rfl : k = 7 := by omega
      have hb3 : be t (c.toNat % 64) ≤ 4611686018427387903 := by omega
      have htk : t.take 7 = t := List.take_of_length_le hn1
      rw [htk]
      clear htk
      have hb0 : (0 : Int) ≤ (be t (c.toNat % 64) : Nat) := by omega
      have hb3' : ((be t (c.toNat % 64) : Nat) : Int) ≤ 4611686018427387903 := by omega
      obtain ⟨v, hv⟩ : ∃ v : Int, v = (be t (c.toNat % 64) : Nat) := ⟨_, rfl⟩
      rw [← hv] at hb0 hb3' R ⊢
      clear hv hlt hb3
      by_cases hlow : v < 1073741824
      · have RR : Hid (rNum most (c :: l, 0) = (0, (d, 3))) := by show _ = _; rw [R.out, if_pos (by simp [lowB]; omega)]
        clear R
        go_wp2_with (go_at_call 155; refine (bounds_calls _).mono ?_; rintro e w' ⟨rfl, rfl⟩)
        go_returns
        rw [RR.out]
        refine ⟨rfl, ?_, ?_⟩
        · exact Blk.alloc (Blk.set h1 1 (.int .i64 3)) _
        · exact grown_alloc (grown_set hg _ _) _
      by_cases hmost : most < v
      · have RR : Hid (rNum most (c :: l, 0) = (0, (d, 5))) := by show _ = _; rw [R.out, if_neg (by simp [lowB]; omega), if_pos hmost]
        clear R
        go_wp2_with (go_at_call 155; refine (bounds_calls _).mono ?_; rintro e w' ⟨rfl, rfl⟩)
        go_returns
        rw [RR.out]
        refine ⟨rfl, ?_, ?_⟩
        · exact Blk.alloc (Blk.set h1 1 (.int .i64 5)) _
        · exact grown_alloc (grown_set hg _ _) _
      · have RR : Hid (rNum most (c :: l, 0) = (v, (d, 0))) := by show _ = _; rw [R.out, if_neg (by simp [lowB]; omega), if_neg hmost]
        clear R
        go_wp2_with (go_at_call 155; refine (bounds_calls _).mono ?_; rintro e w' ⟨rfl, rfl⟩)
        go_returns
        rw [RR.out]
        exact ⟨rfl, Blk.alloc h1 _, grown_alloc hg _⟩

theorem RNum_calls (b : Nat) (s : List UInt8 × Int) (most : Int) (w : World) (h : ReaderIs w b s) (hm : s.1.length ≤ 1099511627776) :
    Calls Try.prog 118 #[.pointer (some ⟨b, 0, none⟩), .int .i64 most] w fun e w' => e = .returned (.int .i64 (rNum most s).1) ∧ ReaderIs w' b (rNum most s).2 ∧ w.grownBy w' (some b) := by
  obtain ⟨l, err⟩ := s
  by_cases he : err = 0
  · subst he
    cases l with
    | nil =>
      have hc0 := h.cell 0 _ rfl
      have hc1 := h.cell 1 _ rfl
      have hf1 := h.free 1
      go_enter Try.func118, Try.ntmps118
      go_wp2
      go_returns
      exact ⟨rfl, Blk.set h 1 _, grown_set (World.grownBy.refl _ _) _ _⟩
    | cons c l =>
      have hc : c.toNat < 256 := c.toNat_lt
      by_cases hs : l.length + 1 < 2 ^ (c.toNat / 64)
      · have R : Hid (rNum most (c :: l, 0) = (0, (c :: l, 2))) := by show _ = _; simp [rNum, hs]
        have hc0 := h.cell 0 _ rfl
        have hc1 := h.cell 1 _ rfl
        obtain ⟨K, hK⟩ : ∃ K, K = c.toNat / 64 := ⟨_, rfl⟩
        have hK4 : K < 4 := by omega
        rw [← hK] at hs
        have hs' : ((l.length : Int) + 1) < ((2 ^ K : Nat) : Int) := by omega
        have hp : ((2 ^ K : Nat) : Int) = 2 ^ K := by simp
        have hw : wrap64 (2 ^ K) = ((2 ^ K : Nat) : Int) := by
          match K, hK4 with
          | 0, _ => unfold wrap64; decide
          | 1, _ => unfold wrap64; decide
          | 2, _ => unfold wrap64; decide
          | 3, _ => unfold wrap64; decide
        have hw' : wrap64 (2 ^ (c.toNat / 64)) = ((2 ^ K : Nat) : Int) := by rw [← hK]; exact hw
        have HW := Lib.hid hw'
        clear hw hw' hp hs hK
        go_enter Try.func118, Try.ntmps118
        go_wp2_with fail
        rw [HW.out]
        refine (takeShort_calls b (c :: l) _ _ h hm (by simpa using hs')).mono ?_
        rintro e w1 ⟨rfl, h1, hg⟩
        go_wp2
        go_returns
        rw [R.out]
        exact ⟨rfl, h1, hg⟩
      · have h4 : c.toNat / 64 = 0 ∨ c.toNat / 64 = 1 ∨ c.toNat / 64 = 2 ∨ c.toNat / 64 = 3 := by omega
        rcases h4 with h4 | h4 | h4 | h4 <;> rw [h4] at hs
        · exact rnum0_calls b c l most w h hm (by omega) (by omega) (by omega)
        · exact rnum1_calls b c l most w h hm (by omega) (by omega) (by omega)
        · exact rnum2_calls b c l most w h hm (by omega) (by omega) (by omega)
        · exact rnum3_calls b c l most w h hm (by omega) (by omega) (by omega)
  · have R : Hid (rNum most (l, err) = (0, (l, err))) := by show _ = _; simp [rNum, he]
    have hc1 := h.cell 1 _ rfl
    have he' : (err != 0) = true := by simp [he]
    go_enter Try.func118, Try.ntmps118
    go_wp2
    go_returns
    rw [R.out]
    exact ⟨rfl, h, World.grownBy.refl _ _⟩
end Go.Proofs.Ytlomofcnknpciaa
