/-
  The document's SHA-256: its small functions. The document's SHA-256: the digest of a text. The document's mac: Code. A number in four bytes: the program's and the document's. A nil book notes nothing; prim.Derive with a nil book. Slices of digests, as they lie in memory. The document's Derive; keys of two: Mix.
-/
import Derived.Test.YtjlpdbaknhbgdaaGreatQSha
import Derived.Test.YtjlpdbaknhbgdaaGreatQBase
set_option linter.unusedSimpArgs false
set_option linter.unusedVariables false
namespace Go.Proofs.YtjlpdbaknhbgdaaGreat
open Go.RowKit

theorem trn2 (x : UInt32) (w : World) : Calls Tryz.prog 164 #[.int .u32 (x.toNat : Int), .int .u64 2] w fun e w' => e = .returned (.int .u32 ((rotr x 2).toNat : Int)) ∧ w = w' := by
  have hx : x.toNat < 4294967296 := x.toNat_lt
  have R := Lib.hid (urot' x 2 (by omega) (by omega))
  go_enter Tryz.func164, Tryz.ntmps164
  go_wp2
  go_returns
  rw [← R.out]; exact ⟨rfl, rfl⟩
theorem trnq2 (x : UInt32) (w : World) (n : Nat) : Calls Tryz.prog 164 #[.int .u32 (x.toNat : Int), .int .u64 2] (w.drewN n) fun e w' => e = .returned (.int .u32 ((rotr x 2).toNat : Int)) ∧ ∃ m, w' = w.drewN m := (trn2 x _).mono fun _ _ ⟨he, hm⟩ => ⟨he, n, hm.symm⟩
theorem trn6 (x : UInt32) (w : World) : Calls Tryz.prog 164 #[.int .u32 (x.toNat : Int), .int .u64 6] w fun e w' => e = .returned (.int .u32 ((rotr x 6).toNat : Int)) ∧ w = w' := by
  have hx : x.toNat < 4294967296 := x.toNat_lt
  have R := Lib.hid (urot' x 6 (by omega) (by omega))
  go_enter Tryz.func164, Tryz.ntmps164
  go_wp2
  go_returns
  rw [← R.out]; exact ⟨rfl, rfl⟩
theorem trnq6 (x : UInt32) (w : World) (n : Nat) : Calls Tryz.prog 164 #[.int .u32 (x.toNat : Int), .int .u64 6] (w.drewN n) fun e w' => e = .returned (.int .u32 ((rotr x 6).toNat : Int)) ∧ ∃ m, w' = w.drewN m := (trn6 x _).mono fun _ _ ⟨he, hm⟩ => ⟨he, n, hm.symm⟩
theorem trn7 (x : UInt32) (w : World) : Calls Tryz.prog 164 #[.int .u32 (x.toNat : Int), .int .u64 7] w fun e w' => e = .returned (.int .u32 ((rotr x 7).toNat : Int)) ∧ w = w' := by
  have hx : x.toNat < 4294967296 := x.toNat_lt
  have R := Lib.hid (urot' x 7 (by omega) (by omega))
  go_enter Tryz.func164, Tryz.ntmps164
  go_wp2
  go_returns
  rw [← R.out]; exact ⟨rfl, rfl⟩
theorem trn7' (x : UInt32) (w : World) : Calls Tryz.prog 164 #[.int .u32 (x.toNat : Int), .int .u64 7] w fun e w' => e = .returned (.int .u32 ((rotr x 7).toNat : Int)) ∧ w' = w := (trn7 x w).mono fun _ _ ⟨he, hm⟩ => ⟨he, hm.symm⟩
theorem trn11 (x : UInt32) (w : World) : Calls Tryz.prog 164 #[.int .u32 (x.toNat : Int), .int .u64 11] w fun e w' => e = .returned (.int .u32 ((rotr x 11).toNat : Int)) ∧ w = w' := by
  have hx : x.toNat < 4294967296 := x.toNat_lt
  have R := Lib.hid (urot' x 11 (by omega) (by omega))
  go_enter Tryz.func164, Tryz.ntmps164
  go_wp2
  go_returns
  rw [← R.out]; exact ⟨rfl, rfl⟩
theorem trnq11 (x : UInt32) (w : World) (n : Nat) : Calls Tryz.prog 164 #[.int .u32 (x.toNat : Int), .int .u64 11] (w.drewN n) fun e w' => e = .returned (.int .u32 ((rotr x 11).toNat : Int)) ∧ ∃ m, w' = w.drewN m := (trn11 x _).mono fun _ _ ⟨he, hm⟩ => ⟨he, n, hm.symm⟩
theorem trn13 (x : UInt32) (w : World) : Calls Tryz.prog 164 #[.int .u32 (x.toNat : Int), .int .u64 13] w fun e w' => e = .returned (.int .u32 ((rotr x 13).toNat : Int)) ∧ w = w' := by
  have hx : x.toNat < 4294967296 := x.toNat_lt
  have R := Lib.hid (urot' x 13 (by omega) (by omega))
  go_enter Tryz.func164, Tryz.ntmps164
  go_wp2
  go_returns
  rw [← R.out]; exact ⟨rfl, rfl⟩
theorem trnq13 (x : UInt32) (w : World) (n : Nat) : Calls Tryz.prog 164 #[.int .u32 (x.toNat : Int), .int .u64 13] (w.drewN n) fun e w' => e = .returned (.int .u32 ((rotr x 13).toNat : Int)) ∧ ∃ m, w' = w.drewN m := (trn13 x _).mono fun _ _ ⟨he, hm⟩ => ⟨he, n, hm.symm⟩
theorem trn17 (x : UInt32) (w : World) : Calls Tryz.prog 164 #[.int .u32 (x.toNat : Int), .int .u64 17] w fun e w' => e = .returned (.int .u32 ((rotr x 17).toNat : Int)) ∧ w = w' := by
  have hx : x.toNat < 4294967296 := x.toNat_lt
  have R := Lib.hid (urot' x 17 (by omega) (by omega))
  go_enter Tryz.func164, Tryz.ntmps164
  go_wp2
  go_returns
  rw [← R.out]; exact ⟨rfl, rfl⟩
theorem trn17' (x : UInt32) (w : World) : Calls Tryz.prog 164 #[.int .u32 (x.toNat : Int), .int .u64 17] w fun e w' => e = .returned (.int .u32 ((rotr x 17).toNat : Int)) ∧ w' = w := (trn17 x w).mono fun _ _ ⟨he, hm⟩ => ⟨he, hm.symm⟩
theorem trn18 (x : UInt32) (w : World) : Calls Tryz.prog 164 #[.int .u32 (x.toNat : Int), .int .u64 18] w fun e w' => e = .returned (.int .u32 ((rotr x 18).toNat : Int)) ∧ w = w' := by
  have hx : x.toNat < 4294967296 := x.toNat_lt
  have R := Lib.hid (urot' x 18 (by omega) (by omega))
  go_enter Tryz.func164, Tryz.ntmps164
  go_wp2
  go_returns
  rw [← R.out]; exact ⟨rfl, rfl⟩
theorem trn18' (x : UInt32) (w : World) : Calls Tryz.prog 164 #[.int .u32 (x.toNat : Int), .int .u64 18] w fun e w' => e = .returned (.int .u32 ((rotr x 18).toNat : Int)) ∧ w' = w := (trn18 x w).mono fun _ _ ⟨he, hm⟩ => ⟨he, hm.symm⟩
theorem trn19 (x : UInt32) (w : World) : Calls Tryz.prog 164 #[.int .u32 (x.toNat : Int), .int .u64 19] w fun e w' => e = .returned (.int .u32 ((rotr x 19).toNat : Int)) ∧ w = w' := by
  have hx : x.toNat < 4294967296 := x.toNat_lt
  have R := Lib.hid (urot' x 19 (by omega) (by omega))
  go_enter Tryz.func164, Tryz.ntmps164
  go_wp2
  go_returns
  rw [← R.out]; exact ⟨rfl, rfl⟩
theorem trn19' (x : UInt32) (w : World) : Calls Tryz.prog 164 #[.int .u32 (x.toNat : Int), .int .u64 19] w fun e w' => e = .returned (.int .u32 ((rotr x 19).toNat : Int)) ∧ w' = w := (trn19 x w).mono fun _ _ ⟨he, hm⟩ => ⟨he, hm.symm⟩
theorem trn22 (x : UInt32) (w : World) : Calls Tryz.prog 164 #[.int .u32 (x.toNat : Int), .int .u64 22] w fun e w' => e = .returned (.int .u32 ((rotr x 22).toNat : Int)) ∧ w = w' := by
  have hx : x.toNat < 4294967296 := x.toNat_lt
  have R := Lib.hid (urot' x 22 (by omega) (by omega))
  go_enter Tryz.func164, Tryz.ntmps164
  go_wp2
  go_returns
  rw [← R.out]; exact ⟨rfl, rfl⟩
theorem trnq22 (x : UInt32) (w : World) (n : Nat) : Calls Tryz.prog 164 #[.int .u32 (x.toNat : Int), .int .u64 22] (w.drewN n) fun e w' => e = .returned (.int .u32 ((rotr x 22).toNat : Int)) ∧ ∃ m, w' = w.drewN m := (trn22 x _).mono fun _ _ ⟨he, hm⟩ => ⟨he, n, hm.symm⟩
theorem trn25 (x : UInt32) (w : World) : Calls Tryz.prog 164 #[.int .u32 (x.toNat : Int), .int .u64 25] w fun e w' => e = .returned (.int .u32 ((rotr x 25).toNat : Int)) ∧ w = w' := by
  have hx : x.toNat < 4294967296 := x.toNat_lt
  have R := Lib.hid (urot' x 25 (by omega) (by omega))
  go_enter Tryz.func164, Tryz.ntmps164
  go_wp2
  go_returns
  rw [← R.out]; exact ⟨rfl, rfl⟩
theorem trnq25 (x : UInt32) (w : World) (n : Nat) : Calls Tryz.prog 164 #[.int .u32 (x.toNat : Int), .int .u64 25] (w.drewN n) fun e w' => e = .returned (.int .u32 ((rotr x 25).toNat : Int)) ∧ ∃ m, w' = w.drewN m := (trn25 x _).mono fun _ _ ⟨he, hm⟩ => ⟨he, n, hm.symm⟩

theorem word_calls (g len cap i : Nat) (c0 c1 c2 c3 : UInt8) (w : World) (hi : i + 4 ≤ len) (hl : len ≤ 1099511627776) (h0 : w.cell? ⟨g, i, none⟩ = some (bv c0)) (h1 : w.cell? ⟨g, i + 1, none⟩ = some (bv c1)) (h2 : w.cell? ⟨g, i + 2, none⟩ = some (bv c2)) (h3 : w.cell? ⟨g, i + 3, none⟩ = some (bv c3)) :
    Calls Tryz.prog 163 #[.slice (some ⟨g, 0, none⟩) len cap, .int .i64 i] w fun e w' => e = .returned (.int .u32 ((word4 c0 c1 c2 c3).toNat : Int)) ∧ ∃ n, w' = w.drewN n := by
  have l0 := c0.toNat_lt
  have l1 := c1.toNat_lt
  have l2 := c2.toNat_lt
  have l3 := c3.toNat_lt
  have R := Lib.hid (uword c0 c1 c2 c3)
  unfold bv at h0 h1 h2 h3
  go_enter Tryz.func163, Tryz.ntmps163
  go_wp2_with fail
  go_quiet (fail)
  go_wp2_with fail
  go_returns
  rw [R.out]
  exact ⟨rfl, _, rfl⟩

def sliceLen : Value → Nat
  | .slice _ n _ => n
  | _ => 0
/-- What the document's padding is, byte by byte. -/
def padZ (n : Nat) : Nat := 63 - (n + 8) % 64
theorem tailS_eq (n : Nat) : tailS n = (128 :: List.replicate (padZ n) 0) ++ be8 (n * 8) := rfl
theorem be8_len (n : Nat) : (be8 n).length = 8 := by simp [be8]
theorem be8_take (n k : Nat) (h : k < 8) : (be8 n).take (k + 1) = (be8 n).take k ++ [UInt8.ofNat (n / 2 ^ (56 - 8 * k))] := by
  rw [List.take_succ_eq_append_getElem (by rw [be8_len]; exact h)]
  simp [be8]
end Go.Proofs.YtjlpdbaknhbgdaaGreat
set_option linter.unusedSimpArgs false
set_option linter.unusedVariables false
namespace Go.Proofs.YtjlpdbaknhbgdaaGreat
open Go.RowKit

theorem Tryz.sizeS8 : (Tryz.prog.info? 254).map (·.size) = some 8 := by kernel_rfl
abbrev Z8u : Array Value := #[.int .u32 0, .int .u32 0, .int .u32 0, .int .u32 0, .int .u32 0, .int .u32 0, .int .u32 0, .int .u32 0]

set_option maxHeartbeats 4000000 in
set_option maxRecDepth 100000 in
theorem RefSum_calls (t : List UInt8) (w : World) (hl : t.length ≤ 549755813888) :
    Calls Tryz.prog 99 #[.string (str t)] w fun e w' => e = .returned (.agg ((sha t).map bv).toArray) ∧ Below w.heap.size w w' := by
  obtain ⟨i8, hi8, hz0, hz1, hz2⟩ := info_parts Tryz.infoU8
  have HI := Lib.hid hi8
  have HZ0 := Lib.hid hz0
  have HZ1 := Lib.hid hz1
  have HZ2 := Lib.hid hz2
  clear hi8 hz0 hz1 hz2
  have hconv := fun W => Lib.run_convert_string_bytes (P := Tryz.prog) W 9 48 5 (str t) Tryz.underlying9 Tryz.underlying48 Tryz.underlying5
  have hR0 := (Blk.new w Z32 22).alloc (.cells Z64u 255)
  have hK0 : Blk ((w.alloc (.cells Z32 22)).alloc (.cells Z64u 255)) (w.heap.size + 1) Z64u 255 := by have := Blk.new (w.alloc (.cells Z32 22)) Z64u 255; rwa [show (w.alloc (.cells Z32 22)).heap.size = w.heap.size + 1 by simp] at this
  have hB0 : Below w.heap.size w ((w.alloc (.cells Z32 22)).alloc (.cells Z64u 255)) := ((Below.refl _ _).alloc (Nat.le_refl _) _).alloc (by simp) _
  go_enter Tryz.func99, Tryz.ntmps99
  go_wp2_with (first | ((with_reducible show wpList _ _ _ (⟨some 23, _, _, _, _, _⟩ :: _) _ _); refine wpList_build rfl 255 _ rfl (shaK.map uv).toArray (by kernel_rfl) ?_) | ((with_reducible show wpList _ _ _ (⟨none, Op.store _ (.tmp 3) _, _, _, _, _⟩ :: _) _ _); refine wpList_storeBlk rfl 255 (.tmp 3) (.tmp 23) rfl (w.heap.size + 1) (shaK.map uv).toArray (by rfl) (by rfl) _ _ hK0 Tryz.sizeK (by rfl) (uv_all _) ?_; intro w1 hK1 g1; have hR1 := Blk.grown hR0 g1 (by simp); have hB1 := below_new hB0 g1 (by omega) (by simp; omega); have hs1 := g1.size;  clear hK0 hR0 hB0 g1) | ((with_reducible show wpList _ _ _ (⟨some 28, _, _, _, _, _⟩ :: _) _ _); refine wpList_append_byte _ rfl _ _ 48 rfl 5 i8 (.int .u8 0) Tryz.underlying48 HI.out HZ0.out HZ1.out HZ2.out rfl w1.heap.size _ t (by rfl) ((OwnM.conv w1 5 t).alloc _) (by omega) (by simp [Lib.bytesWorld_size]; omega) (Lib.bytesWorld w1 5 (str t)).heap.size 1 128 (by rfl) ((Blk.new _ _ _).cell 0 _ rfl) ?_; intro v2 w2 hO2 g2; have hB2 : Below w1.heap.size w1 w2 := ((OwnM.conv_below w1 5 t).alloc (by rw [Lib.bytesWorld_size]; omega) _).grown g2 (by simp [Lib.bytesWorld_size]; omega) (fun k hk => by cases hk; exact Nat.le_refl _); clear g2 hconv))
  obtain ⟨n, hn⟩ : ∃ n, n = t.length := ⟨_, rfl⟩
  have hn40 : n ≤ 549755813888 := by omega
  have HN := Lib.hid hn
  have hZ63 : padZ n ≤ 63 := by unfold padZ; omega
  have HPZ : Hid (∀ z, z ≤ padZ n → ((n + 1 + z) % 64 = 56 ↔ z = padZ n)) := by intro z hz; unfold padZ at hz ⊢; omega
  have HO2 := Lib.hid hO2
  have HB2 := Lib.hid hB2
  have HK1 := Lib.hid hK1
  have HR1 := Lib.hid hR1
  have HB1 := Lib.hid hB1
  clear hn hO2 hB2 hK1 hR1 hB1 hs1
  go_loopw [4] (fun x wr => ∃ (z : Nat) (v : Value), z ≤ padZ n ∧ x = v ∧ Hid (OwnM w1.heap.size 5 wr v (t ++ 128 :: List.replicate z 0)) ∧ Hid (Below w1.heap.size w1 wr)) (fun x _ => n + 100 - sliceLen x)
  case atStart => exact ⟨0, v2, by omega, rfl, HO2.out, HB2⟩
  case round =>
    obtain ⟨z, v, hz, rfl, hO, hbel⟩ := hrel
    clear HO2 HB2
    obtain ⟨g, cap, hv, hg0, hg1, hcap, hrd⟩ := hO.out.read
    obtain ⟨L, hL⟩ : ∃ L, L = (t ++ 128 :: List.replicate z 0).length := ⟨_, rfl⟩
    have hLn : L = n + 1 + z := by rw [hL, HN.out]; simp; omega
    rw [← hL] at hv
    subst hv
    have HL := Lib.hid hL
    have hLb : L ≤ 1099511627776 := by omega
    have HLn := Lib.hid hLn
    clear hrd hL hcap
    by_cases hzz : z = padZ n
    · have hm : (L : Int) % 64 = 56 := by have := (HPZ.out z hz).2 hzz; omega
      clear hLn
      subst hzz
      go_wp2_with fail
      obtain ⟨wo, rfl⟩ : ∃ wo : World, wo = wr := ⟨_, rfl⟩
      have HO5 : Hid (OwnM w1.heap.size 5 wo (.slice (some ⟨g, 0, none⟩) L cap) (t ++ 128 :: List.replicate (padZ n) 0 ++ (be8 (n * 8)).take 0)) := by show OwnM _ _ _ _ _; rw [List.take_zero, List.append_nil]; exact hO.out
      have HB5 := hbel
      clear hO hbel HL HLn hLb hm
      go_loopw [4, 6] (fun x j wr => ∃ (k : Nat) (v : Value), k ≤ 8 ∧ j = .int .i64 k ∧ x = v ∧ Hid (OwnM w1.heap.size 5 wr v (t ++ 128 :: List.replicate (padZ n) 0 ++ (be8 (n * 8)).take k)) ∧ Hid (Below w1.heap.size w1 wr)) (fun _ j _ => 8 - (intOf j).toNat)
      case atStart => exact ⟨0, _, by omega, rfl, rfl, HO5.out, HB5⟩
      case round =>
        obtain ⟨k, v, hk, rfl, rfl, hO, hbel⟩ := hrel
        clear HO5 HB5
        obtain ⟨g, cap, hv, hg0, hg1, hcap, hrd⟩ := hO.out.read
        obtain ⟨L, hL⟩ : ∃ L, L = (t ++ 128 :: List.replicate (padZ n) 0 ++ (be8 (n * 8)).take k).length := ⟨_, rfl⟩
        have hLn : L = n + 1 + padZ n + k := by rw [hL, HN.out]; simp [be8_len]; omega
        rw [← hL] at hv
        subst hv
        have HL := Lib.hid hL
        have hLb : L ≤ 1099511627776 := by omega
        have HLn := Lib.hid hLn
        have HRD := Lib.hid hrd
        clear hL hcap hrd hLn
        have hws : w1.heap.size ≤ wr.heap.size := hbel.out.size
        by_cases hlt8 : k < 8
        · have hval : Value.int .u8 ((t.length : Int) * 8 / 2 ^ (56 - 8 * k) % 256) = bv (UInt8.ofNat (n * 8 / 2 ^ (56 - 8 * k))) := by
            rw [← HN.out]; unfold bv; congr 1 <;> (rw [UInt8.toNat_ofNat']; simp)
          have HV := Lib.hid hval
          clear hval
          go_wp2_with ((with_reducible show wpList _ _ _ (⟨some 53, _, _, _, _, _⟩ :: _) _ _); refine wpList_append_byte _ rfl _ _ 48 rfl 5 i8 (.int .u8 0) Tryz.underlying48 HI.out HZ0.out HZ1.out HZ2.out rfl w1.heap.size _ (t ++ 128 :: List.replicate (padZ n) 0 ++ (be8 (n * 8)).take k) (by rfl) (hO.out.alloc _) (by rw [← HL.out]; exact hLb) (by simp; omega) wr.heap.size 1 (UInt8.ofNat (n * 8 / 2 ^ (56 - 8 * k))) (by rfl) (by rw [← HV.out]; exact (Blk.new _ _ _).cell 0 _ rfl) ?_)
          intro v3 w3 hO3 g3
          have hB3 : Hid (Below w1.heap.size w1 w3) := (hbel.out.alloc hws _).grown g3 (by simp; omega) (fun k hk => by cases hk; exact hg0)
          have HO3 : Hid (OwnM w1.heap.size 5 w3 v3 (t ++ 128 :: List.replicate (padZ n) 0 ++ (be8 (n * 8)).take (k + 1))) := by
            show OwnM _ _ _ _ _
            rw [be8_take _ _ hlt8]; simpa only [List.append_assoc, List.cons_append] using hO3
          clear hO3 g3
          go_wp2_with fail
          go_roundw
          case rel => exact ⟨k + 1, v3, by omega, by go_num, rfl, HO3, hB3⟩
          case measure => simp [intOf]; omega
        · obtain rfl : k = 8 := by omega
          have e8 : t ++ 128 :: List.replicate (padZ n) 0 ++ (be8 (n * 8)).take 8 = t ++ tailS n := by
            rw [List.take_of_length_le (by rw [be8_len]; omega), tailS_eq, List.append_assoc]
          have hML : (t ++ tailS n).length = L := by rw [← e8]; exact HL.out.symm
          have hMR : ∀ j, j < L → wr.cell? ⟨g, j, none⟩ = some (bv ((t ++ tailS n).getD j 0)) := by
            intro j hj
            have h1 := HRD.out
            rw [e8] at h1
            rw [h1 j (by rw [hML]; exact hj), List.getD_eq_getElem?_getD, List.getElem?_eq_getElem (by rw [hML]; exact hj)]; rfl
          have hL64 : Hid (L = 64 * ((n + 72) / 64)) := by show _ = _; rw [HLn.out]; unfold padZ; omega
          obtain ⟨M, hM⟩ : ∃ M, M = t ++ tailS n := ⟨_, rfl⟩
          rw [← hM] at hML hMR
          have HM := Lib.hid hM
          have HML := Lib.hid hML
          have HMR := Lib.hid hMR
          obtain ⟨V, hV⟩ : ∃ V, V = wr.heap.size := ⟨_, rfl⟩
          have hgV : g < V := by rw [hV]; exact hg1
          have hRV : w.heap.size + 1 < V := by rw [hV]; have h1 := Blk.lt HK1.out; omega
          have hRR := Lib.hid (Blk.below HR1.out hbel.out (Blk.lt HR1.out))
          have hKK := Lib.hid (Blk.below HK1.out hbel.out (Blk.lt HK1.out))
          have hBB : Hid (Below w.heap.size w wr) := HB1.out.trans (hbel.out.mono HB1.out.size)
          have hVB := Blk.new wr (s0.list.map uv).toArray 254
          have hBV : Below wr.heap.size wr (wr.alloc (.cells (s0.list.map uv).toArray 254)) := (Below.refl _ _).alloc (Nat.le_refl _) _
          clear e8 hM hML hMR HRD HL hO hbel hws HPZ HI HZ0 HZ1 HZ2 HR1 HK1 HB1 hg0 hg1
          go_wp2_with fail
          simp only [Int.cast_ofNat_Int]
          obtain ⟨W0, hW0⟩ : ∃ W0, W0 = wr.alloc (.cells (s0.list.map uv).toArray 254) := ⟨_, rfl⟩
          have hW0' : wr.alloc (.cells #[.int .u32 1779033703, .int .u32 3144134277, .int .u32 1013904242, .int .u32 2773480762, .int .u32 1359893119, .int .u32 2600822924, .int .u32 528734635, .int .u32 1541459225] 254) = W0 := by rw [hW0]; rfl
          rw [hW0']
          rw [← hW0] at hVB hBV
          rw [← hV] at hVB hBV ⊢
          have HVB := Lib.hid hVB
          have HBV := Lib.hid hBV
          obtain ⟨wm, rfl⟩ : ∃ wm : World, wm = wr := ⟨_, rfl⟩
          clear hW0 hW0' hV hVB hBV
          go_loopw [8, 9, 10, 11, 12, 13, 14, 15, 16, 17, 18, 19, 20] (fun x _ _ _ _ _ _ _ _ _ _ _ _ wr => ∃ q a : Nat, a ≤ L ∧ x = .int .i64 a ∧ Hid (a = 64 * q) ∧ Hid (Blk wr V ((blocksS q M s0).list.map uv).toArray 254) ∧ Hid (Below V W0 wr)) (fun x _ _ _ _ _ _ _ _ _ _ _ _ _ => L - (intOf x).toNat)
          case atStart => exact ⟨0, 0, by omega, rfl, rfl, HVB.out, Below.refl _ _⟩
          case round =>
            obtain ⟨q, a, ha, rfl, hq, hVB, hbv⟩ := hrel
            clear HVB
            by_cases hltL : a < L
            · have ha64 : a + 64 ≤ L := by have := hq.out; have := hL64.out; omega
              obtain ⟨blk, hblk⟩ : ∃ blk, blk = (M.drop (64 * q)).take 64 := ⟨_, rfl⟩
              have hbl : blk.length = 64 := by rw [hblk, List.length_take, List.length_drop, HML.out]; have := hq.out; omega
              have hby : Hid (∀ j, j < 64 → wm.cell? ⟨g, a + j, none⟩ = some (bv (blk.getD j 0))) := by
                intro j hj
                rw [HMR.out (a + j) (by omega), hblk, List.getD_eq_getElem?_getD, List.getD_eq_getElem?_getD, List.getElem?_take_of_lt hj, List.getElem?_drop, hq.out]
              have HBK := Lib.hid hblk
              have HBL := Lib.hid hbl
              obtain ⟨S, hS⟩ : ∃ S, S = blocksS q M s0 := ⟨_, rfl⟩
              rw [← hS] at hVB
              have HS := Lib.hid hS
              clear hblk hbl hS
              have hVw : V < wr.heap.size := Blk.lt hVB.out
              go_wp2_with fail
              obtain ⟨C, hC⟩ : ∃ C, C = wr.heap.size := ⟨_, rfl⟩
              have hN := Blk.new wr Z64u 255
              have hVB2 := Blk.alloc hVB.out (.cells Z64u 255)
              have hbv2 : Below V W0 (wr.alloc (.cells Z64u 255)) := hbv.out.alloc (by omega) _
              rw [← hC] at hN hVw ⊢
              obtain ⟨W1, hW1⟩ : ∃ W1, W1 = wr.alloc (.cells Z64u 255) := ⟨_, rfl⟩
              rw [← hW1] at hN hVB2 hbv2 ⊢
              rw [Z64u_eq] at hN
              have H1 := Lib.hid hN
              have H2 := Lib.hid hVB2
              have H3 := Lib.hid hbv2
              clear hC hW1 hN hVB2 hbv2 hVB hbv
              obtain ⟨wx, rfl⟩ : ∃ wx : World, wx = wr := ⟨_, rfl⟩
              go_loopw [10] (fun i wr => ∃ k : Nat, k ≤ 16 ∧ i = .int .i64 k ∧ Blk wr C (fillU 64 (w16 blk k)) 255 ∧ Hid (Blk wr V (S.list.map uv).toArray 254) ∧ Hid (Below V W0 wr)) (fun i _ => 16 - (intOf i).toNat)
              case atStart => exact ⟨0, by omega, rfl, H1.out, H2, H3⟩
              case round =>
                obtain ⟨k, hk, rfl, hA, hVB, hbv⟩ := hrel
                clear H1 H2 H3
                by_cases hlt : k < 16
                · have hrd : ∀ j, j < 64 → wr.cell? ⟨g, a + j, none⟩ = some (bv (blk.getD j 0)) := fun j hj => (hbv.out.cell (p := ⟨g, a + j, none⟩) hgV).trans ((HBV.out.cell (p := ⟨g, a + j, none⟩) hgV).trans (hby.out j hj))
                  have hc0 := hrd (4 * k) (by omega)
                  have hc1 := hrd (4 * k + 1) (by omega)
                  have hc2 := hrd (4 * k + 2) (by omega)
                  have hc3 := hrd (4 * k + 3) (by omega)
                  rw [← Nat.add_assoc] at hc1 hc2 hc3
                  have hw16 : Hid (w16 blk (k + 1) = w16 blk k ++ [word4 (blk.getD (4 * k) 0) (blk.getD (4 * k + 1) 0) (blk.getD (4 * k + 2) 0) (blk.getD (4 * k + 3) 0)]) := w16_succ blk k
                  generalize blk.getD (4 * k) 0 = c0 at hc0 hw16
                  generalize blk.getD (4 * k + 1) 0 = c1 at hc1 hw16
                  generalize blk.getD (4 * k + 2) 0 = c2 at hc2 hw16
                  generalize blk.getD (4 * k + 3) 0 = c3 at hc3 hw16
                  have HC0 := Lib.hid hc0
                  have HC1 := Lib.hid hc1
                  have HC2 := Lib.hid hc2
                  have HC3 := Lib.hid hc3
                  have hA0 := hA.cell k _ (by have := fillU_get0 64 (w16 blk k) (by rw [w16_len]; omega); rwa [w16_len] at this)
                  have hAf := hA.free k
                  clear hrd hc0 hc1 hc2 hc3
                  go_wp2_with fail
                  rw [show ((a : Int) + 4 * (k : Int)) = ((a + 4 * k : Nat) : Int) by omega]
                  refine (word_calls g L cap (a + 4 * k) c0 c1 c2 c3 _ (by omega) hLb HC0.out HC1.out HC2.out HC3.out).mono ?_
                  rintro e w9 ⟨rfl, nd, rfl⟩
                  go_wp2_with fail
                  go_roundw
                  case rel =>
                    refine ⟨k + 1, by omega, by go_num, ?_, Blk.setOther (Blk.drewN hVB.out _) _ _ (by simp; omega), below_new (below_drewN hbv.out _) (grown_set (World.grownBy.refl _ (some C)) k _) (by omega) (by simpa using (Nat.le_trans (Nat.le_of_lt hVw) (Nat.le_of_lt (Blk.lt hA))))⟩
                    rw [hw16.out]
                    have h1 := (Blk.drewN hA nd).set k (uv (word4 c0 c1 c2 c3))
                    have h2 := fillU_set 64 (w16 blk k) (word4 c0 c1 c2 c3) (by rw [w16_len]; omega)
                    rw [w16_len] at h2
                    rw [h2] at h1
                    exact h1
                  case measure => simp [intOf]; omega
                · obtain rfl : k = 16 := by omega
                  have HA5 : Hid (Blk wr C (fillU 64 (wl (w16 blk 16) 0)) 255) := hA
                  clear hA
                  go_wp2_with fail
                  simp only [Int.cast_ofNat_Int]
                  obtain ⟨wy, rfl⟩ : ∃ wy : World, wy = wr := ⟨_, rfl⟩
                  go_loopw [11, 12, 13] (fun i _ _ wr => ∃ k j : Nat, k ≤ 48 ∧ 16 ≤ j ∧ j ≤ 64 ∧ i = .int .i64 j ∧ Hid (j = 16 + k) ∧ Blk wr C (fillU 64 (wl (w16 blk 16) k)) 255 ∧ Hid (Blk wr V (S.list.map uv).toArray 254) ∧ Hid (Below V W0 wr)) (fun i _ _ _ => 64 - (intOf i).toNat)
                  case atStart => exact ⟨0, 16, by omega, by omega, by omega, rfl, rfl, HA5.out, hVB, hbv⟩
                  case round =>
                    obtain ⟨k, j, hk, hj0, hj1, rfl, HJ, hA, hVB, hbv⟩ := hrel
                    clear HA5
                    have HLEN : Hid ((wl (w16 blk 16) k).length = j) := by show _ = _; rw [wl_len, w16_len]; exact HJ.out.symm
                    by_cases hlt : j < 64
                    · have hnx : Hid (wl (w16 blk 16) (k + 1) = wl (w16 blk 16) k ++ [wnext (wl (w16 blk 16) k)]) := rfl
                      generalize wl (w16 blk 16) k = l at hA HLEN hnx
                      have hw15 := hA.cell (j - 15) _ (fillU_get 64 l (j - 15) (by have := HLEN.out; omega))
                      have hw2 := hA.cell (j - 2) _ (fillU_get 64 l (j - 2) (by have := HLEN.out; omega))
                      have hw16 := hA.cell (j - 16) _ (fillU_get 64 l (j - 16) (by have := HLEN.out; omega))
                      have hw7 := hA.cell (j - 7) _ (fillU_get 64 l (j - 7) (by have := HLEN.out; omega))
                      have hwj := hA.cell j _ (by have h1 := fillU_get0 64 l (by have := HLEN.out; omega); rw [HLEN.out] at h1; exact h1)
                      have hfj := hA.free j
                      have HNX : Hid (wnext l = l.getD (j - 16) 0 + l.getD (j - 7) 0 + (rotr (l.getD (j - 15) 0) 7 ^^^ rotr (l.getD (j - 15) 0) 18 ^^^ (l.getD (j - 15) 0 >>> 3)) + (rotr (l.getD (j - 2) 0) 17 ^^^ rotr (l.getD (j - 2) 0) 19 ^^^ (l.getD (j - 2) 0 >>> 10))) := by show _ = _; rw [← HLEN.out]; rfl
                      generalize l.getD (j - 15) 0 = x at hw15 HNX
                      generalize l.getD (j - 2) 0 = y at hw2 HNX
                      generalize l.getD (j - 16) 0 = x16 at hw16 HNX
                      generalize l.getD (j - 7) 0 = x7 at hw7 HNX
                      unfold uv at hw15 hw2 hw16 hw7 hwj
                      have HI := Lib.hid (wnext_int x16 x7 x y)
                      go_wp2_with fail
                      refine wp_still_store 29 (by kernel_rfl) (by kernel_rfl) ?_
                      simp only [List.take_succ_cons, List.take_zero, List.drop_succ_cons, List.drop_zero]
                      repeat (first | go_big_quiet_skip | (go_big_quiet_want; go_big_quiet_op; first | go_big_quiet_on | (apply Exists.intro; apply And.intro; (first | (with_reducible exact trn7' _ _) | (with_reducible exact trn18' _ _) | (with_reducible exact trn17' _ _) | (with_reducible exact trn19' _ _)); go_big_quiet_on)))
                      refine wpQuiet_nil ?_
                      go_wp2_with fail
                      go_roundw
                      case rel =>
                        rw [HI.out]
                        refine ⟨k + 1, j + 1, by have := HJ.out; omega, by omega, by omega, by go_num, by show _ = _; have := HJ.out; omega, ?_, Blk.drew (Blk.setOther hVB.out _ _ (by simp; omega)), ?_⟩
                        · rw [hnx.out, HNX.out]
                          have h1 := hA.set j (uv (x16 + x7 + (rotr x 7 ^^^ rotr x 18 ^^^ (x >>> 3)) + (rotr y 17 ^^^ rotr y 19 ^^^ (y >>> 10))))
                          have h2 := fillU_set 64 l (x16 + x7 + (rotr x 7 ^^^ rotr x 18 ^^^ (x >>> 3)) + (rotr y 17 ^^^ rotr y 19 ^^^ (y >>> 10))) (by have := HLEN.out; omega)
                          rw [HLEN.out] at h2
                          rw [h2] at h1
                          exact Blk.drew h1
                        · exact below_new hbv.out (grown_drew (grown_set (World.grownBy.refl _ (some C)) j _)) (by omega) (Nat.le_trans (Nat.le_of_lt hVw) (Nat.le_of_lt (Blk.lt hA)))
                      case measure => simp [intOf]; omega
                    · obtain rfl : j = 64 := by omega
                      have hk48 : k = 48 := by have := HJ.out; omega
                      rw [hk48] at hA
                      rw [← sched_wl] at hA
                      clear hk48
                      obtain ⟨sc, hsc⟩ : ∃ sc, sc = sched blk := ⟨_, rfl⟩
                      have hsl : sc.length = 64 := by rw [hsc, sched_wl, wl_len, w16_len]
                      rw [← hsc] at hA
                      have HSC := Lib.hid hsc
                      have HSL := Lib.hid hsl
                      obtain ⟨Z, hZ⟩ : ∃ Z, Z = shaK.zip sc := ⟨_, rfl⟩
                      have HZ := Lib.hid hZ
                      clear hZ hsc hsl
                      have hVD : V < wr.heap.size := Blk.lt hVB.out
                      obtain ⟨D, hD⟩ : ∃ D, D = wr.heap.size := ⟨_, rfl⟩
                      have hCD : C < D := by rw [hD]; exact Blk.lt hA
                      have hZ8 := Blk.new wr Z8u 254
                      have hDs : Hid (wr.heap.size ≤ D) := Nat.le_of_eq hD.symm
                      go_wp2_with (first | ((with_reducible show wpList _ _ _ (⟨some 114, _, _, _, _, _⟩ :: _) _ _); refine wpList_loadBlk rfl 254 (.tmp 7) rfl V (by rfl) _ _ _ hVB.out Tryz.underlying254 rfl Tryz.sizeS8 ?_) | ((with_reducible show wpList _ _ _ (⟨none, Op.store _ (.tmp 14) _, _, _, _, _⟩ :: _) _ _); refine wpList_storeBlk rfl 254 (.tmp 14) (.tmp 114) rfl wr.heap.size (S.list.map uv).toArray (by rfl) (by rfl) _ _ hZ8 Tryz.sizeS8 (by rfl) (uv_all _) ?_; intro w5 hD5 gd5; rw [← hD] at hD5 gd5 hVD ⊢; have hA6 : Blk w5 C (fillU 64 sc) 255 := Blk.grown (Blk.alloc hA _) gd5 (by simp; omega); have hVB6 : Hid (Blk w5 V (S.list.map uv).toArray 254) := Blk.grown (Blk.alloc hVB.out _) gd5 (by simp; omega); have hbv6 : Hid (Below V W0 w5) := below_new (hbv.out.alloc (by omega) _) gd5 (by omega) (by simp; omega); clear gd5 hA hVB hbv hZ8))
                      rw [← hD]
                      have HD5 := Lib.hid hD5
                      have HA6 := Lib.hid hA6
                      clear hD hD5 hA6 hDs
                      obtain ⟨wz, rfl⟩ : ∃ wz : World, wz = wr := ⟨_, rfl⟩
                      go_loopw [15, 16, 17, 18, 19] (fun i _ _ _ _ wr => ∃ (k : Nat) (T : S8), k ≤ 64 ∧ i = .int .i64 k ∧ Hid (T = turns (Z.take k) S) ∧ Blk wr D (T.list.map uv).toArray 254 ∧ Blk wr C (fillU 64 sc) 255 ∧ Hid (Blk wr V (S.list.map uv).toArray 254) ∧ Hid (Below V W0 wr)) (fun i _ _ _ _ _ => 64 - (intOf i).toNat)
                      case atStart => exact ⟨0, S, by omega, rfl, rfl, HD5.out, HA6.out, hVB6, hbv6⟩
                      case round =>
                        obtain ⟨k, T, hk, rfl, HT, hD, hA, hVB, hbv⟩ := hrel
                        clear HD5 HA6 hVB6 hbv6
                        by_cases hlt : k < 64
                        · have hkk : wr.cell? ⟨w.heap.size + 1, k, none⟩ = some (uv (shaK.getD k 0)) := (hbv.out.cell (p := ⟨w.heap.size + 1, k, none⟩) hRV).trans ((HBV.out.cell (p := ⟨w.heap.size + 1, k, none⟩) hRV).trans (hKK.out.cell k _ (by show (shaK.map uv).toArray[k]? = _; rw [List.getElem?_toArray, List.getElem?_map, List.getElem?_eq_getElem (show k < shaK.length from hlt), List.getD_eq_getElem?_getD, List.getElem?_eq_getElem (show k < shaK.length from hlt)]; rfl)))
                          have hwk := hA.cell k _ (fillU_get 64 sc k (by rw [HSL.out]; omega))
                          have HT' : Hid (turns (Z.take (k + 1)) S = turnS T (shaK.getD k 0) (sc.getD k 0)) := by
                            show _ = _
                            have hk2 : k < shaK.length := hlt
                            have hk3 : k < sc.length := by rw [HSL.out]; exact hlt
                            rw [turns_take Z S k (by rw [HZ.out, List.length_zip, HSL.out]; show k < min 64 64; omega), ← HT.out]
                            congr 1
                            · simp only [HZ.out, List.getElem_zip]
                              rw [List.getD_eq_getElem?_getD, List.getElem?_eq_getElem hk2]; rfl
                            · simp only [HZ.out, List.getElem_zip]
                              rw [List.getD_eq_getElem?_getD, List.getElem?_eq_getElem hk3]; rfl
                          generalize shaK.getD k 0 = kk at hkk HT'
                          generalize sc.getD k 0 = ww at hwk HT'
                          have g0 := hD.cell 0 _ (show _ = some (uv T.a) from rfl)
                          have g1 := hD.cell 1 _ (show _ = some (uv T.b) from rfl)
                          have g2 := hD.cell 2 _ (show _ = some (uv T.c) from rfl)
                          have g3 := hD.cell 3 _ (show _ = some (uv T.d) from rfl)
                          have g4 := hD.cell 4 _ (show _ = some (uv T.e) from rfl)
                          have g5 := hD.cell 5 _ (show _ = some (uv T.f) from rfl)
                          have g6 := hD.cell 6 _ (show _ = some (uv T.g) from rfl)
                          have g7 := hD.cell 7 _ (show _ = some (uv T.h) from rfl)
                          unfold uv at hwk hkk g0 g1 g2 g3 g4 g5 g6 g7
                          go_wp2_with fail
                          refine wp_region_quiet_lit (by kernel_rfl) (by kernel_rfl) ?_
                          repeat (first | go_big_quiet_skip | (go_big_quiet_want; go_big_quiet_op; first | go_big_quiet_on | (apply Exists.intro; apply And.intro; (intro nz; (first | (with_reducible exact trnq6 _ _ _) | (with_reducible exact trnq11 _ _ _) | (with_reducible exact trnq25 _ _ _))); go_big_quiet_on)))
                          refine wpQuiet_nil ?_
                          intro _ hw'
                          obtain ⟨nq, hw''⟩ := hw'
                          subst hw''
                          simp only [uxor, uand, unot, uadd2, uadd3, uadd4]
                          obtain ⟨T1, hT1⟩ : ∃ T1, T1 = t1 T kk ww := ⟨_, rfl⟩
                          have hT1' : T.h + (rotr T.e 6 ^^^ rotr T.e 11 ^^^ rotr T.e 25) + (T.e &&& T.f ^^^ ~~~T.e &&& T.g) + kk + ww = T1 := hT1.symm
                          rw [hT1']
                          have HT1 := Lib.hid hT1
                          clear hT1 hT1' hkk hwk g0 g1 g2 g3 g4 g5 g6 g7
                          have hD2 := Blk.drewN hD nq
                          have hA2 := Blk.drewN hA nq
                          have hVB2 : Hid (Blk (wr.drewN nq) V (S.list.map uv).toArray 254) := Blk.drewN hVB.out nq
                          have hbv2 : Hid (Below V W0 (wr.drewN nq)) := below_drewN hbv.out nq
                          generalize wr.drewN nq = wr2 at hD2 hA2 hVB2 hbv2 ⊢
                          clear hD hA hVB hbv
                          have g0 := hD2.cell 0 _ (show _ = some (uv T.a) from rfl)
                          have g1 := hD2.cell 1 _ (show _ = some (uv T.b) from rfl)
                          have g2 := hD2.cell 2 _ (show _ = some (uv T.c) from rfl)
                          have g3 := hD2.cell 3 _ (show _ = some (uv T.d) from rfl)
                          have g4 := hD2.cell 4 _ (show _ = some (uv T.e) from rfl)
                          have g5 := hD2.cell 5 _ (show _ = some (uv T.f) from rfl)
                          have g6 := hD2.cell 6 _ (show _ = some (uv T.g) from rfl)
                          have g7 := hD2.cell 7 _ (show _ = some (uv T.h) from rfl)
                          unfold uv at g0 g1 g2 g3 g4 g5 g6 g7
                          go_wp2_with fail
                          refine wp_region_quiet_lit (by kernel_rfl) (by kernel_rfl) ?_
                          repeat (first | go_big_quiet_skip | (go_big_quiet_want; go_big_quiet_op; first | go_big_quiet_on | (apply Exists.intro; apply And.intro; (intro nz; (first | (with_reducible exact trnq2 _ _ _) | (with_reducible exact trnq13 _ _ _) | (with_reducible exact trnq22 _ _ _))); go_big_quiet_on)))
                          refine wpQuiet_nil ?_
                          intro _ hw'
                          obtain ⟨nq2, hw''⟩ := hw'
                          subst hw''
                          simp only [uxor, uand, unot, uadd2, uadd3, uadd4]
                          obtain ⟨T2, hT2⟩ : ∃ T2, T2 = t2 T := ⟨_, rfl⟩
                          have hT2' : (rotr T.a 2 ^^^ rotr T.a 13 ^^^ rotr T.a 22) + (T.a &&& T.b ^^^ T.a &&& T.c ^^^ T.b &&& T.c) = T2 := hT2.symm
                          rw [hT2']
                          have HT2 := Lib.hid hT2
                          clear hT2 hT2' g0 g1 g2 g3 g4 g5 g6 g7
                          have hD3 := Blk.drewN hD2 nq2
                          have hA3 := Blk.drewN hA2 nq2
                          have hVB3 : Hid (Blk (wr2.drewN nq2) V (S.list.map uv).toArray 254) := Blk.drewN hVB2.out nq2
                          have hbv3 : Hid (Below V W0 (wr2.drewN nq2)) := below_drewN hbv2.out nq2
                          generalize wr2.drewN nq2 = wr3 at hD3 hA3 hVB3 hbv3 ⊢
                          clear hD2 hA2 hVB2 hbv2
                          have g0 := hD3.cell 0 _ (show _ = some (uv T.a) from rfl)
                          have g1 := hD3.cell 1 _ (show _ = some (uv T.b) from rfl)
                          have g2 := hD3.cell 2 _ (show _ = some (uv T.c) from rfl)
                          have g3 := hD3.cell 3 _ (show _ = some (uv T.d) from rfl)
                          have g4 := hD3.cell 4 _ (show _ = some (uv T.e) from rfl)
                          have g5 := hD3.cell 5 _ (show _ = some (uv T.f) from rfl)
                          have g6 := hD3.cell 6 _ (show _ = some (uv T.g) from rfl)
                          unfold uv at g0 g1 g2 g3 g4 g5 g6
                          have HTT : Hid (turnS T kk ww = ⟨T1 + T2, T.a, T.b, T.c, T.d + T1, T.e, T.f, T.g⟩) := by show _ = _; rw [HT1.out, HT2.out]; rfl
                          go_wp2_with ((with_reducible show wpList _ _ _ (⟨none, Op.store _ (.tmp 14) _, _, _, _, _⟩ :: _) _ _); simp only [uadd2]; refine wpList_storeBlk rfl 254 (.tmp 14) (.tmp 196) rfl D ((turnS T kk ww).list.map uv).toArray (by rfl) (by rw [HTT.out]; rfl) _ _ hD3 Tryz.sizeS8 (by rfl) (uv_all _) ?_; intro w5 hD5 gd5; have hA6 : Blk w5 C (fillU 64 sc) 255 := Blk.grown hA3 gd5 (by simp; omega); have hVB6 : Hid (Blk w5 V (S.list.map uv).toArray 254) := Blk.grown hVB3.out gd5 (by simp; omega); have hbv6 : Hid (Below V W0 w5) := below_new hbv3.out gd5 (by omega) (by have := Blk.lt hA3; omega); clear gd5 hA3 hVB3 hbv3 hD3)
                          go_roundw
                          case rel => exact ⟨k + 1, turnS T kk ww, by omega, by go_num, HT'.out.symm, hD5, hA6, hVB6, hbv6⟩
                          case measure => simp [intOf]; omega
                        · obtain rfl : k = 64 := by omega
                          have hlt' : Z.take 64 = Z := List.take_of_length_le (by rw [HZ.out, List.length_zip, HSL.out]; show min 64 64 ≤ 64; omega)
                          have HTT : Hid (T = turns Z S) := by show _ = _; rw [HT.out, hlt']
                          clear HT hlt' hA
                          go_wp2_with fail
                          simp only [Int.cast_ofNat_Int]
                          obtain ⟨wq, rfl⟩ : ∃ wq : World, wq = wr := ⟨_, rfl⟩
                          have HD7 := Lib.hid hD
                          have HV7 : Hid (Blk wq V ((addK S T 0).map uv).toArray 254) := hVB.out
                          have hbv7 := hbv
                          clear hD hVB hbv
                          go_loopw [20] (fun i wr => ∃ k : Nat, k ≤ 8 ∧ i = .int .i64 k ∧ Blk wr D (T.list.map uv).toArray 254 ∧ Blk wr V ((addK S T k).map uv).toArray 254 ∧ Hid (Below V W0 wr)) (fun i _ => 8 - (intOf i).toNat)
                          case atStart => exact ⟨0, by omega, rfl, HD7.out, HV7.out, hbv7⟩
                          case round =>
                            obtain ⟨k, hk, rfl, hD, hV, hbv⟩ := hrel
                            clear HD7 HV7 hbv7
                            by_cases hlt : k < 8
                            · obtain ⟨e1, e2, e3⟩ := addK_facts S T k hlt
                              have hc := hV.cell k (uv (S.list.getD k 0)) (by rw [← e2, List.getElem?_toArray, List.getElem?_map, List.getD_eq_getElem?_getD, List.getElem?_eq_getElem (by rw [e1]; exact hlt)]; rfl)
                              have hd := hD.cell k (uv (T.list.getD k 0)) (by rw [List.getElem?_toArray, List.getElem?_map, List.getD_eq_getElem?_getD, List.getElem?_eq_getElem (show k < 8 from hlt)]; rfl)
                              have hf := hV.free k
                              have hst := hV.set k (uv (S.list.getD k 0 + T.list.getD k 0))
                              rw [List.setIfInBounds_toArray, ← List.map_set, e3] at hst
                              have HST := Lib.hid hst
                              clear e1 e2 e3 hst
                              generalize S.list.getD k 0 = x at hc HST
                              generalize T.list.getD k 0 = y at hd HST
                              unfold uv at hc hd HST
                              go_wp2_with fail
                              refine wp_still_store 9 (by kernel_rfl) (by kernel_rfl) ?_
                              simp only [List.take_succ_cons, List.take_zero, List.drop_succ_cons, List.drop_zero]
                              repeat (first | go_big_quiet_skip | (go_big_quiet_want; go_big_quiet_op; go_big_quiet_on))
                              refine wpQuiet_nil ?_
                              go_wp2_with fail
                              go_roundw
                              case rel =>
                                simp only [uadd2]
                                exact ⟨k + 1, by omega, by go_num, Blk.drew (hD.setOther _ _ (by simp; omega)), Blk.drew HST.out, hbv.out.trans (grown_below (grown_drew (grown_set (World.grownBy.refl _ (some V)) _ _)) (Nat.le_refl _) (Nat.le_of_lt (Blk.lt hV)))⟩
                              case measure => simp [intOf]; omega
                            · obtain rfl : k = 8 := by omega
                              have hfin : addK S T 8 = (blocksS (q + 1) M s0).list := by
                                rw [blocksS_succ, ← HBK.out, ← HS.out, compS, ← HSC.out, ← HZ.out, ← HTT.out]; rfl
                              rw [hfin] at hV
                              have HV9 := Lib.hid hV
                              clear hfin hV hD
                              go_wp2_with fail
                              go_roundw
                              case rel => exact ⟨q + 1, a + 64, ha64, by go_num, by show _ = _; have := hq.out; omega, HV9, hbv⟩
                              case measure => simp [intOf]; omega
            · have hqq : q = (n + 72) / 64 := by have := hq.out; have := hL64.out; omega
              obtain ⟨S, hS⟩ : ∃ S, S = blocksS q M s0 := ⟨_, rfl⟩
              rw [← hS] at hVB
              have hflat : S.list.flatMap out4 = sha t := by rw [hS, hqq, HM.out, HN.out]; rfl
              have HF := Lib.hid hflat
              have hRW : Blk wr w.heap.size Z32 22 := Blk.below (Blk.below hRR.out HBV.out (by omega)) hbv.out (by omega)
              have hVw : V < wr.heap.size := Blk.lt hVB.out
              have hall : Hid (Below w.heap.size w wr) := hBB.out.trans ((HBV.out.mono (by omega)).trans (hbv.out.mono (by omega)))
              have hO := Blk.new wr Z32 22
              have hVB2 := Blk.alloc hVB.out (.cells Z32 22)
              have hR2 := Blk.alloc hRW (.cells Z32 22)
              have hall2 : Hid (Below w.heap.size w (wr.alloc (.cells Z32 22))) := hall.out.alloc hall.out.size _
              clear hS hqq hflat hVB hbv hRW
              go_wp2_with fail
              obtain ⟨O, hOO⟩ : ∃ O, O = wr.heap.size := ⟨_, rfl⟩
              have hRO : w.heap.size ≤ O := by rw [hOO]; exact hall.out.size
              obtain ⟨W7, hW7⟩ : ∃ W7, W7 = wr.alloc (.cells Z32 22) := ⟨_, rfl⟩
              rw [← hW7] at hO hVB2 hR2 hall2 ⊢
              rw [← hOO] at hO hVw ⊢
              rw [show Z32 = fillB 32 0 (sha t) by rw [Z32_eq]; simp [fillB]] at hO
              have HO := Lib.hid hO
              have HV2 := Lib.hid hVB2
              have HR2 := Lib.hid hR2
              clear hOO hW7 hO hVB2 hR2 hall
              obtain ⟨wx, rfl⟩ : ∃ wx : World, wx = wr := ⟨_, rfl⟩
              go_loopw [22] (fun j wr => ∃ i : Nat, i ≤ 32 ∧ j = .int .i64 i ∧ Blk wr O (fillB 32 i (sha t)) 22 ∧ Blk wr V (S.list.map uv).toArray 254 ∧ Blk wr w.heap.size Z32 22 ∧ Hid (Below w.heap.size w wr)) (fun j _ => 32 - (intOf j).toNat)
              case atStart => exact ⟨0, by omega, rfl, HO.out, HV2.out, HR2.out, hall2⟩
              case round =>
                obtain ⟨i, hi, rfl, hO, hV, hZ, hbel⟩ := hrel
                clear HO HV2 HR2 hall2
                have h32 := sha_len t
                by_cases hlt32 : i < 32
                · have hh := hV.cell (i / 4) (uv (S.list.getD (i / 4) 0)) (by rw [List.getElem?_toArray, List.getElem?_map, List.getD_eq_getElem?_getD, List.getElem?_eq_getElem (show i / 4 < 8 by omega)]; rfl)
                  have hc := hO.cell i _ (fillB_get 32 i (sha t) (by omega) hlt32)
                  have hf := hO.free i
                  have hv := Lib.hid (flat_val S (sha t) HF.out i hlt32 (by omega))
                  have hset := hO.set i (bv ((sha t)[i]'(by omega)))
                  rw [fillB_set 32 i (sha t) (by omega) hlt32] at hset
                  have HSET := Lib.hid hset
                  clear hset
                  generalize (sha t)[i]'(by rw [sha_len]; exact hlt32) = c at hv HSET
                  clear h32
                  generalize S.list.getD (i / 4) 0 = x at hh hv
                  unfold bv at hc
                  unfold uv at hh
                  go_wp2_with fail
                  go_roundw
                  case rel =>
                    rw [hv.out]
                    exact ⟨i + 1, by omega, by go_num, HSET.out, hV.setOther _ _ (by simp; omega), hZ.setOther _ _ (by simp; omega), hbel.out.trans (grown_below (grown_set (World.grownBy.refl _ (some O)) _ _) (by omega) hbel.out.size)⟩
                  case measure => simp [intOf]; omega
                · obtain rfl : i = 32 := by omega
                  rw [fillB_all 32 _ h32] at hO
                  have H32 := Lib.hid h32
                  clear h32
                  go_wp2_with (first | ((with_reducible show wpList _ _ _ (⟨some 227, _, _, _, _, _⟩ :: _) _ _); refine wpList_loadBlk rfl 22 (.tmp 21) rfl O (by rfl) _ _ _ hO Tryz.underlying22 rfl (by rw [bv_size, H32.out]; exact Tryz.sizeA32) ?_) | ((with_reducible show wpList _ _ _ (⟨none, Op.store _ (.tmp 2) _, _, _, _, _⟩ :: _) _ _); refine wpList_storeBlk rfl 22 (.tmp 2) (.tmp 227) rfl w.heap.size ((sha t).map bv).toArray (by rfl) (by rfl) _ _ hZ (by rw [bv_size, H32.out]; exact Tryz.sizeA32) (by rw [bv_size, H32.out, Z32_size]) (bv_all _) ?_; intro w9 hB9 hg9; have h9 := hbel.out.trans (grown_below hg9 (Nat.le_refl _) hbel.out.size)))
                  refine ret_blk rfl w.heap.size _ _ _ (by rfl) hB9 Tryz.underlying22 rfl (by rw [bv_size, H32.out]; exact Tryz.sizeA32) rfl ?_
                  exact ⟨rfl, h9⟩
    · have hm : ((L : Int) % 64 == 56) = false := by have := mt (HPZ.out z hz).1 hzz; simp; omega
      clear hLn
      have hws : w1.heap.size ≤ wr.heap.size := hbel.out.size
      go_wp2_with ((with_reducible show wpList _ _ _ (⟨some 35, _, _, _, _, _⟩ :: _) _ _); refine wpList_append_byte _ rfl _ _ 48 rfl 5 i8 (.int .u8 0) Tryz.underlying48 HI.out HZ0.out HZ1.out HZ2.out rfl w1.heap.size _ (t ++ 128 :: List.replicate z 0) (by rfl) (hO.out.alloc _) (by rw [← HL.out]; exact hLb) (by simp; omega) wr.heap.size 1 0 (by rfl) ((Blk.new _ _ _).cell 0 _ rfl) ?_)
      intro v3 w3 hO3 g3
      have hB3 : Hid (Below w1.heap.size w1 w3) := (hbel.out.alloc hws _).grown g3 (by simp; omega) (fun k hk => by cases hk; exact hg0)
      have hls : Hid (sliceLen v3 = L + 1) := by
        obtain ⟨_, _, e3, _⟩ := hO3.read
        show sliceLen v3 = L + 1
        rw [e3]
        show (_ : List UInt8).length = L + 1
        rw [HLn.out, HN.out]; simp; omega
      have HO3 : Hid (OwnM w1.heap.size 5 w3 v3 (t ++ 128 :: List.replicate (z + 1) 0)) := by
        show OwnM _ _ _ _ _
        rw [List.replicate_succ']; simpa only [List.append_assoc, List.cons_append] using hO3
      clear hO3 g3
      go_wp2_with fail
      go_roundw
      case rel => exact ⟨z + 1, v3, by omega, rfl, HO3, hB3⟩
      case measure => rw [hls.out]; show n + 100 - (L + 1) < n + 100 - L; have := HLn.out; omega
end Go.Proofs.YtjlpdbaknhbgdaaGreat
set_option linter.unusedSimpArgs false
set_option linter.unusedVariables false
namespace Go.Proofs.YtjlpdbaknhbgdaaGreat
open Go.RowKit

theorem blk_new1 (w : World) (o : Obj) (cs : Array Value) (t : TypeId) : Blk ((w.alloc o).alloc (.cells cs t)) (w.heap.size + 1) cs t := by
  have := Blk.new (w.alloc o) cs t
  rwa [show (w.alloc o).heap.size = w.heap.size + 1 by simp] at this
theorem padX_take (c : UInt8) (key : List UInt8) (k : Nat) (h : k < 64) : (padX c key).take (k + 1) = (padX c key).take k ++ [key.getD k 0 ^^^ c] := by
  rw [List.take_succ_eq_append_getElem (by rw [padX_len]; exact h)]
  simp [padX]

set_option maxHeartbeats 4000000 in
set_option maxRecDepth 100000 in
theorem RefCode_calls (key text : List UInt8) (w : World) (hk : key.length ≤ 64) (hl : text.length ≤ 274877906944) :
    Calls Tryz.prog 165 #[.string (str key), .string (str text)] w fun e w' => e = .returned (.agg ((hmac key text).map bv).toArray) ∧ Below w.heap.size w w' := by
  have hdec : decide ((64 : Int) < (key.length : Int)) = false := by simp; omega
  have hR := Blk.new w Z32 22
  have hB : Below w.heap.size w (w.alloc (.cells Z32 22)) := (Below.refl _ _).alloc (Nat.le_refl _) _
  have HR := Lib.hid hR
  have HB := Lib.hid hB
  clear hR hB
  go_enter Tryz.func165, Tryz.ntmps165
  go_wp2_with fail
  go_loopw [6, 7, 8, 9] (fun x y j _ wr => ∃ k : Nat, k ≤ 64 ∧ j = .int .i64 k ∧ x = .string (str ((padX 54 key).take k)) ∧ y = .string (str ((padX 92 key).take k)) ∧ Blk wr w.heap.size Z32 22 ∧ Hid (Below w.heap.size w wr)) (fun _ _ j _ _ => 64 - (intOf j).toNat)
  case atStart => exact ⟨0, by omega, rfl, rfl, rfl, HR.out, HB⟩
  case round =>
    obtain ⟨k, hk64, rfl, rfl, rfl, hR, hB⟩ := hrel
    clear HR HB
    by_cases hlt : k < 64
    · have p1 := Lib.hid (padX_take 54 key k hlt)
      have p2 := Lib.hid (padX_take 92 key k hlt)
      have l1 : ((padX 54 key).take k).length ≤ 64 := by rw [List.length_take, padX_len]; omega
      have l2 : ((padX 92 key).take k).length ≤ 64 := by rw [List.length_take, padX_len]; omega
      generalize (padX 54 key).take k = a1 at p1 l1 ⊢
      generalize (padX 92 key).take k = a2 at p2 l2 ⊢
      by_cases hkl : k < key.length
      · have hget : key.getD k 0 = key[k] := by rw [List.getD_eq_getElem?_getD, List.getElem?_eq_getElem hkl]; rfl
        rw [hget] at p1 p2
        have x1 := bxor key[k] 54
        have x2 := bxor key[k] 92
        have X1 : Hid ([Value.int .u8 (bits BinOp.xor IntKind.u8 (key[k].toNat : Int) 54)] = [key[k] ^^^ 54].map bv) := by show _ = _; simp only [List.map_cons, List.map_nil, bv]; rw [← x1]; rfl
        have X2 : Hid ([Value.int .u8 (bits BinOp.xor IntKind.u8 (key[k].toNat : Int) 92)] = [key[k] ^^^ 92].map bv) := by show _ = _; simp only [List.map_cons, List.map_nil, bv]; rw [← x2]; rfl
        clear hget x1 x2
        go_wp2_with (first | ((with_reducible show wpList _ _ _ (⟨some 33, _, _, _, _, _⟩ :: _) _ _); refine wpList_convBlk rfl 48 9 5 _ rfl Tryz.underlying48 Tryz.underlying5 Tryz.underlying9 wr.heap.size 1 1 (by rfl) _ _ (Blk.new _ _ _) [key[k] ^^^ 54] rfl X1.out ?_) | ((with_reducible show wpList _ _ _ (⟨some 39, _, _, _, _, _⟩ :: _) _ _); refine wpList_convBlk rfl 48 9 5 _ rfl Tryz.underlying48 Tryz.underlying5 Tryz.underlying9 (wr.heap.size + 1) 1 1 (by rfl) _ _ (blk_new1 _ _ _ _) [key[k] ^^^ 92] rfl X2.out ?_))
        go_roundw
        case rel =>
          refine ⟨k + 1, by omega, by go_num, by rw [p1.out]; try rfl, by rw [p2.out]; try rfl, (hR.alloc _).alloc _, ?_⟩
          exact (hB.out.alloc hB.out.size _).alloc (by simp; have := hB.out.size; omega) _
        case measure => simp [intOf]; omega
      · have hget : key.getD k 0 = 0 := by rw [List.getD_eq_getElem?_getD, List.getElem?_eq_none (by omega)]; rfl
        rw [hget] at p1 p2
        have hkl' : key.length ≤ k := by omega
        clear hget hkl
        go_wp2_with (first | ((with_reducible show wpList _ _ _ (⟨some 33, _, _, _, _, _⟩ :: _) _ _); refine wpList_convBlk rfl 48 9 5 _ rfl Tryz.underlying48 Tryz.underlying5 Tryz.underlying9 wr.heap.size 1 1 (by rfl) _ _ (Blk.new _ _ _) [0 ^^^ 54] rfl (by rfl) ?_) | ((with_reducible show wpList _ _ _ (⟨some 39, _, _, _, _, _⟩ :: _) _ _); refine wpList_convBlk rfl 48 9 5 _ rfl Tryz.underlying48 Tryz.underlying5 Tryz.underlying9 (wr.heap.size + 1) 1 1 (by rfl) _ _ (blk_new1 _ _ _ _) [0 ^^^ 92] rfl (by rfl) ?_))
        go_roundw
        case rel =>
          refine ⟨k + 1, by omega, by go_num, by rw [p1.out]; try rfl, by rw [p2.out]; try rfl, (hR.alloc _).alloc _, ?_⟩
          exact (hB.out.alloc hB.out.size _).alloc (by simp; have := hB.out.size; omega) _
        case measure => simp [intOf]; omega
    · obtain rfl : k = 64 := by omega
      have e1 : (padX 54 key).take 64 = padX 54 key := List.take_of_length_le (by rw [padX_len]; omega)
      have e2 : (padX 92 key).take 64 = padX 92 key := List.take_of_length_le (by rw [padX_len]; omega)
      rw [e1, e2]
      have l1 := padX_len 54 key
      have l2 := padX_len 92 key
      obtain ⟨a1, h1⟩ : ∃ a, a = padX 54 key := ⟨_, rfl⟩
      obtain ⟨a2, h2⟩ : ∃ a, a = padX 92 key := ⟨_, rfl⟩
      rw [← h1] at l1
      rw [← h2] at l2
      rw [← h1, ← h2]
      have H1 := Lib.hid h1
      have H2 := Lib.hid h2
      have l1' : a1.length ≤ 64 := by omega
      have l2' : a2.length ≤ 64 := by omega
      have L1 := Lib.hid l1
      have L2 := Lib.hid l2
      clear e1 e2 h1 h2 l1 l2
      have hws : w.heap.size ≤ wr.heap.size := hB.out.size
      go_wp2_with fail
      refine (RefSum_calls (a1 ++ text) _ (by rw [List.length_append]; omega)).mono ?_
      rintro e w4 ⟨rfl, b4⟩
      have hR4 := Blk.below hR b4 (Blk.lt hR)
      have hB4 : Hid (Below w.heap.size w w4) := hB.out.trans (b4.mono hws)
      have h32 := sha_len (a1 ++ text)
      obtain ⟨x, hx⟩ : ∃ x, x = sha (a1 ++ text) := ⟨_, rfl⟩
      rw [← hx] at h32 ⊢
      have HX := Lib.hid hx
      have H32 := Lib.hid h32
      have hx32 : x.length ≤ 32 := by omega
      have hN4 := Blk.new w4 Z32 22
      have hR5 := Blk.alloc hR4 (.cells Z32 22)
      have hB5 : Below w.heap.size w (w4.alloc (.cells Z32 22)) := hB4.out.alloc hB4.out.size _
      have hs4 : w.heap.size < w4.heap.size := Blk.lt hR4
      clear hx h32 b4 hR hB hR4 hB4
      go_wp2_with (first | ((with_reducible show wpList _ _ _ (⟨none, Op.store _ (.tmp 10) _, _, _, _, _⟩ :: _) _ _); refine wpList_storeBlk rfl 22 (.tmp 10) (.tmp 44) rfl w4.heap.size (x.map bv).toArray (by rfl) (by rfl) _ _ hN4 (by rw [bv_size, H32.out]; exact Tryz.sizeA32) (by rw [bv_size, H32.out, Z32_size]) (bv_all _) ?_; intro w6 hH6 g6; have hR6 := Blk.grown hR5 g6 (by simp; omega); have hB6 : Hid (Below w.heap.size w w6) := below_new hB5 g6 (by omega) (by simp; omega); clear hN4 hR5 hB5 g6) | ((with_reducible show wpList _ _ _ (⟨some 47, _, _, _, _, _⟩ :: _) _ _); refine wpList_convBlk rfl 48 9 5 (.tmp 46) rfl Tryz.underlying48 Tryz.underlying5 Tryz.underlying9 w4.heap.size 32 32 (by rfl) _ _ hH6 x H32.out (List.take_of_length_le (by simp [H32.out])) ?_))
      refine (RefSum_calls (a2 ++ x) _ (by rw [List.length_append]; omega)).mono ?_
      rintro e w8 ⟨rfl, b8⟩
      have hR8 := Blk.below hR6 b8 (Blk.lt hR6)
      have hB8 : Below w.heap.size w w8 := hB6.out.trans (b8.mono hB6.out.size)
      have hfin : sha (a2 ++ x) = hmac key text := by rw [HX.out, H1.out, H2.out]; rfl
      rw [hfin]
      have h32 := Lib.hid (hmac_len key text)
      obtain ⟨y, hy⟩ : ∃ y, y = hmac key text := ⟨_, rfl⟩
      have HY := Lib.hid hy
      rw [← hy] at h32 ⊢
      clear hy hfin b8 hR6 hB6
      go_wp2_with ((with_reducible show wpList _ _ _ (⟨none, Op.store _ (.tmp 4) _, _, _, _, _⟩ :: _) _ _); refine wpList_storeBlk rfl 22 (.tmp 4) (.tmp 49) rfl w.heap.size (y.map bv).toArray (by rfl) (by rfl) _ _ hR8 (by rw [bv_size, h32.out]; exact Tryz.sizeA32) (by rw [bv_size, h32.out, Z32_size]) (bv_all _) ?_; intro w9 hB9 g9; have h9 := hB8.trans (grown_below g9 (Nat.le_refl _) hB8.size))
      refine ret_blk rfl w.heap.size _ _ _ (by rfl) hB9 Tryz.underlying22 rfl (by rw [bv_size, h32.out]; exact Tryz.sizeA32) rfl ?_
      rw [← HY.out]
      exact ⟨rfl, h9⟩
end Go.Proofs.YtjlpdbaknhbgdaaGreat
set_option linter.unusedSimpArgs false
set_option linter.unusedVariables false
namespace Go.Proofs.YtjlpdbaknhbgdaaGreat
open Go.RowKit

def four4 (n : Nat) : List UInt8 := [UInt8.ofNat (n / 16777216), UInt8.ofNat (n / 65536), UInt8.ofNat (n / 256), UInt8.ofNat n]
theorem bv_ofNat' (m : Nat) (a : Int) (ha : a = ((m % 256 : Nat) : Int)) : Value.int .u8 a = bv (UInt8.ofNat m) := by
  subst ha
  unfold bv
  rw [UInt8.toNat_ofNat']
theorem four_arm (n : Nat) : [Value.int .u8 ((n : Int) / 16777216 % 256), Value.int .u8 ((n : Int) / 65536 % 256), Value.int .u8 ((n : Int) / 256 % 256), Value.int .u8 ((n : Int) % 256)] = (four4 n).map bv := by
  have e : ∀ (a1 a2 a3 a4 : Int), a1 = ((n / 16777216 % 256 : Nat) : Int) → a2 = ((n / 65536 % 256 : Nat) : Int) → a3 = ((n / 256 % 256 : Nat) : Int) → a4 = ((n % 256 : Nat) : Int) → [Value.int .u8 a1, Value.int .u8 a2, Value.int .u8 a3, Value.int .u8 a4] = (four4 n).map bv := by
    intro a1 a2 a3 a4 h1 h2 h3 h4
    rw [bv_ofNat' _ a1 h1, bv_ofNat' _ a2 h2, bv_ofNat' _ a3 h3, bv_ofNat' _ a4 h4]
    rfl
  exact e _ _ _ _ (by omega) (by omega) (by omega) (by omega)
theorem four_calls (n : Nat) (w : World) (hn : n ≤ 1099511627776) : Calls Tryz.prog 199 #[.int .i64 n] w fun e w' => e = .returned (.string (str (four4 n))) ∧ Below w.heap.size w w' := by
  have HN := Lib.hid (four_arm n)
  go_enter Tryz.func199, Tryz.ntmps199
  go_wp2_with ((with_reducible show wpList _ _ _ (⟨some 15, _, _, _, _, _⟩ :: _) _ _); refine wpList_convBlk rfl 48 9 5 _ rfl Tryz.underlying48 Tryz.underlying5 Tryz.underlying9 w.heap.size 4 4 (by rfl) _ _ (Blk.new _ _ _) (four4 n) rfl HN.out ?_)
  go_returns
  exact ⟨rfl, (Below.refl _ _).alloc (Nat.le_refl _) _⟩
theorem RefFour_calls (n : Nat) (w : World) (hn : n ≤ 1099511627776) : Calls Tryz.prog 166 #[.int .i64 n] w fun e w' => e = .returned (.string (str (four4 n))) ∧ Below w.heap.size w w' := by
  have HN := Lib.hid (four_arm n)
  go_enter Tryz.func166, Tryz.ntmps166
  go_wp2_with ((with_reducible show wpList _ _ _ (⟨some 18, _, _, _, _, _⟩ :: _) _ _); refine wpList_convBlk rfl 48 9 5 _ rfl Tryz.underlying48 Tryz.underlying5 Tryz.underlying9 w.heap.size 4 4 (by rfl) _ _ (Blk.new _ _ _) (four4 n) rfl (by rw [← HN.out]; first | rfl | trace_state) ?_)
  go_returns
  exact ⟨rfl, (Below.refl _ _).alloc (Nat.le_refl _) _⟩

def derive (key label context : List UInt8) : List UInt8 := hmac key (four4 label.length ++ (label ++ context))
theorem conv_blk {w : World} {g n : Nat} {l : List UInt8} {t : TypeId} (hn : l.length = n) (h : Blk w g (l.map bv).toArray t) : (convert 48 9 (.slice (some ⟨g, 0, none⟩) n n)).run Tryz.prog w = .ok (.string (str l)) w := by
  subst hn
  exact run_convert_bytes_back (P := Tryz.prog) w 48 9 5 ⟨g, 0, none⟩ l.length l Tryz.underlying48 Tryz.underlying5 Tryz.underlying9 (fun j hj => by
      rw [Addr.add_lit, Nat.zero_add]
      refine h.cell j _ ?_
      rw [List.getElem?_toArray, List.getElem?_map, List.getElem?_eq_getElem hj]
      simp [bv, hj])

theorem store32 {P : Program} {w : World} {g : Nat} {t : TypeId} {h : List UInt8} (hh : h.length = 32) (hg : Blk w g Z32 t) : (storeCells ⟨g, 0, none⟩ (h.map bv)).run P w = .ok () (w.setRow g (h.map bv).toArray) := by
  have h1 := run_storeCells_at (P := P) g 0 t (h.map bv) 0 Z32 w hg (by rw [List.length_map, hh, Z32_size]; omega) (bv_one _)
  simp only [Nat.add_zero, List.take_zero, List.nil_append, List.length_map, hh] at h1
  rw [h1]
  have e : List.drop (0 + 32) Z32.toList = [] := by rfl
  rw [e, List.append_nil]

set_option maxHeartbeats 4000000 in
set_option maxRecDepth 100000 in
theorem Derive_calls (key label context : List UInt8) (w : World) (hk : key.length = 32) (hl : label.length ≤ 68719476736) (hc : context.length ≤ 68719476736) :
    Calls Tryz.prog 158 #[.agg (key.map bv).toArray, .string (str label), .string (str context)] w fun e w' => e = .returned (.agg ((derive key label context).map bv).toArray) ∧ Below w.heap.size w w' := by
  have HK := Lib.hid hk
  clear hk
  go_enter Tryz.func158, Tryz.ntmps158
  go_wp2_with fail
  have hB0 : Blk ((w.alloc (.cells (key.map bv).toArray 23)).alloc (.cells Z32 23)) w.heap.size (key.map bv).toArray 23 := (Blk.new _ _ _).alloc _
  have hR0 : Blk ((w.alloc (.cells (key.map bv).toArray 23)).alloc (.cells Z32 23)) (w.heap.size + 1) Z32 23 := blk_new1 _ _ _ _
  have hb0 : Below w.heap.size w ((w.alloc (.cells (key.map bv).toArray 23)).alloc (.cells Z32 23)) := ((Below.refl _ _).alloc (Nat.le_refl _) _).alloc (by simp) _
  generalize (w.alloc (.cells (key.map bv).toArray 23)).alloc (.cells Z32 23) = W0 at hB0 hR0 hb0 ⊢
  have hs0 : w.heap.size + 1 < W0.heap.size := Blk.lt hR0
  have hcv0 : (convert 48 9 (.slice (some ⟨w.heap.size, 0, none⟩) 32 32)).run Tryz.prog W0.drew = .ok (.string (str key)) W0.drew := conv_blk HK.out (Blk.drew hB0)
  have HB0 := Lib.hid hB0
  have HR0 := Lib.hid hR0
  have Hb0 := Lib.hid hb0
  clear hB0 hR0 hb0
  go_region_with (first | (go_at_call 199; refine (four_calls label.length _ (by omega)).mono ?_; rintro e w8 ⟨rfl, b8⟩; have HB8 := Lib.hid (Blk.below (Blk.drew HB0.out) b8 (Blk.lt HB0.out)); have HR8 := Lib.hid (Blk.below (Blk.drew HR0.out) b8 (Blk.lt HR0.out)); have Hb8 : Hid (Below w.heap.size w w8) := (below_drewN Hb0.out 1).trans (b8.mono (by simp; omega)); have hcv8 : (convert 48 9 (.slice (some ⟨w.heap.size, 0, none⟩) 32 32)).run Tryz.prog w8 = .ok (.string (str key)) w8 := conv_blk HK.out HB8.out; have hcv8b : (convert 48 9 (.slice (some ⟨w.heap.size, 0, none⟩) 32 32)).run Tryz.prog (w8.alloc (.cells #[.string (str (four4 label.length)), .string (str label), .string (str context)] 9)) = .ok (.string (str key)) (w8.alloc (.cells #[.string (str (four4 label.length)), .string (str label), .string (str context)] 9)) := conv_blk HK.out (Blk.alloc HB8.out _); have hs8 : w.heap.size + 1 < w8.heap.size := Blk.lt HR8.out; clear b8) | (go_at_call 198; refine (Code_calls key w8.heap.size 0 3 3 [four4 label.length, label, context] _ (by rw [HK.out]; omega) (StrsAt.blk [four4 label.length, label, context] (Blk.new w8 #[.string (str (four4 label.length)), .string (str label), .string (str context)] 9)) (by omega) (by simp [four4]; omega) (by omega)).mono ?_; rintro e w9 ⟨rfl, b9⟩; have hR9 := Blk.below (Blk.alloc HR8.out (.cells #[.string (str (four4 label.length)), .string (str label), .string (str context)] 9)) b9 (Blk.lt (Blk.alloc HR8.out _)); have Hb9 : Hid (Below w.heap.size w w9) := (Hb8.out.alloc (by omega) (.cells #[.string (str (four4 label.length)), .string (str label), .string (str context)] 9)).trans (b9.mono (by simp; omega)); have HE : Hid ([four4 label.length, label, context].flatten = four4 label.length ++ (label ++ context)) := (by show _ = _; simp); rw [HE.out]; have hst9 := store32 (P := Tryz.prog) (hmac_len key (four4 label.length ++ (label ++ context))) hR9; have HR9 := Lib.hid hR9; clear b9 hR9))
  all_goals
    have hB9 := Blk.setRow HR9.out ((hmac key (four4 label.length ++ (label ++ context))).map bv).toArray
    have h9 := Hb9.out.trans (grown_below (grown_row w9 (w.heap.size + 1) ((hmac key (four4 label.length ++ (label ++ context))).map bv).toArray) (by omega) Hb9.out.size)
    go_wp2_with fail
    refine ret_blk rfl (w.heap.size + 1) _ _ _ (by rfl) hB9 Tryz.underlying23 rfl (by rw [bv_size, hmac_len]; exact Tryz.sizeHash) rfl ?_
    exact ⟨rfl, h9⟩
end Go.Proofs.YtjlpdbaknhbgdaaGreat
set_option linter.unusedSimpArgs false
set_option linter.unusedVariables false
namespace Go.Proofs.YtjlpdbaknhbgdaaGreat
open Go.RowKit

theorem blk_range {w : World} {b : Nat} {cs : List Value} {t : TypeId} (h : Blk w b cs.toArray t) : w.rangeAt b 0 cs := fun j v hj => by
  rw [Nat.zero_add]
  exact h.cell j v (by rw [List.getElem?_toArray]; exact hj)

theorem NoteNil_calls (i : Value) (ao : Option Addr) (n c : Nat) (hn : 0 < n) (hi : i.oneCell' = true) (w : World) :
    Calls Tryz.prog 140 #[.pointer none, .agg #[i, .slice ao n c]] w fun e w' => e = .returned (.int .i64 0) ∧ Below w.heap.size w w' := by
  have hb : Blk (w.alloc (.cells #[i, .slice ao n c] 235)) w.heap.size #[i, .slice ao n c] 235 := Blk.new _ _ _
  have hc := hb.cell 1 _ rfl
  have h0 : ((n : Int) == 0) = false := by simp; omega
  go_enter Tryz.func140, Tryz.ntmps140
  go_wp2_with fail
  go_returns
  exact ⟨rfl, (Below.refl _ _).alloc (Nat.le_refl _) _⟩

set_option maxHeartbeats 4000000 in
set_option maxRecDepth 100000 in
theorem PDerive_calls (key label context : List UInt8) (w : World) (hk : key.length = 32) (hl : label.length ≤ 68719476736) (hc : context.length ≤ 68719476736) :
    Calls Tryz.prog 95 #[.pointer none, .agg (key.map bv).toArray, .string (str label), .string (str context)] w fun e w' => e = .returned (.agg ((derive key label context).map bv).toArray) ∧ Below w.heap.size w w' := by
  have HK := Lib.hid hk
  clear hk
  have hB0 : Blk ((w.alloc (.cells (key.map bv).toArray 23)).alloc (.cells Z32 23)) w.heap.size (key.map bv).toArray 23 := (Blk.new _ _ _).alloc _
  have hR0 : Blk ((w.alloc (.cells (key.map bv).toArray 23)).alloc (.cells Z32 23)) (w.heap.size + 1) Z32 23 := blk_new1 _ _ _ _
  have hb0 : Below w.heap.size w ((w.alloc (.cells (key.map bv).toArray 23)).alloc (.cells Z32 23)) := ((Below.refl _ _).alloc (Nat.le_refl _) _).alloc (by simp) _
  go_enter Tryz.func95, Tryz.ntmps95
  go_wp2_with ((with_reducible show wpList _ _ _ (⟨some 10, _, _, _, _, _⟩ :: _) _ _); refine wpList_loadBlk rfl 23 (.tmp 5) rfl w.heap.size (by rfl) _ _ _ hB0 Tryz.underlying23 rfl (by rw [bv_size, HK.out]; exact Tryz.sizeHash) ?_)
  generalize (w.alloc (.cells (key.map bv).toArray 23)).alloc (.cells Z32 23) = W0 at hB0 hR0 hb0 ⊢
  refine (Derive_calls key label context _ HK.out hl hc).mono ?_
  rintro e w1 ⟨rfl, b1⟩
  have hB1 := Blk.below hB0 b1 (Blk.lt hB0)
  have hR1 := Blk.below hR0 b1 (Blk.lt hR0)
  have hb1 : Below w.heap.size w w1 := hb0.trans (b1.mono hb0.size)
  have h32 := Lib.hid (hmac_len key (four4 label.length ++ (label ++ context)))
  obtain ⟨y, hy⟩ : ∃ y, y = derive key label context := ⟨_, rfl⟩
  have HY := Lib.hid hy
  have H32 : Hid (y.length = 32) := by show _ = _; rw [hy]; exact h32.out
  rw [← hy]
  have hN := Blk.new w1 Z32 23
  have hB2 := Blk.alloc hB1 (.cells Z32 23)
  have hR2 := Blk.alloc hR1 (.cells Z32 23)
  have hb2 : Below w.heap.size w (w1.alloc (.cells Z32 23)) := hb1.alloc hb1.size _
  have hs1 : w.heap.size + 1 < w1.heap.size := Blk.lt hR1
  clear hy h32 b1 hB0 hR0 hb0 hB1 hR1 hb1
  go_wp2_with (first | ((with_reducible show wpList _ _ _ (⟨none, Op.store _ (.tmp 9) _, _, _, _, _⟩ :: _) _ _); refine wpList_storeBlk rfl 23 (.tmp 9) (.tmp 13) rfl w1.heap.size (y.map bv).toArray (by rfl) (by rfl) _ _ hN (by rw [bv_size, H32.out]; exact Tryz.sizeHash) (by rw [bv_size, H32.out, Z32_size]) (bv_all _) ?_; intro w2 hD2 g2; have hB3 := Blk.grown hB2 g2 (by simp; omega); have hR3 := Blk.grown hR2 g2 (by simp; omega); have hb3 : Below w.heap.size w w2 := below_new hb2 g2 (by omega) (by simp; omega); clear hN hB2 hR2 hb2 g2) | ((with_reducible show wpList _ _ _ (⟨some 15, _, _, _, _, _⟩ :: _) _ _); refine wpList_loadBlk rfl 23 (.tmp 5) rfl w.heap.size (by rfl) _ _ _ hB3 Tryz.underlying23 rfl (by rw [bv_size, HK.out]; exact Tryz.sizeHash) ?_; have hk1 : key.length = 32 := HK.out) | ((with_reducible show wpList _ _ _ (⟨some 17, _, _, _, _, _⟩ :: _) _ _); refine wpList_loadBlk rfl 23 (.tmp 9) rfl w1.heap.size (by rfl) _ _ _ (Blk.alloc hD2 _) Tryz.underlying23 rfl (by rw [bv_size, H32.out]; exact Tryz.sizeHash) ?_; have hy1 : y.length = 32 := H32.out))
  refine (NoteNil_calls _ _ 1 1 (by omega) rfl _).mono ?_
  rintro e w5 ⟨rfl, b5⟩
  have hD5 := Blk.below (Blk.alloc (Blk.alloc hD2 _) _) b5 (Blk.lt (Blk.alloc (Blk.alloc hD2 _) _))
  have hR5 := Blk.below (Blk.alloc (Blk.alloc hR3 _) _) b5 (Blk.lt (Blk.alloc (Blk.alloc hR3 _) _))
  have hb5 : Below w.heap.size w w5 := ((hb3.alloc hb3.size _).alloc (by simp; have := hb3.size; omega) _).trans (b5.mono (by simp; have := hb3.size; omega))
  clear b5 hk1 hy1 hD2 hR3 hB3 hb3
  go_wp2_with (first | ((with_reducible show wpList _ _ _ (⟨some 21, _, _, _, _, _⟩ :: _) _ _); refine wpList_loadBlk rfl 23 (.tmp 9) rfl w1.heap.size (by rfl) _ _ _ hD5 Tryz.underlying23 rfl (by rw [bv_size, H32.out]; exact Tryz.sizeHash) ?_) | ((with_reducible show wpList _ _ _ (⟨none, Op.store _ (.tmp 8) _, _, _, _, _⟩ :: _) _ _); refine wpList_storeBlk rfl 23 (.tmp 8) (.tmp 21) rfl (w.heap.size + 1) (y.map bv).toArray (by rfl) (by rfl) _ _ hR5 (by rw [bv_size, H32.out]; exact Tryz.sizeHash) (by rw [bv_size, H32.out, Z32_size]) (bv_all _) ?_; intro w9 hB9 g9; have h9 := hb5.trans (grown_below g9 (by omega) hb5.size)))
  refine ret_blk rfl (w.heap.size + 1) _ _ _ (by rfl) hB9 Tryz.underlying23 rfl (by rw [bv_size, H32.out]; exact Tryz.sizeHash) rfl ?_
  rw [← HY.out]
  exact ⟨rfl, h9⟩
end Go.Proofs.YtjlpdbaknhbgdaaGreat
set_option linter.unusedSimpArgs false
set_option linter.unusedVariables false
namespace Go.Proofs.YtjlpdbaknhbgdaaGreat
open Go.RowKit

def HashesAt (w : World) (v : Value) (l : List (List UInt8)) : Prop :=
  (∀ h ∈ l, h.length = 32) ∧ ((l = [] ∧ ∃ ao, v = .slice ao 0 0) ∨ ∃ g o c, v = .slice (some ⟨g, o, none⟩) l.length c ∧ l.length ≤ c ∧ g < w.heap.size ∧ ∀ j u, (l.flatMap (·.map bv))[j]? = some u → w.cell? ⟨g, o + j, none⟩ = some u)
theorem HashesAt.below {w w' : World} {v : Value} {l : List (List UInt8)} (h : HashesAt w v l) (b : Below w.heap.size w w') : HashesAt w' v l := by
  refine ⟨h.1, ?_⟩
  rcases h.2 with h0 | ⟨g, o, c, rfl, hc, hlt, hcell⟩
  · exact .inl h0
  · exact .inr ⟨g, o, c, rfl, hc, Nat.lt_of_lt_of_le hlt b.size, fun j u hj => (b.cell (p := ⟨g, o + j, none⟩) hlt).trans (hcell j u hj)⟩
theorem HashesAt.slice {w : World} {v : Value} {l : List (List UInt8)} (h : HashesAt w v l) : ∃ ao c, v = .slice ao l.length c ∧ l.length ≤ c := by
  rcases h.2 with ⟨rfl, ao, rfl⟩ | ⟨g, o, c, rfl, hc, _⟩
  · exact ⟨_, _, rfl, Nat.le_refl _⟩
  · exact ⟨_, _, rfl, hc⟩
theorem hashes_at : ∀ (l : List (List UInt8)) (i : Nat) (s : List UInt8) (j : Nat), (∀ s ∈ l, s.length = 32) → l[i]? = some s → j < 32 → (l.flatMap (·.map bv))[32 * i + j]? = (s.map bv)[j]?
  | [], i, s, j, _, h, _ => by simp at h
  | t :: l, 0, s, j, hl, h, hj => by
    obtain rfl : t = s := by simpa using h
    rw [List.flatMap_cons, List.getElem?_append_left (by rw [List.length_map, hl t List.mem_cons_self]; omega), Nat.mul_zero, Nat.zero_add]
  | t :: l, i + 1, s, j, hl, h, hj => by
    have h32 := hl t List.mem_cons_self
    rw [List.flatMap_cons, List.getElem?_append_right (by rw [List.length_map]; omega), List.length_map, h32, show 32 * (i + 1) + j - 32 = 32 * i + j by omega]
    exact hashes_at l i s j (fun s hs => hl s (List.mem_cons_of_mem _ hs)) (by simpa using h) hj
/-- Where the digest k lies. -/
theorem HashesAt.range {w : World} {ao : Option Addr} {n c : Nat} {l : List (List UInt8)} (h : HashesAt w (.slice ao n c) l) (i : Nat) (s : List UInt8) (hi : l[i]? = some s) : ∃ g o, ao = some ⟨g, o, none⟩ ∧ w.rangeAt g (o + i * 32) (s.map bv) := by
  rcases h.2 with ⟨rfl, h0⟩ | ⟨g, o, c', he, _, hlt, hcell⟩
  · simp at hi
  · simp only [Value.slice.injEq] at he
    refine ⟨g, o, he.1, fun j u hj => ?_⟩
    have hs : s.length = 32 := h.1 s (List.mem_of_getElem? hi)
    have hj32 : j < 32 := by have := (List.getElem?_eq_some_iff.1 hj).1; rw [List.length_map, hs] at this; exact this
    have := hcell (32 * i + j) u (by rw [hashes_at l i s j h.1 hi hj32]; exact hj)
    rwa [show o + (32 * i + j) = o + i * 32 + j by omega] at this
theorem HashesAt.range' {w : World} {g o n c : Nat} {l : List (List UInt8)} (h : HashesAt w (.slice (some ⟨g, o, none⟩) n c) l) (i : Nat) (s : List UInt8) (hi : l[i]? = some s) : w.rangeAt g (o + i * 32) (s.map bv) := by
  obtain ⟨g', o', he, hr⟩ := h.range i s hi
  simp only [Option.some.injEq, Addr.mk.injEq] at he
  obtain ⟨rfl, rfl, _⟩ := he
  exact hr
theorem HashesAt.own {w : World} {e : TypeId} {base n : Nat} {v : Value} {l : List (List UInt8)} (h : w.ownsRow base e 32 v n (l.flatMap (·.map bv))) (hl : ∀ s ∈ l, s.length = 32) (hn : n = l.length) : HashesAt w v l := by
  subst hn
  refine ⟨hl, ?_⟩
  rcases h.2 with ⟨h0, h1⟩ | ⟨g, cap, cur, rfl, hb, hg, h1, h2, h3, h4⟩
  · exact .inl ⟨List.eq_nil_of_length_eq_zero h1, none, h0⟩
  · refine .inr ⟨g, 0, cap, rfl, h1, lt_of_block hg, fun j u hj => ?_⟩
    have hlt : j < l.length * 32 := by
      have := (List.getElem?_eq_some_iff.1 hj).1
      rw [h.1] at this; exact this
    have e : (cur.toList.take (l.length * 32))[j]? = some u := by rw [h4]; exact hj
    rw [List.getElem?_take_of_lt hlt] at e
    have : cur[j]? = some u := by simpa using e
    simp [World.cell?, hg, this]
end Go.Proofs.YtjlpdbaknhbgdaaGreat
set_option linter.unusedSimpArgs false
set_option linter.unusedVariables false
namespace Go.Proofs.YtjlpdbaknhbgdaaGreat
open Go.RowKit

set_option maxHeartbeats 4000000 in
set_option maxRecDepth 100000 in
theorem RefDerive_calls (key label context : List UInt8) (w : World) (hk : key.length = 32) (hl : label.length ≤ 68719476736) (hc : context.length ≤ 68719476736) :
    Calls Tryz.prog 100 #[.agg (key.map bv).toArray, .string (str label), .string (str context)] w fun e w' => e = .returned (.agg ((derive key label context).map bv).toArray) ∧ Below w.heap.size w w' := by
  have HK := Lib.hid hk
  clear hk
  have hf4 : (four4 label.length).length ≤ 4 := by simp [four4]
  go_enter Tryz.func100, Tryz.ntmps100
  go_wp2_with fail
  have hB0 : Blk ((w.alloc (.cells (key.map bv).toArray 22)).alloc (.cells Z32 22)) w.heap.size (key.map bv).toArray 22 := (Blk.new _ _ _).alloc _
  have hR0 : Blk ((w.alloc (.cells (key.map bv).toArray 22)).alloc (.cells Z32 22)) (w.heap.size + 1) Z32 22 := blk_new1 _ _ _ _
  have hb0 : Below w.heap.size w ((w.alloc (.cells (key.map bv).toArray 22)).alloc (.cells Z32 22)) := ((Below.refl _ _).alloc (Nat.le_refl _) _).alloc (by simp) _
  generalize (w.alloc (.cells (key.map bv).toArray 22)).alloc (.cells Z32 22) = W0 at hB0 hR0 hb0 ⊢
  have hs0 : w.heap.size + 1 < W0.heap.size := Blk.lt hR0
  have hcv0 : (convert 48 9 (.slice (some ⟨w.heap.size, 0, none⟩) 32 32)).run Tryz.prog W0.drew = .ok (.string (str key)) W0.drew := conv_blk HK.out (Blk.drew hB0)
  have HB0 := Lib.hid hB0
  have HR0 := Lib.hid hR0
  have Hb0 := Lib.hid hb0
  clear hB0 hR0 hb0
  go_region_with (first | (go_at_call 166; refine (RefFour_calls label.length _ (by omega)).mono ?_; rintro e w8 ⟨rfl, b8⟩; have HB8 := Lib.hid (Blk.below (Blk.drew HB0.out) b8 (Blk.lt HB0.out)); have HR8 := Lib.hid (Blk.below (Blk.drew HR0.out) b8 (Blk.lt HR0.out)); have Hb8 : Hid (Below w.heap.size w w8) := (below_drewN Hb0.out 1).trans (b8.mono (by simp; omega)); have hcv8 : (convert 48 9 (.slice (some ⟨w.heap.size, 0, none⟩) 32 32)).run Tryz.prog w8 = .ok (.string (str key)) w8 := conv_blk HK.out HB8.out; have hs8 : w.heap.size + 1 < w8.heap.size := Blk.lt HR8.out; clear b8) | (go_at_call 165; refine (RefCode_calls key (four4 label.length ++ (label ++ context)) _ (by rw [HK.out]; omega) (by simp only [List.length_append]; omega)).mono ?_; rintro e w9 ⟨rfl, b9⟩; have hR9 := Blk.below HR8.out b9 (Blk.lt HR8.out); have Hb9 : Hid (Below w.heap.size w w9) := Hb8.out.trans (b9.mono (by omega)); have hst9 := store32 (P := Tryz.prog) (hmac_len key (four4 label.length ++ (label ++ context))) hR9; have HR9 := Lib.hid hR9; clear b9 hR9))
  all_goals
    have hB9 := Blk.setRow HR9.out ((hmac key (four4 label.length ++ (label ++ context))).map bv).toArray
    have h9 := Hb9.out.trans (grown_below (grown_row w9 (w.heap.size + 1) ((hmac key (four4 label.length ++ (label ++ context))).map bv).toArray) (by omega) Hb9.out.size)
    go_wp2_with fail
    refine ret_blk rfl (w.heap.size + 1) _ _ _ (by rfl) hB9 Tryz.underlying22 rfl (by rw [bv_size, hmac_len]; exact Tryz.sizeA32) rfl ?_
    exact ⟨rfl, h9⟩
end Go.Proofs.YtjlpdbaknhbgdaaGreat
