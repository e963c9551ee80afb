/-
  The document's SHA-256: the digest of a text.
-/
import Derived.Test.YtjlpdbaknhbgdaaF0
import Derived.Test.YtjlpdbaknhbgdaaRefSha
set_option linter.unusedSimpArgs false
set_option linter.unusedVariables false
namespace Go.Proofs.Ytjlpdbaknhbgdaa
open Go.RowKit

theorem Try.sizeS8 : (Try.prog.info? 90).map (·.size) = some 8 := by kernel_rfl
abbrev Z8u : Array Value := #[.int .u32 0, .int .u32 0, .int .u32 0, .int .u32 0, .int .u32 0, .int .u32 0, .int .u32 0, .int .u32 0]

set_option maxHeartbeats 4000000 in
set_option maxRecDepth 100000 in
theorem RefSum_calls (t : List UInt8) (w : World) (hl : t.length ≤ 549755813888) :
    Calls Try.prog 28 #[.string (str t)] w fun e w' => e = .returned (.agg ((sha t).map bv).toArray) ∧ Below w.heap.size w w' := by
  obtain ⟨i8, hi8, hz0, hz1, hz2⟩ := info_parts Try.infoU8
  have HI := Lib.hid hi8
  have HZ0 := Lib.hid hz0
  have HZ1 := Lib.hid hz1
  have HZ2 := Lib.hid hz2
  clear hi8 hz0 hz1 hz2
  have hconv := fun W => Lib.run_convert_string_bytes (P := Try.prog) W 9 45 5 (str t) Try.underlying9 Try.underlying45 Try.underlying5
  have hR0 := (Blk.new w Z32 25).alloc (.cells Z64u 87)
  have hK0 : Blk ((w.alloc (.cells Z32 25)).alloc (.cells Z64u 87)) (w.heap.size + 1) Z64u 87 := by have := Blk.new (w.alloc (.cells Z32 25)) Z64u 87; rwa [show (w.alloc (.cells Z32 25)).heap.size = w.heap.size + 1 by simp] at this
  have hB0 : Below w.heap.size w ((w.alloc (.cells Z32 25)).alloc (.cells Z64u 87)) := ((Below.refl _ _).alloc (Nat.le_refl _) _).alloc (by simp) _
  go_enter Try.func28, Try.ntmps28
  go_wp2_with (first | ((with_reducible show wpList _ _ _ (⟨some 23, _, _, _, _, _⟩ :: _) _ _); refine wpList_build rfl 87 _ rfl (shaK.map uv).toArray (by kernel_rfl) ?_) | ((with_reducible show wpList _ _ _ (⟨none, Op.store _ (.tmp 3) _, _, _, _, _⟩ :: _) _ _); refine wpList_storeBlk rfl 87 (.tmp 3) (.tmp 23) rfl (w.heap.size + 1) (shaK.map uv).toArray (by rfl) (by rfl) _ _ hK0 Try.sizeK (by rfl) (uv_all _) ?_; intro w1 hK1 g1; have hR1 := Blk.grown hR0 g1 (by simp); have hB1 := below_new hB0 g1 (by omega) (by simp; omega); have hs1 := g1.size;  clear hK0 hR0 hB0 g1) | ((with_reducible show wpList _ _ _ (⟨some 28, _, _, _, _, _⟩ :: _) _ _); refine wpList_append_byte _ rfl _ _ 45 rfl 5 i8 (.int .u8 0) Try.underlying45 HI.out HZ0.out HZ1.out HZ2.out rfl w1.heap.size _ t (by rfl) ((OwnM.conv w1 5 t).alloc _) (by omega) (by simp [Lib.bytesWorld_size]; omega) (Lib.bytesWorld w1 5 (str t)).heap.size 1 128 (by rfl) ((Blk.new _ _ _).cell 0 _ rfl) ?_; intro v2 w2 hO2 g2; have hB2 : Below w1.heap.size w1 w2 := ((OwnM.conv_below w1 5 t).alloc (by rw [Lib.bytesWorld_size]; omega) _).grown g2 (by simp [Lib.bytesWorld_size]; omega) (fun k hk => by cases hk; exact Nat.le_refl _); clear g2 hconv))
  obtain ⟨n, hn⟩ : ∃ n, n = t.length := ⟨_, rfl⟩
  have hn40 : n ≤ 549755813888 := by omega
  have HN := Lib.hid hn
  have hZ63 : padZ n ≤ 63 := by unfold padZ; omega
  have HPZ : Hid (∀ z, z ≤ padZ n → ((n + 1 + z) % 64 = 56 ↔ z = padZ n)) := by intro z hz; unfold padZ at hz ⊢; omega
  have HO2 := Lib.hid hO2
  have HB2 := Lib.hid hB2
  have HK1 := Lib.hid hK1
  have HR1 := Lib.hid hR1
  have HB1 := Lib.hid hB1
  clear hn hO2 hB2 hK1 hR1 hB1 hs1
  go_loopw [4] (fun x wr => ∃ (z : Nat) (v : Value), z ≤ padZ n ∧ x = v ∧ Hid (OwnM w1.heap.size 5 wr v (t ++ 128 :: List.replicate z 0)) ∧ Hid (Below w1.heap.size w1 wr)) (fun x _ => n + 100 - sliceLen x)
  case atStart => exact ⟨0, v2, by omega, rfl, HO2.out, HB2⟩
  case round =>
    obtain ⟨z, v, hz, rfl, hO, hbel⟩ := hrel
    clear HO2 HB2
    obtain ⟨g, cap, hv, hg0, hg1, hcap, hrd⟩ := hO.out.read
    obtain ⟨L, hL⟩ : ∃ L, L = (t ++ 128 :: List.replicate z 0).length := ⟨_, rfl⟩
    have hLn : L = n + 1 + z := by rw [hL, HN.out]; simp; omega
    rw [← hL] at hv
    subst hv
    have HL := Lib.hid hL
    have hLb : L ≤ 1099511627776 := by omega
    have HLn := Lib.hid hLn
    clear hrd hL hcap
    by_cases hzz : z = padZ n
    · have hm : (L : Int) % 64 = 56 := by have := (HPZ.out z hz).2 hzz; omega
      clear hLn
      subst hzz
      go_wp2_with fail
      obtain ⟨wo, rfl⟩ : ∃ wo : World, wo = wr := ⟨_, rfl⟩
      have HO5 : Hid (OwnM w1.heap.size 5 wo (.slice (some ⟨g, 0, none⟩) L cap) (t ++ 128 :: List.replicate (padZ n) 0 ++ (be8 (n * 8)).take 0)) := by show OwnM _ _ _ _ _; rw [List.take_zero, List.append_nil]; exact hO.out
      have HB5 := hbel
      clear hO hbel HL HLn hLb hm
      go_loopw [4, 6] (fun x j wr => ∃ (k : Nat) (v : Value), k ≤ 8 ∧ j = .int .i64 k ∧ x = v ∧ Hid (OwnM w1.heap.size 5 wr v (t ++ 128 :: List.replicate (padZ n) 0 ++ (be8 (n * 8)).take k)) ∧ Hid (Below w1.heap.size w1 wr)) (fun _ j _ => 8 - (intOf j).toNat)
      case atStart => exact ⟨0, _, by omega, rfl, rfl, HO5.out, HB5⟩
      case round =>
        obtain ⟨k, v, hk, rfl, rfl, hO, hbel⟩ := hrel
        clear HO5 HB5
        obtain ⟨g, cap, hv, hg0, hg1, hcap, hrd⟩ := hO.out.read
        obtain ⟨L, hL⟩ : ∃ L, L = (t ++ 128 :: List.replicate (padZ n) 0 ++ (be8 (n * 8)).take k).length := ⟨_, rfl⟩
        have hLn : L = n + 1 + padZ n + k := by rw [hL, HN.out]; simp [be8_len]; omega
        rw [← hL] at hv
        subst hv
        have HL := Lib.hid hL
        have hLb : L ≤ 1099511627776 := by omega
        have HLn := Lib.hid hLn
        have HRD := Lib.hid hrd
        clear hL hcap hrd hLn
        have hws : w1.heap.size ≤ wr.heap.size := hbel.out.size
        by_cases hlt8 : k < 8
        · have hval : Value.int .u8 ((t.length : Int) * 8 / 2 ^ (56 - 8 * k) % 256) = bv (UInt8.ofNat (n * 8 / 2 ^ (56 - 8 * k))) := by
            rw [← HN.out]; unfold bv; congr 1 <;> (rw [UInt8.toNat_ofNat']; simp)
          have HV := Lib.hid hval
          clear hval
          go_wp2_with ((with_reducible show wpList _ _ _ (⟨some 53, _, _, _, _, _⟩ :: _) _ _); refine wpList_append_byte _ rfl _ _ 45 rfl 5 i8 (.int .u8 0) Try.underlying45 HI.out HZ0.out HZ1.out HZ2.out rfl w1.heap.size _ (t ++ 128 :: List.replicate (padZ n) 0 ++ (be8 (n * 8)).take k) (by rfl) (hO.out.alloc _) (by rw [← HL.out]; exact hLb) (by simp; omega) wr.heap.size 1 (UInt8.ofNat (n * 8 / 2 ^ (56 - 8 * k))) (by rfl) (by rw [← HV.out]; exact (Blk.new _ _ _).cell 0 _ rfl) ?_)
          intro v3 w3 hO3 g3
          have hB3 : Hid (Below w1.heap.size w1 w3) := (hbel.out.alloc hws _).grown g3 (by simp; omega) (fun k hk => by cases hk; exact hg0)
          have HO3 : Hid (OwnM w1.heap.size 5 w3 v3 (t ++ 128 :: List.replicate (padZ n) 0 ++ (be8 (n * 8)).take (k + 1))) := by
            show OwnM _ _ _ _ _
            rw [be8_take _ _ hlt8]; simpa only [List.append_assoc, List.cons_append] using hO3
          clear hO3 g3
          go_wp2_with fail
          go_roundw
          case rel => exact ⟨k + 1, v3, by omega, by go_num, rfl, HO3, hB3⟩
          case measure => simp [intOf]; omega
        · obtain rfl : k = 8 := by omega
          have e8 : t ++ 128 :: List.replicate (padZ n) 0 ++ (be8 (n * 8)).take 8 = t ++ tailS n := by
            rw [List.take_of_length_le (by rw [be8_len]; omega), tailS_eq, List.append_assoc]
          have hML : (t ++ tailS n).length = L := by rw [← e8]; exact HL.out.symm
          have hMR : ∀ j, j < L → wr.cell? ⟨g, j, none⟩ = some (bv ((t ++ tailS n).getD j 0)) := by
            intro j hj
            have h1 := HRD.out
            rw [e8] at h1
            rw [h1 j (by rw [hML]; exact hj), List.getD_eq_getElem?_getD, List.getElem?_eq_getElem (by rw [hML]; exact hj)]; rfl
          have hL64 : Hid (L = 64 * ((n + 72) / 64)) := by show _ = _; rw [HLn.out]; unfold padZ; omega
          obtain ⟨M, hM⟩ : ∃ M, M = t ++ tailS n := ⟨_, rfl⟩
          rw [← hM] at hML hMR
          have HM := Lib.hid hM
          have HML := Lib.hid hML
          have HMR := Lib.hid hMR
          obtain ⟨V, hV⟩ : ∃ V, V = wr.heap.size := ⟨_, rfl⟩
          have hgV : g < V := by rw [hV]; exact hg1
          have hRV : w.heap.size + 1 < V := by rw [hV]; have h1 := Blk.lt HK1.out; omega
          have hRR := Lib.hid (Blk.below HR1.out hbel.out (Blk.lt HR1.out))
          have hKK := Lib.hid (Blk.below HK1.out hbel.out (Blk.lt HK1.out))
          have hBB : Hid (Below w.heap.size w wr) := HB1.out.trans (hbel.out.mono HB1.out.size)
          have hVB := Blk.new wr (s0.list.map uv).toArray 90
          have hBV : Below wr.heap.size wr (wr.alloc (.cells (s0.list.map uv).toArray 90)) := (Below.refl _ _).alloc (Nat.le_refl _) _
          clear e8 hM hML hMR HRD HL hO hbel hws HPZ HI HZ0 HZ1 HZ2 HR1 HK1 HB1 hg0 hg1
          go_wp2_with fail
          simp only [Int.cast_ofNat_Int]
          obtain ⟨W0, hW0⟩ : ∃ W0, W0 = wr.alloc (.cells (s0.list.map uv).toArray 90) := ⟨_, rfl⟩
          have hW0' : wr.alloc (.cells #[.int .u32 1779033703, .int .u32 3144134277, .int .u32 1013904242, .int .u32 2773480762, .int .u32 1359893119, .int .u32 2600822924, .int .u32 528734635, .int .u32 1541459225] 90) = W0 := by rw [hW0]; rfl
          rw [hW0']
          rw [← hW0] at hVB hBV
          rw [← hV] at hVB hBV ⊢
          have HVB := Lib.hid hVB
          have HBV := Lib.hid hBV
          obtain ⟨wm, rfl⟩ : ∃ wm : World, wm = wr := ⟨_, rfl⟩
          clear hW0 hW0' hV hVB hBV
          go_loopw [8, 9, 10, 11, 12, 13, 14, 15, 16, 17, 18, 19, 20] (fun x _ _ _ _ _ _ _ _ _ _ _ _ wr => ∃ q a : Nat, a ≤ L ∧ x = .int .i64 a ∧ Hid (a = 64 * q) ∧ Hid (Blk wr V ((blocksS q M s0).list.map uv).toArray 90) ∧ Hid (Below V W0 wr)) (fun x _ _ _ _ _ _ _ _ _ _ _ _ _ => L - (intOf x).toNat)
          case atStart => exact ⟨0, 0, by omega, rfl, rfl, HVB.out, Below.refl _ _⟩
          case round =>
            obtain ⟨q, a, ha, rfl, hq, hVB, hbv⟩ := hrel
            clear HVB
            by_cases hltL : a < L
            · have ha64 : a + 64 ≤ L := by have := hq.out; have := hL64.out; omega
              obtain ⟨blk, hblk⟩ : ∃ blk, blk = (M.drop (64 * q)).take 64 := ⟨_, rfl⟩
              have hbl : blk.length = 64 := by rw [hblk, List.length_take, List.length_drop, HML.out]; have := hq.out; omega
              have hby : Hid (∀ j, j < 64 → wm.cell? ⟨g, a + j, none⟩ = some (bv (blk.getD j 0))) := by
                intro j hj
                rw [HMR.out (a + j) (by omega), hblk, List.getD_eq_getElem?_getD, List.getD_eq_getElem?_getD, List.getElem?_take_of_lt hj, List.getElem?_drop, hq.out]
              have HBK := Lib.hid hblk
              have HBL := Lib.hid hbl
              obtain ⟨S, hS⟩ : ∃ S, S = blocksS q M s0 := ⟨_, rfl⟩
              rw [← hS] at hVB
              have HS := Lib.hid hS
              clear hblk hbl hS
              have hVw : V < wr.heap.size := Blk.lt hVB.out
              go_wp2_with fail
              obtain ⟨C, hC⟩ : ∃ C, C = wr.heap.size := ⟨_, rfl⟩
              have hN := Blk.new wr Z64u 87
              have hVB2 := Blk.alloc hVB.out (.cells Z64u 87)
              have hbv2 : Below V W0 (wr.alloc (.cells Z64u 87)) := hbv.out.alloc (by omega) _
              rw [← hC] at hN hVw ⊢
              obtain ⟨W1, hW1⟩ : ∃ W1, W1 = wr.alloc (.cells Z64u 87) := ⟨_, rfl⟩
              rw [← hW1] at hN hVB2 hbv2 ⊢
              rw [Z64u_eq] at hN
              have H1 := Lib.hid hN
              have H2 := Lib.hid hVB2
              have H3 := Lib.hid hbv2
              clear hC hW1 hN hVB2 hbv2 hVB hbv
              obtain ⟨wx, rfl⟩ : ∃ wx : World, wx = wr := ⟨_, rfl⟩
              go_loopw [10] (fun i wr => ∃ k : Nat, k ≤ 16 ∧ i = .int .i64 k ∧ Blk wr C (fillU 64 (w16 blk k)) 87 ∧ Hid (Blk wr V (S.list.map uv).toArray 90) ∧ Hid (Below V W0 wr)) (fun i _ => 16 - (intOf i).toNat)
              case atStart => exact ⟨0, by omega, rfl, H1.out, H2, H3⟩
              case round =>
                obtain ⟨k, hk, rfl, hA, hVB, hbv⟩ := hrel
                clear H1 H2 H3
                by_cases hlt : k < 16
                · have hrd : ∀ j, j < 64 → wr.cell? ⟨g, a + j, none⟩ = some (bv (blk.getD j 0)) := fun j hj => (hbv.out.cell (p := ⟨g, a + j, none⟩) hgV).trans ((HBV.out.cell (p := ⟨g, a + j, none⟩) hgV).trans (hby.out j hj))
                  have hc0 := hrd (4 * k) (by omega)
                  have hc1 := hrd (4 * k + 1) (by omega)
                  have hc2 := hrd (4 * k + 2) (by omega)
                  have hc3 := hrd (4 * k + 3) (by omega)
                  rw [← Nat.add_assoc] at hc1 hc2 hc3
                  have hw16 : Hid (w16 blk (k + 1) = w16 blk k ++ [word4 (blk.getD (4 * k) 0) (blk.getD (4 * k + 1) 0) (blk.getD (4 * k + 2) 0) (blk.getD (4 * k + 3) 0)]) := w16_succ blk k
                  generalize blk.getD (4 * k) 0 = c0 at hc0 hw16
                  generalize blk.getD (4 * k + 1) 0 = c1 at hc1 hw16
                  generalize blk.getD (4 * k + 2) 0 = c2 at hc2 hw16
                  generalize blk.getD (4 * k + 3) 0 = c3 at hc3 hw16
                  have HC0 := Lib.hid hc0
                  have HC1 := Lib.hid hc1
                  have HC2 := Lib.hid hc2
                  have HC3 := Lib.hid hc3
                  have hA0 := hA.cell k _ (by have := fillU_get0 64 (w16 blk k) (by rw [w16_len]; omega); rwa [w16_len] at this)
                  have hAf := hA.free k
                  clear hrd hc0 hc1 hc2 hc3
                  go_wp2_with fail
                  rw [show ((a : Int) + 4 * (k : Int)) = ((a + 4 * k : Nat) : Int) by omega]
                  refine (word_calls g L cap (a + 4 * k) c0 c1 c2 c3 _ (by omega) hLb HC0.out HC1.out HC2.out HC3.out).mono ?_
                  rintro e w9 ⟨rfl, nd, rfl⟩
                  go_wp2_with fail
                  go_roundw
                  case rel =>
                    refine ⟨k + 1, by omega, by go_num, ?_, Blk.setOther (Blk.drewN hVB.out _) _ _ (by simp; omega), below_new (below_drewN hbv.out _) (grown_set (World.grownBy.refl _ (some C)) k _) (by omega) (by simpa using (Nat.le_trans (Nat.le_of_lt hVw) (Nat.le_of_lt (Blk.lt hA))))⟩
                    rw [hw16.out]
                    have h1 := (Blk.drewN hA nd).set k (uv (word4 c0 c1 c2 c3))
                    have h2 := fillU_set 64 (w16 blk k) (word4 c0 c1 c2 c3) (by rw [w16_len]; omega)
                    rw [w16_len] at h2
                    rw [h2] at h1
                    exact h1
                  case measure => simp [intOf]; omega
                · obtain rfl : k = 16 := by omega
                  have HA5 : Hid (Blk wr C (fillU 64 (wl (w16 blk 16) 0)) 87) := hA
                  clear hA
                  go_wp2_with fail
                  simp only [Int.cast_ofNat_Int]
                  obtain ⟨wy, rfl⟩ : ∃ wy : World, wy = wr := ⟨_, rfl⟩
                  go_loopw [11, 12, 13] (fun i _ _ wr => ∃ k j : Nat, k ≤ 48 ∧ 16 ≤ j ∧ j ≤ 64 ∧ i = .int .i64 j ∧ Hid (j = 16 + k) ∧ Blk wr C (fillU 64 (wl (w16 blk 16) k)) 87 ∧ Hid (Blk wr V (S.list.map uv).toArray 90) ∧ Hid (Below V W0 wr)) (fun i _ _ _ => 64 - (intOf i).toNat)
                  case atStart => exact ⟨0, 16, by omega, by omega, by omega, rfl, rfl, HA5.out, hVB, hbv⟩
                  case round =>
                    obtain ⟨k, j, hk, hj0, hj1, rfl, HJ, hA, hVB, hbv⟩ := hrel
                    clear HA5
                    have HLEN : Hid ((wl (w16 blk 16) k).length = j) := by show _ = _; rw [wl_len, w16_len]; exact HJ.out.symm
                    by_cases hlt : j < 64
                    · have hnx : Hid (wl (w16 blk 16) (k + 1) = wl (w16 blk 16) k ++ [wnext (wl (w16 blk 16) k)]) := rfl
                      generalize wl (w16 blk 16) k = l at hA HLEN hnx
                      have hw15 := hA.cell (j - 15) _ (fillU_get 64 l (j - 15) (by have := HLEN.out; omega))
                      have hw2 := hA.cell (j - 2) _ (fillU_get 64 l (j - 2) (by have := HLEN.out; omega))
                      have hw16 := hA.cell (j - 16) _ (fillU_get 64 l (j - 16) (by have := HLEN.out; omega))
                      have hw7 := hA.cell (j - 7) _ (fillU_get 64 l (j - 7) (by have := HLEN.out; omega))
                      have hwj := hA.cell j _ (by have h1 := fillU_get0 64 l (by have := HLEN.out; omega); rw [HLEN.out] at h1; exact h1)
                      have hfj := hA.free j
                      have HNX : Hid (wnext l = l.getD (j - 16) 0 + l.getD (j - 7) 0 + (rotr (l.getD (j - 15) 0) 7 ^^^ rotr (l.getD (j - 15) 0) 18 ^^^ (l.getD (j - 15) 0 >>> 3)) + (rotr (l.getD (j - 2) 0) 17 ^^^ rotr (l.getD (j - 2) 0) 19 ^^^ (l.getD (j - 2) 0 >>> 10))) := by show _ = _; rw [← HLEN.out]; rfl
                      generalize l.getD (j - 15) 0 = x at hw15 HNX
                      generalize l.getD (j - 2) 0 = y at hw2 HNX
                      generalize l.getD (j - 16) 0 = x16 at hw16 HNX
                      generalize l.getD (j - 7) 0 = x7 at hw7 HNX
                      unfold uv at hw15 hw2 hw16 hw7 hwj
                      have HI := Lib.hid (wnext_int x16 x7 x y)
                      go_wp2_with fail
                      refine wp_still_store 29 (by kernel_rfl) (by kernel_rfl) ?_
                      simp only [List.take_succ_cons, List.take_zero, List.drop_succ_cons, List.drop_zero]
                      repeat (first | go_big_quiet_skip | (go_big_quiet_want; go_big_quiet_op; first | go_big_quiet_on | (apply Exists.intro; apply And.intro; (first | (with_reducible exact trn7' _ _) | (with_reducible exact trn18' _ _) | (with_reducible exact trn17' _ _) | (with_reducible exact trn19' _ _)); go_big_quiet_on)))
                      refine wpQuiet_nil ?_
                      go_wp2_with fail
                      go_roundw
                      case rel =>
                        rw [HI.out]
                        refine ⟨k + 1, j + 1, by have := HJ.out; omega, by omega, by omega, by go_num, by show _ = _; have := HJ.out; omega, ?_, Blk.drew (Blk.setOther hVB.out _ _ (by simp; omega)), ?_⟩
                        · rw [hnx.out, HNX.out]
                          have h1 := hA.set j (uv (x16 + x7 + (rotr x 7 ^^^ rotr x 18 ^^^ (x >>> 3)) + (rotr y 17 ^^^ rotr y 19 ^^^ (y >>> 10))))
                          have h2 := fillU_set 64 l (x16 + x7 + (rotr x 7 ^^^ rotr x 18 ^^^ (x >>> 3)) + (rotr y 17 ^^^ rotr y 19 ^^^ (y >>> 10))) (by have := HLEN.out; omega)
                          rw [HLEN.out] at h2
                          rw [h2] at h1
                          exact Blk.drew h1
                        · exact below_new hbv.out (grown_drew (grown_set (World.grownBy.refl _ (some C)) j _)) (by omega) (Nat.le_trans (Nat.le_of_lt hVw) (Nat.le_of_lt (Blk.lt hA)))
                      case measure => simp [intOf]; omega
                    · obtain rfl : j = 64 := by omega
                      have hk48 : k = 48 := by have := HJ.out; omega
                      rw [hk48] at hA
                      rw [← sched_wl] at hA
                      clear hk48
                      obtain ⟨sc, hsc⟩ : ∃ sc, sc = sched blk := ⟨_, rfl⟩
                      have hsl : sc.length = 64 := by rw [hsc, sched_wl, wl_len, w16_len]
                      rw [← hsc] at hA
                      have HSC := Lib.hid hsc
                      have HSL := Lib.hid hsl
                      obtain ⟨Z, hZ⟩ : ∃ Z, Z = shaK.zip sc := ⟨_, rfl⟩
                      have HZ := Lib.hid hZ
                      clear hZ hsc hsl
                      have hVD : V < wr.heap.size := Blk.lt hVB.out
                      obtain ⟨D, hD⟩ : ∃ D, D = wr.heap.size := ⟨_, rfl⟩
                      have hCD : C < D := by rw [hD]; exact Blk.lt hA
                      have hZ8 := Blk.new wr Z8u 90
                      have hDs : Hid (wr.heap.size ≤ D) := Nat.le_of_eq hD.symm
                      go_wp2_with (first | ((with_reducible show wpList _ _ _ (⟨some 114, _, _, _, _, _⟩ :: _) _ _); refine wpList_loadBlk rfl 90 (.tmp 7) rfl V (by rfl) _ _ _ hVB.out Try.underlying90 rfl Try.sizeS8 ?_) | ((with_reducible show wpList _ _ _ (⟨none, Op.store _ (.tmp 14) _, _, _, _, _⟩ :: _) _ _); refine wpList_storeBlk rfl 90 (.tmp 14) (.tmp 114) rfl wr.heap.size (S.list.map uv).toArray (by rfl) (by rfl) _ _ hZ8 Try.sizeS8 (by rfl) (uv_all _) ?_; intro w5 hD5 gd5; rw [← hD] at hD5 gd5 hVD ⊢; have hA6 : Blk w5 C (fillU 64 sc) 87 := Blk.grown (Blk.alloc hA _) gd5 (by simp; omega); have hVB6 : Hid (Blk w5 V (S.list.map uv).toArray 90) := Blk.grown (Blk.alloc hVB.out _) gd5 (by simp; omega); have hbv6 : Hid (Below V W0 w5) := below_new (hbv.out.alloc (by omega) _) gd5 (by omega) (by simp; omega); clear gd5 hA hVB hbv hZ8))
                      rw [← hD]
                      have HD5 := Lib.hid hD5
                      have HA6 := Lib.hid hA6
                      clear hD hD5 hA6 hDs
                      obtain ⟨wz, rfl⟩ : ∃ wz : World, wz = wr := ⟨_, rfl⟩
                      go_loopw [15, 16, 17, 18, 19] (fun i _ _ _ _ wr => ∃ (k : Nat) (T : S8), k ≤ 64 ∧ i = .int .i64 k ∧ Hid (T = turns (Z.take k) S) ∧ Blk wr D (T.list.map uv).toArray 90 ∧ Blk wr C (fillU 64 sc) 87 ∧ Hid (Blk wr V (S.list.map uv).toArray 90) ∧ Hid (Below V W0 wr)) (fun i _ _ _ _ _ => 64 - (intOf i).toNat)
                      case atStart => exact ⟨0, S, by omega, rfl, rfl, HD5.out, HA6.out, hVB6, hbv6⟩
                      case round =>
                        obtain ⟨k, T, hk, rfl, HT, hD, hA, hVB, hbv⟩ := hrel
                        clear HD5 HA6 hVB6 hbv6
                        by_cases hlt : k < 64
                        · have hkk : wr.cell? ⟨w.heap.size + 1, k, none⟩ = some (uv (shaK.getD k 0)) := (hbv.out.cell (p := ⟨w.heap.size + 1, k, none⟩) hRV).trans ((HBV.out.cell (p := ⟨w.heap.size + 1, k, none⟩) hRV).trans (hKK.out.cell k _ (by show (shaK.map uv).toArray[k]? = _; rw [List.getElem?_toArray, List.getElem?_map, List.getElem?_eq_getElem (show k < shaK.length from hlt), List.getD_eq_getElem?_getD, List.getElem?_eq_getElem (show k < shaK.length from hlt)]; rfl)))
                          have hwk := hA.cell k _ (fillU_get 64 sc k (by rw [HSL.out]; omega))
                          have HT' : Hid (turns (Z.take (k + 1)) S = turnS T (shaK.getD k 0) (sc.getD k 0)) := by
                            show _ = _
                            have hk2 : k < shaK.length := hlt
                            have hk3 : k < sc.length := by rw [HSL.out]; exact hlt
                            rw [turns_take Z S k (by rw [HZ.out, List.length_zip, HSL.out]; show k < min 64 64; omega), ← HT.out]
                            congr 1
                            · simp only [HZ.out, List.getElem_zip]
                              rw [List.getD_eq_getElem?_getD, List.getElem?_eq_getElem hk2]; rfl
                            · simp only [HZ.out, List.getElem_zip]
                              rw [List.getD_eq_getElem?_getD, List.getElem?_eq_getElem hk3]; rfl
                          generalize shaK.getD k 0 = kk at hkk HT'
                          generalize sc.getD k 0 = ww at hwk HT'
                          have g0 := hD.cell 0 _ (show _ = some (uv T.a) from rfl)
                          have g1 := hD.cell 1 _ (show _ = some (uv T.b) from rfl)
                          have g2 := hD.cell 2 _ (show _ = some (uv T.c) from rfl)
                          have g3 := hD.cell 3 _ (show _ = some (uv T.d) from rfl)
                          have g4 := hD.cell 4 _ (show _ = some (uv T.e) from rfl)
                          have g5 := hD.cell 5 _ (show _ = some (uv T.f) from rfl)
                          have g6 := hD.cell 6 _ (show _ = some (uv T.g) from rfl)
                          have g7 := hD.cell 7 _ (show _ = some (uv T.h) from rfl)
                          unfold uv at hwk hkk g0 g1 g2 g3 g4 g5 g6 g7
                          go_wp2_with fail
                          refine wp_region_quiet_lit (by kernel_rfl) (by kernel_rfl) ?_
                          repeat (first | go_big_quiet_skip | (go_big_quiet_want; go_big_quiet_op; first | go_big_quiet_on | (apply Exists.intro; apply And.intro; (intro nz; (first | (with_reducible exact trnq6 _ _ _) | (with_reducible exact trnq11 _ _ _) | (with_reducible exact trnq25 _ _ _))); go_big_quiet_on)))
                          refine wpQuiet_nil ?_
                          intro _ hw'
                          obtain ⟨nq, hw''⟩ := hw'
                          subst hw''
                          simp only [uxor, uand, unot, uadd2, uadd3, uadd4]
                          obtain ⟨T1, hT1⟩ : ∃ T1, T1 = t1 T kk ww := ⟨_, rfl⟩
                          have hT1' : T.h + (rotr T.e 6 ^^^ rotr T.e 11 ^^^ rotr T.e 25) + (T.e &&& T.f ^^^ ~~~T.e &&& T.g) + kk + ww = T1 := hT1.symm
                          rw [hT1']
                          have HT1 := Lib.hid hT1
                          clear hT1 hT1' hkk hwk g0 g1 g2 g3 g4 g5 g6 g7
                          have hD2 := Blk.drewN hD nq
                          have hA2 := Blk.drewN hA nq
                          have hVB2 : Hid (Blk (wr.drewN nq) V (S.list.map uv).toArray 90) := Blk.drewN hVB.out nq
                          have hbv2 : Hid (Below V W0 (wr.drewN nq)) := below_drewN hbv.out nq
                          generalize wr.drewN nq = wr2 at hD2 hA2 hVB2 hbv2 ⊢
                          clear hD hA hVB hbv
                          have g0 := hD2.cell 0 _ (show _ = some (uv T.a) from rfl)
                          have g1 := hD2.cell 1 _ (show _ = some (uv T.b) from rfl)
                          have g2 := hD2.cell 2 _ (show _ = some (uv T.c) from rfl)
                          have g3 := hD2.cell 3 _ (show _ = some (uv T.d) from rfl)
                          have g4 := hD2.cell 4 _ (show _ = some (uv T.e) from rfl)
                          have g5 := hD2.cell 5 _ (show _ = some (uv T.f) from rfl)
                          have g6 := hD2.cell 6 _ (show _ = some (uv T.g) from rfl)
                          have g7 := hD2.cell 7 _ (show _ = some (uv T.h) from rfl)
                          unfold uv at g0 g1 g2 g3 g4 g5 g6 g7
                          go_wp2_with fail
                          refine wp_region_quiet_lit (by kernel_rfl) (by kernel_rfl) ?_
                          repeat (first | go_big_quiet_skip | (go_big_quiet_want; go_big_quiet_op; first | go_big_quiet_on | (apply Exists.intro; apply And.intro; (intro nz; (first | (with_reducible exact trnq2 _ _ _) | (with_reducible exact trnq13 _ _ _) | (with_reducible exact trnq22 _ _ _))); go_big_quiet_on)))
                          refine wpQuiet_nil ?_
                          intro _ hw'
                          obtain ⟨nq2, hw''⟩ := hw'
                          subst hw''
                          simp only [uxor, uand, unot, uadd2, uadd3, uadd4]
                          obtain ⟨T2, hT2⟩ : ∃ T2, T2 = t2 T := ⟨_, rfl⟩
                          have hT2' : (rotr T.a 2 ^^^ rotr T.a 13 ^^^ rotr T.a 22) + (T.a &&& T.b ^^^ T.a &&& T.c ^^^ T.b &&& T.c) = T2 := hT2.symm
                          rw [hT2']
                          have HT2 := Lib.hid hT2
                          clear hT2 hT2' g0 g1 g2 g3 g4 g5 g6 g7
                          have hD3 := Blk.drewN hD2 nq2
                          have hA3 := Blk.drewN hA2 nq2
                          have hVB3 : Hid (Blk (wr2.drewN nq2) V (S.list.map uv).toArray 90) := Blk.drewN hVB2.out nq2
                          have hbv3 : Hid (Below V W0 (wr2.drewN nq2)) := below_drewN hbv2.out nq2
                          generalize wr2.drewN nq2 = wr3 at hD3 hA3 hVB3 hbv3 ⊢
                          clear hD2 hA2 hVB2 hbv2
                          have g0 := hD3.cell 0 _ (show _ = some (uv T.a) from rfl)
                          have g1 := hD3.cell 1 _ (show _ = some (uv T.b) from rfl)
                          have g2 := hD3.cell 2 _ (show _ = some (uv T.c) from rfl)
                          have g3 := hD3.cell 3 _ (show _ = some (uv T.d) from rfl)
                          have g4 := hD3.cell 4 _ (show _ = some (uv T.e) from rfl)
                          have g5 := hD3.cell 5 _ (show _ = some (uv T.f) from rfl)
                          have g6 := hD3.cell 6 _ (show _ = some (uv T.g) from rfl)
                          unfold uv at g0 g1 g2 g3 g4 g5 g6
                          have HTT : Hid (turnS T kk ww = ⟨T1 + T2, T.a, T.b, T.c, T.d + T1, T.e, T.f, T.g⟩) := by show _ = _; rw [HT1.out, HT2.out]; rfl
                          go_wp2_with ((with_reducible show wpList _ _ _ (⟨none, Op.store _ (.tmp 14) _, _, _, _, _⟩ :: _) _ _); simp only [uadd2]; refine wpList_storeBlk rfl 90 (.tmp 14) (.tmp 196) rfl D ((turnS T kk ww).list.map uv).toArray (by rfl) (by rw [HTT.out]; rfl) _ _ hD3 Try.sizeS8 (by rfl) (uv_all _) ?_; intro w5 hD5 gd5; have hA6 : Blk w5 C (fillU 64 sc) 87 := Blk.grown hA3 gd5 (by simp; omega); have hVB6 : Hid (Blk w5 V (S.list.map uv).toArray 90) := Blk.grown hVB3.out gd5 (by simp; omega); have hbv6 : Hid (Below V W0 w5) := below_new hbv3.out gd5 (by omega) (by have := Blk.lt hA3; omega); clear gd5 hA3 hVB3 hbv3 hD3)
                          go_roundw
                          case rel => exact ⟨k + 1, turnS T kk ww, by omega, by go_num, HT'.out.symm, hD5, hA6, hVB6, hbv6⟩
                          case measure => simp [intOf]; omega
                        · obtain rfl : k = 64 := by omega
                          have hlt' : Z.take 64 = Z := List.take_of_length_le (by rw [HZ.out, List.length_zip, HSL.out]; show min 64 64 ≤ 64; omega)
                          have HTT : Hid (T = turns Z S) := by show _ = _; rw [HT.out, hlt']
                          clear HT hlt' hA
                          go_wp2_with fail
                          simp only [Int.cast_ofNat_Int]
                          obtain ⟨wq, rfl⟩ : ∃ wq : World, wq = wr := ⟨_, rfl⟩
                          have HD7 := Lib.hid hD
                          have HV7 : Hid (Blk wq V ((addK S T 0).map uv).toArray 90) := hVB.out
                          have hbv7 := hbv
                          clear hD hVB hbv
                          go_loopw [20] (fun i wr => ∃ k : Nat, k ≤ 8 ∧ i = .int .i64 k ∧ Blk wr D (T.list.map uv).toArray 90 ∧ Blk wr V ((addK S T k).map uv).toArray 90 ∧ Hid (Below V W0 wr)) (fun i _ => 8 - (intOf i).toNat)
                          case atStart => exact ⟨0, by omega, rfl, HD7.out, HV7.out, hbv7⟩
                          case round =>
                            obtain ⟨k, hk, rfl, hD, hV, hbv⟩ := hrel
                            clear HD7 HV7 hbv7
                            by_cases hlt : k < 8
                            · obtain ⟨e1, e2, e3⟩ := addK_facts S T k hlt
                              have hc := hV.cell k (uv (S.list.getD k 0)) (by rw [← e2, List.getElem?_toArray, List.getElem?_map, List.getD_eq_getElem?_getD, List.getElem?_eq_getElem (by rw [e1]; exact hlt)]; rfl)
                              have hd := hD.cell k (uv (T.list.getD k 0)) (by rw [List.getElem?_toArray, List.getElem?_map, List.getD_eq_getElem?_getD, List.getElem?_eq_getElem (show k < 8 from hlt)]; rfl)
                              have hf := hV.free k
                              have hst := hV.set k (uv (S.list.getD k 0 + T.list.getD k 0))
                              rw [List.setIfInBounds_toArray, ← List.map_set, e3] at hst
                              have HST := Lib.hid hst
                              clear e1 e2 e3 hst
                              generalize S.list.getD k 0 = x at hc HST
                              generalize T.list.getD k 0 = y at hd HST
                              unfold uv at hc hd HST
                              go_wp2_with fail
                              refine wp_still_store 9 (by kernel_rfl) (by kernel_rfl) ?_
                              simp only [List.take_succ_cons, List.take_zero, List.drop_succ_cons, List.drop_zero]
                              repeat (first | go_big_quiet_skip | (go_big_quiet_want; go_big_quiet_op; go_big_quiet_on))
                              refine wpQuiet_nil ?_
                              go_wp2_with fail
                              go_roundw
                              case rel =>
                                simp only [uadd2]
                                exact ⟨k + 1, by omega, by go_num, Blk.drew (hD.setOther _ _ (by simp; omega)), Blk.drew HST.out, hbv.out.trans (grown_below (grown_drew (grown_set (World.grownBy.refl _ (some V)) _ _)) (Nat.le_refl _) (Nat.le_of_lt (Blk.lt hV)))⟩
                              case measure => simp [intOf]; omega
                            · obtain rfl : k = 8 := by omega
                              have hfin : addK S T 8 = (blocksS (q + 1) M s0).list := by
                                rw [blocksS_succ, ← HBK.out, ← HS.out, compS, ← HSC.out, ← HZ.out, ← HTT.out]; rfl
                              rw [hfin] at hV
                              have HV9 := Lib.hid hV
                              clear hfin hV hD
                              go_wp2_with fail
                              go_roundw
                              case rel => exact ⟨q + 1, a + 64, ha64, by go_num, by show _ = _; have := hq.out; omega, HV9, hbv⟩
                              case measure => simp [intOf]; omega
            · have hqq : q = (n + 72) / 64 := by have := hq.out; have := hL64.out; omega
              obtain ⟨S, hS⟩ : ∃ S, S = blocksS q M s0 := ⟨_, rfl⟩
              rw [← hS] at hVB
              have hflat : S.list.flatMap out4 = sha t := by rw [hS, hqq, HM.out, HN.out]; rfl
              have HF := Lib.hid hflat
              have hRW : Blk wr w.heap.size Z32 25 := Blk.below (Blk.below hRR.out HBV.out (by omega)) hbv.out (by omega)
              have hVw : V < wr.heap.size := Blk.lt hVB.out
              have hall : Hid (Below w.heap.size w wr) := hBB.out.trans ((HBV.out.mono (by omega)).trans (hbv.out.mono (by omega)))
              have hO := Blk.new wr Z32 25
              have hVB2 := Blk.alloc hVB.out (.cells Z32 25)
              have hR2 := Blk.alloc hRW (.cells Z32 25)
              have hall2 : Hid (Below w.heap.size w (wr.alloc (.cells Z32 25))) := hall.out.alloc hall.out.size _
              clear hS hqq hflat hVB hbv hRW
              go_wp2_with fail
              obtain ⟨O, hOO⟩ : ∃ O, O = wr.heap.size := ⟨_, rfl⟩
              have hRO : w.heap.size ≤ O := by rw [hOO]; exact hall.out.size
              obtain ⟨W7, hW7⟩ : ∃ W7, W7 = wr.alloc (.cells Z32 25) := ⟨_, rfl⟩
              rw [← hW7] at hO hVB2 hR2 hall2 ⊢
              rw [← hOO] at hO hVw ⊢
              rw [show Z32 = fillB 32 0 (sha t) by rw [Z32_eq]; simp [fillB]] at hO
              have HO := Lib.hid hO
              have HV2 := Lib.hid hVB2
              have HR2 := Lib.hid hR2
              clear hOO hW7 hO hVB2 hR2 hall
              obtain ⟨wx, rfl⟩ : ∃ wx : World, wx = wr := ⟨_, rfl⟩
              go_loopw [22] (fun j wr => ∃ i : Nat, i ≤ 32 ∧ j = .int .i64 i ∧ Blk wr O (fillB 32 i (sha t)) 25 ∧ Blk wr V (S.list.map uv).toArray 90 ∧ Blk wr w.heap.size Z32 25 ∧ Hid (Below w.heap.size w wr)) (fun j _ => 32 - (intOf j).toNat)
              case atStart => exact ⟨0, by omega, rfl, HO.out, HV2.out, HR2.out, hall2⟩
              case round =>
                obtain ⟨i, hi, rfl, hO, hV, hZ, hbel⟩ := hrel
                clear HO HV2 HR2 hall2
                have h32 := sha_len t
                by_cases hlt32 : i < 32
                · have hh := hV.cell (i / 4) (uv (S.list.getD (i / 4) 0)) (by rw [List.getElem?_toArray, List.getElem?_map, List.getD_eq_getElem?_getD, List.getElem?_eq_getElem (show i / 4 < 8 by omega)]; rfl)
                  have hc := hO.cell i _ (fillB_get 32 i (sha t) (by omega) hlt32)
                  have hf := hO.free i
                  have hv := Lib.hid (flat_val S (sha t) HF.out i hlt32 (by omega))
                  have hset := hO.set i (bv ((sha t)[i]'(by omega)))
                  rw [fillB_set 32 i (sha t) (by omega) hlt32] at hset
                  have HSET := Lib.hid hset
                  clear hset
                  generalize (sha t)[i]'(by rw [sha_len]; exact hlt32) = c at hv HSET
                  clear h32
                  generalize S.list.getD (i / 4) 0 = x at hh hv
                  unfold bv at hc
                  unfold uv at hh
                  go_wp2_with fail
                  go_roundw
                  case rel =>
                    rw [hv.out]
                    exact ⟨i + 1, by omega, by go_num, HSET.out, hV.setOther _ _ (by simp; omega), hZ.setOther _ _ (by simp; omega), hbel.out.trans (grown_below (grown_set (World.grownBy.refl _ (some O)) _ _) (by omega) hbel.out.size)⟩
                  case measure => simp [intOf]; omega
                · obtain rfl : i = 32 := by omega
                  rw [fillB_all 32 _ h32] at hO
                  have H32 := Lib.hid h32
                  clear h32
                  go_wp2_with (first | ((with_reducible show wpList _ _ _ (⟨some 227, _, _, _, _, _⟩ :: _) _ _); refine wpList_loadBlk rfl 25 (.tmp 21) rfl O (by rfl) _ _ _ hO Try.underlying25 rfl (by rw [bv_size, H32.out]; exact Try.sizeA32) ?_) | ((with_reducible show wpList _ _ _ (⟨none, Op.store _ (.tmp 2) _, _, _, _, _⟩ :: _) _ _); refine wpList_storeBlk rfl 25 (.tmp 2) (.tmp 227) rfl w.heap.size ((sha t).map bv).toArray (by rfl) (by rfl) _ _ hZ (by rw [bv_size, H32.out]; exact Try.sizeA32) (by rw [bv_size, H32.out, Z32_size]) (bv_all _) ?_; intro w9 hB9 hg9; have h9 := hbel.out.trans (grown_below hg9 (Nat.le_refl _) hbel.out.size)))
                  refine ret_blk rfl w.heap.size _ _ _ (by rfl) hB9 Try.underlying25 rfl (by rw [bv_size, H32.out]; exact Try.sizeA32) rfl ?_
                  exact ⟨rfl, h9⟩
    · have hm : ((L : Int) % 64 == 56) = false := by have := mt (HPZ.out z hz).1 hzz; simp; omega
      clear hLn
      have hws : w1.heap.size ≤ wr.heap.size := hbel.out.size
      go_wp2_with ((with_reducible show wpList _ _ _ (⟨some 35, _, _, _, _, _⟩ :: _) _ _); refine wpList_append_byte _ rfl _ _ 45 rfl 5 i8 (.int .u8 0) Try.underlying45 HI.out HZ0.out HZ1.out HZ2.out rfl w1.heap.size _ (t ++ 128 :: List.replicate z 0) (by rfl) (hO.out.alloc _) (by rw [← HL.out]; exact hLb) (by simp; omega) wr.heap.size 1 0 (by rfl) ((Blk.new _ _ _).cell 0 _ rfl) ?_)
      intro v3 w3 hO3 g3
      have hB3 : Hid (Below w1.heap.size w1 w3) := (hbel.out.alloc hws _).grown g3 (by simp; omega) (fun k hk => by cases hk; exact hg0)
      have hls : Hid (sliceLen v3 = L + 1) := by
        obtain ⟨_, _, e3, _⟩ := hO3.read
        show sliceLen v3 = L + 1
        rw [e3]
        show (_ : List UInt8).length = L + 1
        rw [HLn.out, HN.out]; simp; omega
      have HO3 : Hid (OwnM w1.heap.size 5 w3 v3 (t ++ 128 :: List.replicate (z + 1) 0)) := by
        show OwnM _ _ _ _ _
        rw [List.replicate_succ']; simpa only [List.append_assoc, List.cons_append] using hO3
      clear hO3 g3
      go_wp2_with fail
      go_roundw
      case rel => exact ⟨z + 1, v3, by omega, rfl, HO3, hB3⟩
      case measure => rw [hls.out]; show n + 100 - (L + 1) < n + 100 - L; have := HLn.out; omega
end Go.Proofs.Ytjlpdbaknhbgdaa
