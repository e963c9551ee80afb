/-
  The document's Stream.
-/
import Derived.Test.YtnfegmcdljejnaaStream
set_option linter.unusedSimpArgs false
set_option linter.unusedVariables false
namespace Go.Proofs.Ytnfegmcdljejnaa
open Go.RowKit

set_option maxHeartbeats 8000000 in
set_option maxRecDepth 100000 in
theorem RefStream_calls (key : List UInt8) (n : Nat) (w : World) (hk : key.length = 32) (hn : n ≤ 65536) :
    Calls Try.prog 142 #[.agg (key.map bv).toArray, .int .i64 n] w fun e w' => e = .returned (.string (str (streamT key n))) ∧ Below w.heap.size w w' := by
  have HK := Lib.hid hk
  clear hk
  have hK0 : Blk (w.alloc (.cells (key.map bv).toArray 22)) w.heap.size (key.map bv).toArray 22 := Blk.new _ _ _
  have hb0 : Below w.heap.size w (w.alloc (.cells (key.map bv).toArray 22)) := (Below.refl _ _).alloc (Nat.le_refl _) _
  go_enter Try.func142, Try.ntmps142
  go_wp2_with fail
  generalize w.alloc (.cells (key.map bv).toArray 22) = W0 at hK0 hb0 ⊢
  have hn2 : n ≤ 65536 := hn
  go_loopw [5, 6] (fun s i wr => ∃ (k : Nat), k ≤ (n + 31) / 32 ∧ s = .string (str ((hblks key k).take n)) ∧ i = .int .i64 k ∧ Hid (Blk wr w.heap.size (key.map bv).toArray 22) ∧ Hid (Below w.heap.size w wr)) (fun _ i _ => 70000 - (intOf i).toNat)
  case atStart => exact ⟨0, by omega, by rw [show (hblks key 0).take n = [] by simp [hblks]]; rfl, rfl, hK0, hb0⟩
  case round =>
    obtain ⟨k, hk, rfl, rfl, hK, hB⟩ := hrel
    clear hK0 hb0
    by_cases hlt : 32 * k < n
    · obtain ⟨x, hx⟩ : ∃ x, x = hmac key (four4 k) := ⟨_, rfl⟩
      have HX : Hid (x.length = 32) := by show _ = _; rw [hx]; exact hmac_len _ _
      have c1 : ∀ y, Calls Try.prog 137 #[.int .i64 k] y fun e w' => e = .returned (.string (str (four4 k))) ∧ Below y.heap.size y w' := fun y => RefFour_calls k y (by omega)
      have c2 : ∀ y, Calls Try.prog 89 #[.string (str key), .string (str (four4 k))] y fun e w' => e = .returned (.agg (x.map bv).toArray) ∧ Below y.heap.size y w' := fun y => by
        rw [hx]
        exact RefCode_calls key (four4 k) y (by rw [HK.out]; omega) (by simp [four4])
      have hL0 : (hblks key k).take n = (hblks key k ++ x).take (32 * k + 0) := by
        rw [List.take_of_length_le (by rw [hblks_len]; omega), Nat.add_zero, List.take_left' (by rw [hblks_len])]
      have HE : Hid (hblks key (k + 1) = hblks key k ++ x) := by show _ = _; rw [hx]; rfl
      generalize hf : four4 k = f4 at c1 c2 hx
      have HL0 := Lib.hid (hblks_len key k)
      have hlen0 : ((hblks key k ++ x).take (32 * k + 0)).length = 32 * k := by rw [List.length_take, List.length_append, hblks_len]; omega
      rw [hL0]
      generalize hg : (hblks key k ++ x).take (32 * k + 0) = L0 at hlen0 ⊢
      have HG := Lib.hid hg
      clear hx hf hL0 hg
      have hlt2 : decide ((L0.length : Int) < (n : Int)) = true := by rw [hlen0]; simp; omega
      go_wp2_with fail
      have hb0 := Below.refl wr.heap.size wr
      have hKlt := hK.out.lt
      refine wp_region_held_drew (S := fun x => Blk x (w.heap.size) (key.map bv).toArray 22 ∧ Below wr.heap.size wr x) (by kernel_rfl) ⟨hK.out.drew, below_drewN hb0 1⟩ (fun hSq1 => ?_)
      refine wpAnyH_take (i := 0) (v := .slice (some ⟨w.heap.size, 0, none⟩) 32 32) rfl (by kernel_rfl) (by kernel_rfl) (by kernel_rfl) (fun _ _ _ h => h) (Or.inl ⟨by rfl, fun x hx => by go_simp⟩) hSq1 ?_
      simp only [Act.put, List.getElem_toArray, List.getElem_cons_zero, List.getElem_cons_succ, List.setIfInBounds_toArray, List.set_cons_zero, List.set_cons_succ]
      refine wpAnyH_take (i := 1) (v := .string (str key)) rfl (by kernel_rfl) (by kernel_rfl) (by kernel_rfl) (fun _ _ _ h => h) (Or.inl ⟨by rfl, fun x hx => by have hcv := conv_blk HK.out hx.1; go_simp⟩) hSq1 ?_
      simp only [Act.put, List.getElem_toArray, List.getElem_cons_zero, List.getElem_cons_succ, List.setIfInBounds_toArray, List.set_cons_zero, List.set_cons_succ]
      refine wpAnyH_take (i := 2) (v := .int .i64 k) rfl (by kernel_rfl) (by kernel_rfl) (by kernel_rfl) (fun _ _ _ h => h) (Or.inl ⟨by rfl, fun x hx => by go_simp⟩) hSq1 ?_
      simp only [Act.put, List.getElem_toArray, List.getElem_cons_zero, List.getElem_cons_succ, List.setIfInBounds_toArray, List.set_cons_zero, List.set_cons_succ]
      refine wpAnyH_ready (rs := [3, 5]) (by kernel_rfl) (by simp) ?_
      refine AllReadyH.cons rfl (fun K hK => ?_) ?_
      · go_simp
        go_wp2_with (go_at_call 137; refine (c1 _).mono ?_; rintro e yq2 ⟨rfl, bq3⟩)
        refine hK.out _ _ ⟨hSq1.1.below bq3 hSq1.1.lt, hSq1.2.trans (bq3.mono hSq1.2.size)⟩ (fun hSq4 => ?_)
        clear hK K hSq1 bq3
        refine wpAnyH_ready (rs := [4, 5]) (by kernel_rfl) (by simp) ?_
        refine AllReadyH.cons rfl (fun K hK => ?_) ?_
        · go_simp
          go_wp2_with (go_at_call 89; refine (c2 _).mono ?_; rintro e yq5 ⟨rfl, bq6⟩)
          refine hK.out _ _ ⟨hSq4.1.below bq6 hSq4.1.lt, hSq4.2.trans (bq6.mono hSq4.2.size)⟩ (fun hSq7 => ?_)
          clear hK K hSq4 bq6
          refine wpAnyH_ready (rs := [5]) (by kernel_rfl) (by simp) ?_
          refine AllReadyH.cons rfl (fun K hK => ?_) AllReadyH.nil
          rw [if_pos (by rfl)]
          refine wp_allocZ 22 rfl Z32 (by kernel_rfl) ?_
          intro gq11 yq9 egq12 ezq13 bq8 hEq10
          have lgq14 : wr.heap.size ≤ gq11 := by rw [egq12]; exact hSq7.2.size
          refine hK.out _ _ ⟨hSq7.1.below bq8 hSq7.1.lt, hSq7.2.trans (bq8.mono hSq7.2.size)⟩ (fun hSq15 => ?_)
          clear hK K hSq7 bq8 egq12 ezq13
          refine wpAnyH_ready (rs := [6]) (by kernel_rfl) (by simp) ?_
          refine AllReadyH.cons rfl (fun K hK => ?_) AllReadyH.nil
          rw [if_pos (by rfl)]
          refine wp_storeBlk 22 (.tmp 7) (.tmp 22) rfl gq11 (x.map bv).toArray (by rfl) (by rfl) _ _ hEq10 (by rw [bv_size, HX.out]; exact Try.sizeA32) (by rw [bv_size, HX.out, Z32_size]) (bv_all _) ?_
          intro yq16 hEq17 grq18
          refine hK.out _ _ ⟨hSq15.1.grown grq18 (by simp; omega), below_new hSq15.2 grq18 lgq14 hSq15.2.size⟩ (fun hSq19 => ?_)
          clear hK K hSq15
          refine wpAnyH_done (by kernel_rfl) ?_ _
          have bW := hSq19.2
          have hB9 := Lib.hid (hB.out.trans (bW.mono hB.out.size))
          have hK9 := Lib.hid hSq19.1
          have hE9 := Lib.hid hEq17
          have hs9 := bW.size
          clear hSq19 bW hEq17 c1 c2 hb0 hlt2
          go_wp2_with fail
          go_loopw [5, 8] (fun s j wr => ∃ (m : Nat), m ≤ 32 ∧ 32 * k + m ≤ n ∧ s = .string (str ((hblks key k ++ x).take (32 * k + m))) ∧ j = .int .i64 m ∧ Hid (Blk wr w.heap.size (key.map bv).toArray 22) ∧ Hid (Blk wr gq11 (x.map bv).toArray 22) ∧ Hid (Below w.heap.size w wr)) (fun _ j _ => 32 - (intOf j).toNat)
          case atStart => exact ⟨0, by omega, by omega, by rw [HG.out], rfl, hK9, hE9, hB9⟩
          case round =>
            obtain ⟨m, hm, hmn, rfl, rfl, hK5, hE5, hB5⟩ := hrel
            clear hK9 hE9 hB9
            have hlenm : ((hblks key k ++ x).take (32 * k + m)).length = 32 * k + m := by rw [List.length_take, List.length_append, HL0.out, HX.out]; omega
            by_cases hq : m < 32 ∧ 32 * k + m < n
            · obtain ⟨hq1, hq2⟩ := hq
              have hmx : m < x.length := by rw [HX.out]; exact hq1
              have hnx : (hblks key k ++ x).take (32 * k + (m + 1)) = (hblks key k ++ x).take (32 * k + m) ++ [x[m]] := by
                rw [← Nat.add_assoc, List.take_succ_eq_append_getElem (by rw [List.length_append, HL0.out, HX.out]; omega)]
                congr 2
                rw [List.getElem_append_right (by rw [HL0.out]; omega)]
                congr 1
                rw [HL0.out]; omega
              have HNX := Lib.hid hnx
              have hc : wr.cell? ⟨gq11, m, none⟩ = some (.int .u8 (x[m].toNat : Int)) := hE5.out.cell m _ (by rw [List.getElem?_toArray, List.getElem?_map, List.getElem?_eq_getElem hmx]; rfl)
              generalize (hblks key k ++ x).take (32 * k + m) = L at hlenm hnx HNX ⊢
              have hd1 : decide ((m : Int) < 32) = true := by simp; omega
              have hd2 : decide ((L.length : Int) < (n : Int)) = true := by rw [hlenm]; simp; omega
              clear hnx
              generalize hxm : x[m] = c at hc HNX
              go_wp2_with ((with_reducible show wpList _ _ _ (⟨some 38, _, _, _, _, _⟩ :: _) _ _); refine wpList_convBlk rfl 120 9 5 _ rfl Try.underlying120 Try.underlying5 Try.underlying9 wr.heap.size 1 1 (by rfl) _ _ (Blk.new _ _ _) [c] rfl (by rfl) ?_)
              go_roundw
              case rel =>
                exact ⟨m + 1, by omega, by omega, by rw [HNX.out], by go_num, hK5.out.alloc _, hE5.out.alloc _, hB5.out.alloc hB5.out.size _⟩
              case measure => simp [intOf]; omega
            · have hend : (hblks key k ++ x).take (32 * k + m) = (hblks key (k + 1)).take n := by
                rw [HE.out]
                by_cases h32 : m = 32
                · rw [List.take_of_length_le (by rw [List.length_append, HL0.out, HX.out]; omega), List.take_of_length_le (by rw [List.length_append, HL0.out, HX.out]; omega)]
                · rw [show 32 * k + m = n by omega]
              have HEND := Lib.hid hend
              generalize (hblks key k ++ x).take (32 * k + m) = L at hlenm hend HEND ⊢
              clear hend
              by_cases h32 : m = 32
              · have hd1 : decide ((m : Int) < 32) = false := by simp; omega
                go_wp2_with fail
                go_roundw
                case rel => exact ⟨k + 1, by omega, by rw [HEND.out], by go_num, hK5.out, hB5.out⟩
                case measure => simp [intOf]; omega
              · have hd1 : decide ((m : Int) < 32) = true := by simp; omega
                have hd2 : decide ((L.length : Int) < (n : Int)) = false := by rw [hlenm]; simp; omega
                go_wp2_with fail
                go_roundw
                case rel => exact ⟨k + 1, by omega, by rw [HEND.out], by go_num, hK5.out, hB5.out⟩
                case measure => simp [intOf]; omega
        refine AllReadyH.cons rfl (fun K hK => ?_) AllReadyH.nil
        rw [if_pos (by rfl)]
        refine wp_allocZ 22 rfl Z32 (by kernel_rfl) ?_
        intro gq23 yq21 egq24 ezq25 bq20 hEq22
        have lgq26 : wr.heap.size ≤ gq23 := by rw [egq24]; exact hSq4.2.size
        refine hK.out _ _ ⟨hSq4.1.below bq20 hSq4.1.lt, hSq4.2.trans (bq20.mono hSq4.2.size)⟩ (fun hSq27 => ?_)
        clear hK K hSq4 bq20 egq24 ezq25
        refine wpAnyH_ready (rs := [4]) (by kernel_rfl) (by simp) ?_
        refine AllReadyH.cons rfl (fun K hK => ?_) AllReadyH.nil
        go_simp
        go_wp2_with (go_at_call 89; refine (c2 _).mono ?_; rintro e yq28 ⟨rfl, bq29⟩)
        have hEq30 := hEq22.below bq29 hEq22.lt
        refine hK.out _ _ ⟨hSq27.1.below bq29 hSq27.1.lt, hSq27.2.trans (bq29.mono hSq27.2.size)⟩ (fun hSq31 => ?_)
        clear hK K hSq27 bq29
        refine wpAnyH_ready (rs := [6]) (by kernel_rfl) (by simp) ?_
        refine AllReadyH.cons rfl (fun K hK => ?_) AllReadyH.nil
        rw [if_pos (by rfl)]
        refine wp_storeBlk 22 (.tmp 7) (.tmp 22) rfl gq23 (x.map bv).toArray (by rfl) (by rfl) _ _ hEq30 (by rw [bv_size, HX.out]; exact Try.sizeA32) (by rw [bv_size, HX.out, Z32_size]) (bv_all _) ?_
        intro yq32 hEq33 grq34
        refine hK.out _ _ ⟨hSq31.1.grown grq34 (by simp; omega), below_new hSq31.2 grq34 lgq26 hSq31.2.size⟩ (fun hSq35 => ?_)
        clear hK K hSq31
        refine wpAnyH_done (by kernel_rfl) ?_ _
        have bW := hSq35.2
        have hB9 := Lib.hid (hB.out.trans (bW.mono hB.out.size))
        have hK9 := Lib.hid hSq35.1
        have hE9 := Lib.hid hEq33
        have hs9 := bW.size
        clear hSq35 bW hEq33 c1 c2 hb0 hlt2
        go_wp2_with fail
        go_loopw [5, 8] (fun s j wr => ∃ (m : Nat), m ≤ 32 ∧ 32 * k + m ≤ n ∧ s = .string (str ((hblks key k ++ x).take (32 * k + m))) ∧ j = .int .i64 m ∧ Hid (Blk wr w.heap.size (key.map bv).toArray 22) ∧ Hid (Blk wr gq23 (x.map bv).toArray 22) ∧ Hid (Below w.heap.size w wr)) (fun _ j _ => 32 - (intOf j).toNat)
        case atStart => exact ⟨0, by omega, by omega, by rw [HG.out], rfl, hK9, hE9, hB9⟩
        case round =>
          obtain ⟨m, hm, hmn, rfl, rfl, hK5, hE5, hB5⟩ := hrel
          clear hK9 hE9 hB9
          have hlenm : ((hblks key k ++ x).take (32 * k + m)).length = 32 * k + m := by rw [List.length_take, List.length_append, HL0.out, HX.out]; omega
          by_cases hq : m < 32 ∧ 32 * k + m < n
          · obtain ⟨hq1, hq2⟩ := hq
            have hmx : m < x.length := by rw [HX.out]; exact hq1
            have hnx : (hblks key k ++ x).take (32 * k + (m + 1)) = (hblks key k ++ x).take (32 * k + m) ++ [x[m]] := by
              rw [← Nat.add_assoc, List.take_succ_eq_append_getElem (by rw [List.length_append, HL0.out, HX.out]; omega)]
              congr 2
              rw [List.getElem_append_right (by rw [HL0.out]; omega)]
              congr 1
              rw [HL0.out]; omega
            have HNX := Lib.hid hnx
            have hc : wr.cell? ⟨gq23, m, none⟩ = some (.int .u8 (x[m].toNat : Int)) := hE5.out.cell m _ (by rw [List.getElem?_toArray, List.getElem?_map, List.getElem?_eq_getElem hmx]; rfl)
            generalize (hblks key k ++ x).take (32 * k + m) = L at hlenm hnx HNX ⊢
            have hd1 : decide ((m : Int) < 32) = true := by simp; omega
            have hd2 : decide ((L.length : Int) < (n : Int)) = true := by rw [hlenm]; simp; omega
            clear hnx
            generalize hxm : x[m] = c at hc HNX
            go_wp2_with ((with_reducible show wpList _ _ _ (⟨some 38, _, _, _, _, _⟩ :: _) _ _); refine wpList_convBlk rfl 120 9 5 _ rfl Try.underlying120 Try.underlying5 Try.underlying9 wr.heap.size 1 1 (by rfl) _ _ (Blk.new _ _ _) [c] rfl (by rfl) ?_)
            go_roundw
            case rel =>
              exact ⟨m + 1, by omega, by omega, by rw [HNX.out], by go_num, hK5.out.alloc _, hE5.out.alloc _, hB5.out.alloc hB5.out.size _⟩
            case measure => simp [intOf]; omega
          · have hend : (hblks key k ++ x).take (32 * k + m) = (hblks key (k + 1)).take n := by
              rw [HE.out]
              by_cases h32 : m = 32
              · rw [List.take_of_length_le (by rw [List.length_append, HL0.out, HX.out]; omega), List.take_of_length_le (by rw [List.length_append, HL0.out, HX.out]; omega)]
              · rw [show 32 * k + m = n by omega]
            have HEND := Lib.hid hend
            generalize (hblks key k ++ x).take (32 * k + m) = L at hlenm hend HEND ⊢
            clear hend
            by_cases h32 : m = 32
            · have hd1 : decide ((m : Int) < 32) = false := by simp; omega
              go_wp2_with fail
              go_roundw
              case rel => exact ⟨k + 1, by omega, by rw [HEND.out], by go_num, hK5.out, hB5.out⟩
              case measure => simp [intOf]; omega
            · have hd1 : decide ((m : Int) < 32) = true := by simp; omega
              have hd2 : decide ((L.length : Int) < (n : Int)) = false := by rw [hlenm]; simp; omega
              go_wp2_with fail
              go_roundw
              case rel => exact ⟨k + 1, by omega, by rw [HEND.out], by go_num, hK5.out, hB5.out⟩
              case measure => simp [intOf]; omega
      refine AllReadyH.cons rfl (fun K hK => ?_) AllReadyH.nil
      rw [if_pos (by rfl)]
      refine wp_allocZ 22 rfl Z32 (by kernel_rfl) ?_
      intro gq39 yq37 egq40 ezq41 bq36 hEq38
      have lgq42 : wr.heap.size ≤ gq39 := by rw [egq40]; exact hSq1.2.size
      refine hK.out _ _ ⟨hSq1.1.below bq36 hSq1.1.lt, hSq1.2.trans (bq36.mono hSq1.2.size)⟩ (fun hSq43 => ?_)
      clear hK K hSq1 bq36 egq40 ezq41
      refine wpAnyH_ready (rs := [3]) (by kernel_rfl) (by simp) ?_
      refine AllReadyH.cons rfl (fun K hK => ?_) AllReadyH.nil
      go_simp
      go_wp2_with (go_at_call 137; refine (c1 _).mono ?_; rintro e yq44 ⟨rfl, bq45⟩)
      have hEq46 := hEq38.below bq45 hEq38.lt
      refine hK.out _ _ ⟨hSq43.1.below bq45 hSq43.1.lt, hSq43.2.trans (bq45.mono hSq43.2.size)⟩ (fun hSq47 => ?_)
      clear hK K hSq43 bq45
      refine wpAnyH_ready (rs := [4]) (by kernel_rfl) (by simp) ?_
      refine AllReadyH.cons rfl (fun K hK => ?_) AllReadyH.nil
      go_simp
      go_wp2_with (go_at_call 89; refine (c2 _).mono ?_; rintro e yq48 ⟨rfl, bq49⟩)
      have hEq50 := hEq46.below bq49 hEq46.lt
      refine hK.out _ _ ⟨hSq47.1.below bq49 hSq47.1.lt, hSq47.2.trans (bq49.mono hSq47.2.size)⟩ (fun hSq51 => ?_)
      clear hK K hSq47 bq49
      refine wpAnyH_ready (rs := [6]) (by kernel_rfl) (by simp) ?_
      refine AllReadyH.cons rfl (fun K hK => ?_) AllReadyH.nil
      rw [if_pos (by rfl)]
      refine wp_storeBlk 22 (.tmp 7) (.tmp 22) rfl gq39 (x.map bv).toArray (by rfl) (by rfl) _ _ hEq50 (by rw [bv_size, HX.out]; exact Try.sizeA32) (by rw [bv_size, HX.out, Z32_size]) (bv_all _) ?_
      intro yq52 hEq53 grq54
      refine hK.out _ _ ⟨hSq51.1.grown grq54 (by simp; omega), below_new hSq51.2 grq54 lgq42 hSq51.2.size⟩ (fun hSq55 => ?_)
      clear hK K hSq51
      refine wpAnyH_done (by kernel_rfl) ?_ _
      have bW := hSq55.2
      have hB9 := Lib.hid (hB.out.trans (bW.mono hB.out.size))
      have hK9 := Lib.hid hSq55.1
      have hE9 := Lib.hid hEq53
      have hs9 := bW.size
      clear hSq55 bW hEq53 c1 c2 hb0 hlt2
      go_wp2_with fail
      go_loopw [5, 8] (fun s j wr => ∃ (m : Nat), m ≤ 32 ∧ 32 * k + m ≤ n ∧ s = .string (str ((hblks key k ++ x).take (32 * k + m))) ∧ j = .int .i64 m ∧ Hid (Blk wr w.heap.size (key.map bv).toArray 22) ∧ Hid (Blk wr gq39 (x.map bv).toArray 22) ∧ Hid (Below w.heap.size w wr)) (fun _ j _ => 32 - (intOf j).toNat)
      case atStart => exact ⟨0, by omega, by omega, by rw [HG.out], rfl, hK9, hE9, hB9⟩
      case round =>
        obtain ⟨m, hm, hmn, rfl, rfl, hK5, hE5, hB5⟩ := hrel
        clear hK9 hE9 hB9
        have hlenm : ((hblks key k ++ x).take (32 * k + m)).length = 32 * k + m := by rw [List.length_take, List.length_append, HL0.out, HX.out]; omega
        by_cases hq : m < 32 ∧ 32 * k + m < n
        · obtain ⟨hq1, hq2⟩ := hq
          have hmx : m < x.length := by rw [HX.out]; exact hq1
          have hnx : (hblks key k ++ x).take (32 * k + (m + 1)) = (hblks key k ++ x).take (32 * k + m) ++ [x[m]] := by
            rw [← Nat.add_assoc, List.take_succ_eq_append_getElem (by rw [List.length_append, HL0.out, HX.out]; omega)]
            congr 2
            rw [List.getElem_append_right (by rw [HL0.out]; omega)]
            congr 1
            rw [HL0.out]; omega
          have HNX := Lib.hid hnx
          have hc : wr.cell? ⟨gq39, m, none⟩ = some (.int .u8 (x[m].toNat : Int)) := hE5.out.cell m _ (by rw [List.getElem?_toArray, List.getElem?_map, List.getElem?_eq_getElem hmx]; rfl)
          generalize (hblks key k ++ x).take (32 * k + m) = L at hlenm hnx HNX ⊢
          have hd1 : decide ((m : Int) < 32) = true := by simp; omega
          have hd2 : decide ((L.length : Int) < (n : Int)) = true := by rw [hlenm]; simp; omega
          clear hnx
          generalize hxm : x[m] = c at hc HNX
          go_wp2_with ((with_reducible show wpList _ _ _ (⟨some 38, _, _, _, _, _⟩ :: _) _ _); refine wpList_convBlk rfl 120 9 5 _ rfl Try.underlying120 Try.underlying5 Try.underlying9 wr.heap.size 1 1 (by rfl) _ _ (Blk.new _ _ _) [c] rfl (by rfl) ?_)
          go_roundw
          case rel =>
            exact ⟨m + 1, by omega, by omega, by rw [HNX.out], by go_num, hK5.out.alloc _, hE5.out.alloc _, hB5.out.alloc hB5.out.size _⟩
          case measure => simp [intOf]; omega
        · have hend : (hblks key k ++ x).take (32 * k + m) = (hblks key (k + 1)).take n := by
            rw [HE.out]
            by_cases h32 : m = 32
            · rw [List.take_of_length_le (by rw [List.length_append, HL0.out, HX.out]; omega), List.take_of_length_le (by rw [List.length_append, HL0.out, HX.out]; omega)]
            · rw [show 32 * k + m = n by omega]
          have HEND := Lib.hid hend
          generalize (hblks key k ++ x).take (32 * k + m) = L at hlenm hend HEND ⊢
          clear hend
          by_cases h32 : m = 32
          · have hd1 : decide ((m : Int) < 32) = false := by simp; omega
            go_wp2_with fail
            go_roundw
            case rel => exact ⟨k + 1, by omega, by rw [HEND.out], by go_num, hK5.out, hB5.out⟩
            case measure => simp [intOf]; omega
          · have hd1 : decide ((m : Int) < 32) = true := by simp; omega
            have hd2 : decide ((L.length : Int) < (n : Int)) = false := by rw [hlenm]; simp; omega
            go_wp2_with fail
            go_roundw
            case rel => exact ⟨k + 1, by omega, by rw [HEND.out], by go_num, hK5.out, hB5.out⟩
            case measure => simp [intOf]; omega
    · have hke : k = (n + 31) / 32 := by omega
      have hlen : ((hblks key k).take n).length = n := by rw [List.length_take, hblks_len]; omega
      have hst : streamT key n = (hblks key k).take n := by rw [streamT, hke]
      generalize (hblks key k).take n = L at hlen hst ⊢
      have HST := Lib.hid hst
      have hd2 : decide ((L.length : Int) < (n : Int)) = false := by rw [hlen]; simp
      clear hke hst
      go_wp2_with fail
      go_returns
      have h1 := HST.out
      subst h1
      exact ⟨rfl, hB.out⟩
end Go.Proofs.Ytnfegmcdljejnaa
