/-
  mac.Stream: a row of n bytes.
-/
import Derived.Test.YtjlpdbaknhbgdaaPrimDerive
import Derived.Test.YtjlpdbaknhbgdaaKit0
import Derived.Test.YtjlpdbaknhbgdaaWireW
set_option linter.unusedSimpArgs false
set_option linter.unusedVariables false
namespace Go.Proofs.Ytjlpdbaknhbgdaa
open Go.RowKit

/-- So many codes, one behind the other. -/
def hblks (key : List UInt8) : Nat → List UInt8
  | 0 => []
  | k + 1 => hblks key k ++ hmac key (four4 k)
theorem hblks_len (key : List UInt8) : ∀ k, (hblks key k).length = 32 * k
  | 0 => rfl
  | k + 1 => by rw [hblks, List.length_append, hblks_len key k, hmac_len]; omega
def streamT (key : List UInt8) (n : Nat) : List UInt8 := (hblks key ((n + 31) / 32)).take n
theorem streamT_len (key : List UInt8) (n : Nat) : (streamT key n).length = n := by rw [streamT, List.length_take, hblks_len]; omega
theorem conv_own_take {P : Program} {w : World} {g c n : Nat} {bs : List UInt8} {src e dst : TypeId} {base : Nat} (hs : P.underlying src = some (.slice e)) (he : P.underlying e = some (.int .u8)) (hd : P.underlying dst = some .string)
    (h : w.ownsRow base e 1 (.slice (some ⟨g, 0, none⟩) bs.length c) bs.length (bs.map bv)) (hn : n ≤ bs.length) (c' : Nat) : (convert src dst (.slice (some ⟨g, 0, none⟩) n c')).run P w = .ok (.string (str (bs.take n))) w := by
  have hl : (bs.take n).length = n := by simp; omega
  have := run_convert_bytes_back (P := P) w src dst e ⟨g, 0, none⟩ c' (bs.take n) hs he hd fun j hj => h.cells (g := g) rfl j _ (by rw [hl] at hj; rw [List.getElem?_map, List.getElem?_eq_getElem (by omega)]; simp [bv])
  rw [hl] at this
  exact this

set_option maxHeartbeats 4000000 in
set_option maxRecDepth 100000 in
theorem Stream_calls (key : List UInt8) (n : Nat) (w : World) (hk : key.length = 32) (hn : n ≤ 65536) :
    Calls Try.prog 49 #[.agg (key.map bv).toArray, .int .i64 n] w fun e w' => e = .returned (.string (str (streamT key n))) ∧ Below w.heap.size w w' := by
  have HK := Lib.hid hk
  clear hk
  have hK0 : Blk (w.alloc (.cells (key.map bv).toArray 26)) w.heap.size (key.map bv).toArray 26 := Blk.new _ _ _
  have hb0 : Below w.heap.size w (w.alloc (.cells (key.map bv).toArray 26)) := (Below.refl _ _).alloc (Nat.le_refl _) _
  have hs0 : (w.alloc (.cells (key.map bv).toArray 26)).heap.size = w.heap.size + 1 := by simp
  by_cases h0 : n = 0
  · subst h0
    go_enter Try.func49, Try.ntmps49
    go_wp2
    go_returns
    exact ⟨rfl, hb0⟩
  go_enter Try.func49, Try.ntmps49
  go_wp2_with fail
  generalize w.alloc (.cells (key.map bv).toArray 26) = W0 at hK0 hb0 hs0 ⊢
  obtain ⟨i8, hi, hz0, hz1, hz2⟩ := info_parts Try.infoU8
  have HH := Lib.hid (⟨hi, hz0, hz1, hz2⟩ : _ ∧ _ ∧ _ ∧ _)
  clear hi hz0 hz1 hz2
  go_loopw [5, 6] (fun x i wr => ∃ (k : Nat) (v : Value), k ≤ (n + 31) / 32 ∧ x = v ∧ i = .int .i64 k ∧ Hid (wr.ownsRow (w.heap.size + 1) 5 1 v (32 * k) ((hblks key k).map bv)) ∧ Hid (Blk wr w.heap.size (key.map bv).toArray 26) ∧ Hid (Below w.heap.size w wr) ∧ w.heap.size + 1 ≤ wr.heap.size) (fun _ i _ => 70000 - (intOf i).toNat)
  case atStart => exact ⟨0, _, by omega, rfl, rfl, World.ownsRow_nil _ _ _ _, hK0, hb0, by omega⟩
  case round =>
    obtain ⟨k, v, hk, rfl, rfl, hO, hK, hB, hs⟩ := hrel
    clear hK0 hb0 hs0
    obtain ⟨ao, c, rfl⟩ := own_slice hO.out
    by_cases hlt : 32 * k < n
    · obtain ⟨x, hx⟩ : ∃ x, x = hmac key (four4 k) := ⟨_, rfl⟩
      have HX : Hid (x.length = 32) := by show _ = _; rw [hx]; exact hmac_len _ _
      have c1 : ∀ y, Calls Try.prog 45 #[.int .i64 k] y fun e w' => e = .returned (.string (str (four4 k))) ∧ Below y.heap.size y w' := fun y => four_calls k y (by omega)
      have c2 : ∀ (g : Nat) y, Blk y g #[.string (str (four4 k))] 9 → Calls Try.prog 44 #[.string (str key), .slice (some ⟨g, 0, none⟩) 1 1] y fun e w' => e = .returned (.agg (x.map bv).toArray) ∧ Below y.heap.size y w' := fun g y hg => by
        have hst : StrsAt y (some ⟨g, 0, none⟩) 1 [four4 k] := StrsAt.blk [four4 k] hg
        rw [hx, show four4 k = [four4 k].flatten by simp]
        exact Code_calls key g 0 1 1 [four4 k] y (by rw [HK.out]; omega) hst (by omega) (by simp [four4]) (by omega)
      generalize hf : four4 k = f4 at c1 c2 hx
      have HX2 := Lib.hid hx
      clear hx
      go_wp2_with fail
      have hb0 := Below.refl wr.heap.size wr
      refine wp_region_held_drew (S := fun x => Blk x (w.heap.size) (key.map bv).toArray 26 ∧ Below wr.heap.size wr x) (by kernel_rfl) ⟨hK.out.drew, below_drewN hb0 1⟩ (fun hSq1 => ?_)
      refine wpAnyH_take (i := 0) (v := .slice (some ⟨w.heap.size, 0, none⟩) 32 32) rfl (by kernel_rfl) (by kernel_rfl) (by kernel_rfl) (fun _ _ _ h => h) (Or.inl ⟨by rfl, fun x hx => by go_simp⟩) hSq1 ?_
      simp only [Act.put, List.getElem_toArray, List.getElem_cons_zero, List.getElem_cons_succ, List.setIfInBounds_toArray, List.set_cons_zero, List.set_cons_succ]
      refine wpAnyH_take (i := 1) (v := .string (str key)) rfl (by kernel_rfl) (by kernel_rfl) (by kernel_rfl) (fun _ _ _ h => h) (Or.inl ⟨by rfl, fun x hx => by have hcv := conv_blk HK.out hx.1; go_simp⟩) hSq1 ?_
      simp only [Act.put, List.getElem_toArray, List.getElem_cons_zero, List.getElem_cons_succ, List.setIfInBounds_toArray, List.set_cons_zero, List.set_cons_succ]
      refine wpAnyH_take (i := 2) (v := .int .i64 k) rfl (by kernel_rfl) (by kernel_rfl) (by kernel_rfl) (fun _ _ _ h => h) (Or.inl ⟨by rfl, fun x hx => by go_simp⟩) hSq1 ?_
      simp only [Act.put, List.getElem_toArray, List.getElem_cons_zero, List.getElem_cons_succ, List.setIfInBounds_toArray, List.set_cons_zero, List.set_cons_succ]
      refine wpAnyH_ready (rs := [3, 6]) (by kernel_rfl) (by simp) ?_
      refine AllReadyH.cons rfl (fun K hK => ?_) ?_
      · go_simp
        go_wp2_with (go_at_call 45; refine (c1 _).mono ?_; rintro e yq2 ⟨rfl, bq3⟩)
        refine hK.out _ _ ⟨hSq1.1.below bq3 hSq1.1.lt, hSq1.2.trans (bq3.mono hSq1.2.size)⟩ (fun hSq4 => ?_)
        clear hK K hSq1 bq3
        refine wpAnyH_ready (rs := [4, 6]) (by kernel_rfl) (by simp) ?_
        refine AllReadyH.cons rfl (fun K hK => ?_) ?_
        · rw [if_pos (by rfl)]
          refine wp_bsStr 98 9 (.tmp 23) rfl (str f4) (by rfl) Try.underlying98 (str []) (by kernel_rfl) ?_
          intro gq8 yq6 egq9 ezq10 bq5 hEq7
          have lgq11 : wr.heap.size ≤ gq8 := by rw [egq9]; exact hSq4.2.size
          refine hK.out _ _ ⟨hSq4.1.below bq5 hSq4.1.lt, hSq4.2.trans (bq5.mono hSq4.2.size)⟩ (fun hSq12 => ?_)
          clear hK K hSq4 bq5 egq9 ezq10
          refine wpAnyH_ready (rs := [5, 6]) (by kernel_rfl) (by simp) ?_
          refine AllReadyH.cons rfl (fun K hK => ?_) ?_
          · go_simp
            go_wp2_with (go_at_call 44; refine (c2 _ _ hEq7).mono ?_; rintro e yq13 ⟨rfl, bq14⟩)
            have hEq15 := hEq7.below bq14 hEq7.lt
            refine hK.out _ _ ⟨hSq12.1.below bq14 hSq12.1.lt, hSq12.2.trans (bq14.mono hSq12.2.size)⟩ (fun hSq16 => ?_)
            clear hK K hSq12 bq14
            refine wpAnyH_ready (rs := [6]) (by kernel_rfl) (by simp) ?_
            refine AllReadyH.cons rfl (fun K hK => ?_) AllReadyH.nil
            rw [if_pos (by rfl)]
            refine wp_allocZ 26 rfl Z32 (by kernel_rfl) ?_
            intro gq20 yq18 egq21 ezq22 bq17 hEq19
            have lgq23 : wr.heap.size ≤ gq20 := by rw [egq21]; exact hSq16.2.size
            have hEq24 := hEq15.below bq17 hEq15.lt
            refine hK.out _ _ ⟨hSq16.1.below bq17 hSq16.1.lt, hSq16.2.trans (bq17.mono hSq16.2.size)⟩ (fun hSq25 => ?_)
            clear hK K hSq16 bq17 egq21 ezq22
            refine wpAnyH_ready (rs := [7]) (by kernel_rfl) (by simp) ?_
            refine AllReadyH.cons rfl (fun K hK => ?_) AllReadyH.nil
            rw [if_pos (by rfl)]
            refine wp_storeBlk 26 (.tmp 7) (.tmp 25) rfl gq20 (x.map bv).toArray (by rfl) (by rfl) _ _ hEq19 (by rw [bv_size, HX.out]; exact Try.sizeHash) (by rw [bv_size, HX.out, Z32_size]) (bv_all _) ?_
            intro yq26 hEq27 grq28
            refine hK.out _ _ ⟨hSq25.1.grown grq28 (by simp; omega), below_new hSq25.2 grq28 lgq23 hSq25.2.size⟩ (fun hSq29 => ?_)
            clear hK K hSq25
            refine wpAnyH_done (by kernel_rfl) ?_ _
            
            have bW := hSq29.2
            have hO9 := own_below hO.out bW
            have hB9 := hB.out.trans (bW.mono hB.out.size)
            have hK9 := hSq29.1
            have hs9 := bW.size
            clear hSq29
            go_wp2_with (at_builtin; refine wpList_append_own _ rfl _ _ 45 rfl (w.heap.size + 1) 5 i8 (.int .u8 0) 1 1 Try.underlying45 HH.out.1 HH.out.2.1 HH.out.2.2.1 HH.out.2.2.2 rfl (by decide) _ _ _ rfl hO9 ⟨gq20, 0, none⟩ 32 32 (x.map bv) rfl (by rw [List.length_map, HX.out]) (fun j u hj => by rw [Addr.add_lit, Nat.zero_add]; exact hEq27.cell j u (by rw [List.getElem?_toArray]; exact hj)) (bv_one _) (by unfold maxLen; omega) (by omega) (by omega) ?_)
            intro v' w8 hO8 g8 _
            obtain ⟨ao', c', rfl⟩ := own_slice hO8
            have hK8 := hK9.grown g8 (fun e => by have := hO9.lt _ e.symm; omega)
            have hB8 := hB9.grown g8 (by omega) (fun q e => by have := (hO9.lt _ e).1; omega)
            have hs8 := g8.size
            have HO8 := Lib.hid hO8
            have HK8 := Lib.hid hK8
            have HB8 := Lib.hid hB8
            clear hO8 hK8 hB8 hO9 hB9 hK9 g8 bW hEq27
            go_wp2_with fail
            go_roundw
            case rel => exact ⟨k + 1, _, by omega, rfl, by go_num, by rw [hblks, hf, ← HX2.out, List.map_append]; exact HO8.out, HK8.out, HB8.out, by omega⟩
            case measure => simp [intOf]; omega
          refine AllReadyH.cons rfl (fun K hK => ?_) AllReadyH.nil
          rw [if_pos (by rfl)]
          refine wp_allocZ 26 rfl Z32 (by kernel_rfl) ?_
          intro gq33 yq31 egq34 ezq35 bq30 hEq32
          have lgq36 : wr.heap.size ≤ gq33 := by rw [egq34]; exact hSq12.2.size
          have hEq37 := hEq7.below bq30 hEq7.lt
          refine hK.out _ _ ⟨hSq12.1.below bq30 hSq12.1.lt, hSq12.2.trans (bq30.mono hSq12.2.size)⟩ (fun hSq38 => ?_)
          clear hK K hSq12 bq30 egq34 ezq35
          refine wpAnyH_ready (rs := [5]) (by kernel_rfl) (by simp) ?_
          refine AllReadyH.cons rfl (fun K hK => ?_) AllReadyH.nil
          go_simp
          go_wp2_with (go_at_call 44; refine (c2 _ _ hEq37).mono ?_; rintro e yq39 ⟨rfl, bq40⟩)
          have hEq41 := hEq37.below bq40 hEq37.lt
          have hEq42 := hEq32.below bq40 hEq32.lt
          refine hK.out _ _ ⟨hSq38.1.below bq40 hSq38.1.lt, hSq38.2.trans (bq40.mono hSq38.2.size)⟩ (fun hSq43 => ?_)
          clear hK K hSq38 bq40
          refine wpAnyH_ready (rs := [7]) (by kernel_rfl) (by simp) ?_
          refine AllReadyH.cons rfl (fun K hK => ?_) AllReadyH.nil
          rw [if_pos (by rfl)]
          refine wp_storeBlk 26 (.tmp 7) (.tmp 25) rfl gq33 (x.map bv).toArray (by rfl) (by rfl) _ _ hEq42 (by rw [bv_size, HX.out]; exact Try.sizeHash) (by rw [bv_size, HX.out, Z32_size]) (bv_all _) ?_
          intro yq44 hEq45 grq46
          refine hK.out _ _ ⟨hSq43.1.grown grq46 (by simp; omega), below_new hSq43.2 grq46 lgq36 hSq43.2.size⟩ (fun hSq47 => ?_)
          clear hK K hSq43
          refine wpAnyH_done (by kernel_rfl) ?_ _
          
          have bW := hSq47.2
          have hO9 := own_below hO.out bW
          have hB9 := hB.out.trans (bW.mono hB.out.size)
          have hK9 := hSq47.1
          have hs9 := bW.size
          clear hSq47
          go_wp2_with (at_builtin; refine wpList_append_own _ rfl _ _ 45 rfl (w.heap.size + 1) 5 i8 (.int .u8 0) 1 1 Try.underlying45 HH.out.1 HH.out.2.1 HH.out.2.2.1 HH.out.2.2.2 rfl (by decide) _ _ _ rfl hO9 ⟨gq33, 0, none⟩ 32 32 (x.map bv) rfl (by rw [List.length_map, HX.out]) (fun j u hj => by rw [Addr.add_lit, Nat.zero_add]; exact hEq45.cell j u (by rw [List.getElem?_toArray]; exact hj)) (bv_one _) (by unfold maxLen; omega) (by omega) (by omega) ?_)
          intro v' w8 hO8 g8 _
          obtain ⟨ao', c', rfl⟩ := own_slice hO8
          have hK8 := hK9.grown g8 (fun e => by have := hO9.lt _ e.symm; omega)
          have hB8 := hB9.grown g8 (by omega) (fun q e => by have := (hO9.lt _ e).1; omega)
          have hs8 := g8.size
          have HO8 := Lib.hid hO8
          have HK8 := Lib.hid hK8
          have HB8 := Lib.hid hB8
          clear hO8 hK8 hB8 hO9 hB9 hK9 g8 bW hEq45
          go_wp2_with fail
          go_roundw
          case rel => exact ⟨k + 1, _, by omega, rfl, by go_num, by rw [hblks, hf, ← HX2.out, List.map_append]; exact HO8.out, HK8.out, HB8.out, by omega⟩
          case measure => simp [intOf]; omega
        refine AllReadyH.cons rfl (fun K hK => ?_) AllReadyH.nil
        rw [if_pos (by rfl)]
        refine wp_allocZ 26 rfl Z32 (by kernel_rfl) ?_
        intro gq51 yq49 egq52 ezq53 bq48 hEq50
        have lgq54 : wr.heap.size ≤ gq51 := by rw [egq52]; exact hSq4.2.size
        refine hK.out _ _ ⟨hSq4.1.below bq48 hSq4.1.lt, hSq4.2.trans (bq48.mono hSq4.2.size)⟩ (fun hSq55 => ?_)
        clear hK K hSq4 bq48 egq52 ezq53
        refine wpAnyH_ready (rs := [4]) (by kernel_rfl) (by simp) ?_
        refine AllReadyH.cons rfl (fun K hK => ?_) AllReadyH.nil
        rw [if_pos (by rfl)]
        refine wp_bsStr 98 9 (.tmp 23) rfl (str f4) (by rfl) Try.underlying98 (str []) (by kernel_rfl) ?_
        intro gq59 yq57 egq60 ezq61 bq56 hEq58
        have lgq62 : wr.heap.size ≤ gq59 := by rw [egq60]; exact hSq55.2.size
        have hEq63 := hEq50.below bq56 hEq50.lt
        refine hK.out _ _ ⟨hSq55.1.below bq56 hSq55.1.lt, hSq55.2.trans (bq56.mono hSq55.2.size)⟩ (fun hSq64 => ?_)
        clear hK K hSq55 bq56 egq60 ezq61
        refine wpAnyH_ready (rs := [5]) (by kernel_rfl) (by simp) ?_
        refine AllReadyH.cons rfl (fun K hK => ?_) AllReadyH.nil
        go_simp
        go_wp2_with (go_at_call 44; refine (c2 _ _ hEq58).mono ?_; rintro e yq65 ⟨rfl, bq66⟩)
        have hEq67 := hEq63.below bq66 hEq63.lt
        have hEq68 := hEq58.below bq66 hEq58.lt
        refine hK.out _ _ ⟨hSq64.1.below bq66 hSq64.1.lt, hSq64.2.trans (bq66.mono hSq64.2.size)⟩ (fun hSq69 => ?_)
        clear hK K hSq64 bq66
        refine wpAnyH_ready (rs := [7]) (by kernel_rfl) (by simp) ?_
        refine AllReadyH.cons rfl (fun K hK => ?_) AllReadyH.nil
        rw [if_pos (by rfl)]
        refine wp_storeBlk 26 (.tmp 7) (.tmp 25) rfl gq51 (x.map bv).toArray (by rfl) (by rfl) _ _ hEq67 (by rw [bv_size, HX.out]; exact Try.sizeHash) (by rw [bv_size, HX.out, Z32_size]) (bv_all _) ?_
        intro yq70 hEq71 grq72
        refine hK.out _ _ ⟨hSq69.1.grown grq72 (by simp; omega), below_new hSq69.2 grq72 lgq54 hSq69.2.size⟩ (fun hSq73 => ?_)
        clear hK K hSq69
        refine wpAnyH_done (by kernel_rfl) ?_ _
        
        have bW := hSq73.2
        have hO9 := own_below hO.out bW
        have hB9 := hB.out.trans (bW.mono hB.out.size)
        have hK9 := hSq73.1
        have hs9 := bW.size
        clear hSq73
        go_wp2_with (at_builtin; refine wpList_append_own _ rfl _ _ 45 rfl (w.heap.size + 1) 5 i8 (.int .u8 0) 1 1 Try.underlying45 HH.out.1 HH.out.2.1 HH.out.2.2.1 HH.out.2.2.2 rfl (by decide) _ _ _ rfl hO9 ⟨gq51, 0, none⟩ 32 32 (x.map bv) rfl (by rw [List.length_map, HX.out]) (fun j u hj => by rw [Addr.add_lit, Nat.zero_add]; exact hEq71.cell j u (by rw [List.getElem?_toArray]; exact hj)) (bv_one _) (by unfold maxLen; omega) (by omega) (by omega) ?_)
        intro v' w8 hO8 g8 _
        obtain ⟨ao', c', rfl⟩ := own_slice hO8
        have hK8 := hK9.grown g8 (fun e => by have := hO9.lt _ e.symm; omega)
        have hB8 := hB9.grown g8 (by omega) (fun q e => by have := (hO9.lt _ e).1; omega)
        have hs8 := g8.size
        have HO8 := Lib.hid hO8
        have HK8 := Lib.hid hK8
        have HB8 := Lib.hid hB8
        clear hO8 hK8 hB8 hO9 hB9 hK9 g8 bW hEq71
        go_wp2_with fail
        go_roundw
        case rel => exact ⟨k + 1, _, by omega, rfl, by go_num, by rw [hblks, hf, ← HX2.out, List.map_append]; exact HO8.out, HK8.out, HB8.out, by omega⟩
        case measure => simp [intOf]; omega
      refine AllReadyH.cons rfl (fun K hK => ?_) AllReadyH.nil
      rw [if_pos (by rfl)]
      refine wp_allocZ 26 rfl Z32 (by kernel_rfl) ?_
      intro gq77 yq75 egq78 ezq79 bq74 hEq76
      have lgq80 : wr.heap.size ≤ gq77 := by rw [egq78]; exact hSq1.2.size
      refine hK.out _ _ ⟨hSq1.1.below bq74 hSq1.1.lt, hSq1.2.trans (bq74.mono hSq1.2.size)⟩ (fun hSq81 => ?_)
      clear hK K hSq1 bq74 egq78 ezq79
      refine wpAnyH_ready (rs := [3]) (by kernel_rfl) (by simp) ?_
      refine AllReadyH.cons rfl (fun K hK => ?_) AllReadyH.nil
      go_simp
      go_wp2_with (go_at_call 45; refine (c1 _).mono ?_; rintro e yq82 ⟨rfl, bq83⟩)
      have hEq84 := hEq76.below bq83 hEq76.lt
      refine hK.out _ _ ⟨hSq81.1.below bq83 hSq81.1.lt, hSq81.2.trans (bq83.mono hSq81.2.size)⟩ (fun hSq85 => ?_)
      clear hK K hSq81 bq83
      refine wpAnyH_ready (rs := [4]) (by kernel_rfl) (by simp) ?_
      refine AllReadyH.cons rfl (fun K hK => ?_) AllReadyH.nil
      rw [if_pos (by rfl)]
      refine wp_bsStr 98 9 (.tmp 23) rfl (str f4) (by rfl) Try.underlying98 (str []) (by kernel_rfl) ?_
      intro gq89 yq87 egq90 ezq91 bq86 hEq88
      have lgq92 : wr.heap.size ≤ gq89 := by rw [egq90]; exact hSq85.2.size
      have hEq93 := hEq84.below bq86 hEq84.lt
      refine hK.out _ _ ⟨hSq85.1.below bq86 hSq85.1.lt, hSq85.2.trans (bq86.mono hSq85.2.size)⟩ (fun hSq94 => ?_)
      clear hK K hSq85 bq86 egq90 ezq91
      refine wpAnyH_ready (rs := [5]) (by kernel_rfl) (by simp) ?_
      refine AllReadyH.cons rfl (fun K hK => ?_) AllReadyH.nil
      go_simp
      go_wp2_with (go_at_call 44; refine (c2 _ _ hEq88).mono ?_; rintro e yq95 ⟨rfl, bq96⟩)
      have hEq97 := hEq93.below bq96 hEq93.lt
      have hEq98 := hEq88.below bq96 hEq88.lt
      refine hK.out _ _ ⟨hSq94.1.below bq96 hSq94.1.lt, hSq94.2.trans (bq96.mono hSq94.2.size)⟩ (fun hSq99 => ?_)
      clear hK K hSq94 bq96
      refine wpAnyH_ready (rs := [7]) (by kernel_rfl) (by simp) ?_
      refine AllReadyH.cons rfl (fun K hK => ?_) AllReadyH.nil
      rw [if_pos (by rfl)]
      refine wp_storeBlk 26 (.tmp 7) (.tmp 25) rfl gq77 (x.map bv).toArray (by rfl) (by rfl) _ _ hEq97 (by rw [bv_size, HX.out]; exact Try.sizeHash) (by rw [bv_size, HX.out, Z32_size]) (bv_all _) ?_
      intro yq100 hEq101 grq102
      refine hK.out _ _ ⟨hSq99.1.grown grq102 (by simp; omega), below_new hSq99.2 grq102 lgq80 hSq99.2.size⟩ (fun hSq103 => ?_)
      clear hK K hSq99
      refine wpAnyH_done (by kernel_rfl) ?_ _
      
      have bW := hSq103.2
      have hO9 := own_below hO.out bW
      have hB9 := hB.out.trans (bW.mono hB.out.size)
      have hK9 := hSq103.1
      have hs9 := bW.size
      clear hSq103
      go_wp2_with (at_builtin; refine wpList_append_own _ rfl _ _ 45 rfl (w.heap.size + 1) 5 i8 (.int .u8 0) 1 1 Try.underlying45 HH.out.1 HH.out.2.1 HH.out.2.2.1 HH.out.2.2.2 rfl (by decide) _ _ _ rfl hO9 ⟨gq77, 0, none⟩ 32 32 (x.map bv) rfl (by rw [List.length_map, HX.out]) (fun j u hj => by rw [Addr.add_lit, Nat.zero_add]; exact hEq101.cell j u (by rw [List.getElem?_toArray]; exact hj)) (bv_one _) (by unfold maxLen; omega) (by omega) (by omega) ?_)
      intro v' w8 hO8 g8 _
      obtain ⟨ao', c', rfl⟩ := own_slice hO8
      have hK8 := hK9.grown g8 (fun e => by have := hO9.lt _ e.symm; omega)
      have hB8 := hB9.grown g8 (by omega) (fun q e => by have := (hO9.lt _ e).1; omega)
      have hs8 := g8.size
      have HO8 := Lib.hid hO8
      have HK8 := Lib.hid hK8
      have HB8 := Lib.hid hB8
      clear hO8 hK8 hB8 hO9 hB9 hK9 g8 bW hEq101
      go_wp2_with fail
      go_roundw
      case rel => exact ⟨k + 1, _, by omega, rfl, by go_num, by rw [hblks, hf, ← HX2.out, List.map_append]; exact HO8.out, HK8.out, HB8.out, by omega⟩
      case measure => simp [intOf]; omega
    · have hke : k = (n + 31) / 32 := by omega
      have hlen := hblks_len key k
      have hcap : n ≤ c := by
        rcases hO.out.2 with ⟨h1, h2⟩ | ⟨g, cap, cur, h1, h2, h3, h4, h5⟩
        · omega
        · simp at h1; omega
      obtain ⟨g, rfl⟩ : ∃ g, ao = some ⟨g, 0, none⟩ := by
        rcases hO.out.2 with ⟨h1, h2⟩ | ⟨g, cap, cur, h1, h2, h3, h4, h5⟩
        · omega
        · simp at h1; exact ⟨g, h1.1⟩
      have hcv : ∀ c', (convert 45 9 (.slice (some ⟨g, 0, none⟩) n c')).run Try.prog wr = .ok (.string (str (streamT key n))) wr := fun c' => by
        rw [streamT, ← hke]
        exact conv_own_take (bs := hblks key k) Try.underlying45 Try.underlying5 Try.underlying9 (by rw [hlen]; exact hO.out) (by rw [hlen]; omega) c'
      clear hlen hke
      go_wp2_with fail
      go_returns
      exact ⟨rfl, hB.out⟩
end Go.Proofs.Ytjlpdbaknhbgdaa
