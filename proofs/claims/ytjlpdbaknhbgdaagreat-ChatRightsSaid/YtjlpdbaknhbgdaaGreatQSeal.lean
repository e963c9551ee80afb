/-
  mac.Stream: a row of n bytes. A row put over a text: prim.cross and the document's; prim.tag. Seals: prim.tag, prim.Seal with a nil book and no secrets, the document's Seal. Seals are opened: prim.Open, the document's Open.
-/
import Derived.Test.YtjlpdbaknhbgdaaGreatQRef
import Derived.Test.YtjlpdbaknhbgdaaGreatQBase
import Derived.Test.YtjlpdbaknhbgdaaGreatQWire
set_option linter.unusedSimpArgs false
set_option linter.unusedVariables false
namespace Go.Proofs.YtjlpdbaknhbgdaaGreat
open Go.RowKit

/-- So many codes, one behind the other. -/
def hblks (key : List UInt8) : Nat → List UInt8
  | 0 => []
  | k + 1 => hblks key k ++ hmac key (four4 k)
theorem hblks_len (key : List UInt8) : ∀ k, (hblks key k).length = 32 * k
  | 0 => rfl
  | k + 1 => by rw [hblks, List.length_append, hblks_len key k, hmac_len]; omega
def streamT (key : List UInt8) (n : Nat) : List UInt8 := (hblks key ((n + 31) / 32)).take n
theorem streamT_len (key : List UInt8) (n : Nat) : (streamT key n).length = n := by rw [streamT, List.length_take, hblks_len]; omega
theorem conv_own_take {P : Program} {w : World} {g c n : Nat} {bs : List UInt8} {src e dst : TypeId} {base : Nat} (hs : P.underlying src = some (.slice e)) (he : P.underlying e = some (.int .u8)) (hd : P.underlying dst = some .string)
    (h : w.ownsRow base e 1 (.slice (some ⟨g, 0, none⟩) bs.length c) bs.length (bs.map bv)) (hn : n ≤ bs.length) (c' : Nat) : (convert src dst (.slice (some ⟨g, 0, none⟩) n c')).run P w = .ok (.string (str (bs.take n))) w := by
  have hl : (bs.take n).length = n := by simp; omega
  have := run_convert_bytes_back (P := P) w src dst e ⟨g, 0, none⟩ c' (bs.take n) hs he hd fun j hj => h.cells (g := g) rfl j _ (by rw [hl] at hj; rw [List.getElem?_map, List.getElem?_eq_getElem (by omega)]; simp [bv])
  rw [hl] at this
  exact this

set_option maxHeartbeats 4000000 in
set_option maxRecDepth 100000 in
theorem Stream_calls (key : List UInt8) (n : Nat) (w : World) (hk : key.length = 32) (hn : n ≤ 65536) :
    Calls Tryz.prog 207 #[.agg (key.map bv).toArray, .int .i64 n] w fun e w' => e = .returned (.string (str (streamT key n))) ∧ Below w.heap.size w w' := by
  have HK := Lib.hid hk
  clear hk
  have hK0 : Blk (w.alloc (.cells (key.map bv).toArray 23)) w.heap.size (key.map bv).toArray 23 := Blk.new _ _ _
  have hb0 : Below w.heap.size w (w.alloc (.cells (key.map bv).toArray 23)) := (Below.refl _ _).alloc (Nat.le_refl _) _
  have hs0 : (w.alloc (.cells (key.map bv).toArray 23)).heap.size = w.heap.size + 1 := by simp
  by_cases h0 : n = 0
  · subst h0
    go_enter Tryz.func207, Tryz.ntmps207
    go_wp2
    go_returns
    exact ⟨rfl, hb0⟩
  go_enter Tryz.func207, Tryz.ntmps207
  go_wp2_with fail
  generalize w.alloc (.cells (key.map bv).toArray 23) = W0 at hK0 hb0 hs0 ⊢
  obtain ⟨i8, hi, hz0, hz1, hz2⟩ := info_parts Tryz.infoU8
  have HH := Lib.hid (⟨hi, hz0, hz1, hz2⟩ : _ ∧ _ ∧ _ ∧ _)
  clear hi hz0 hz1 hz2
  go_loopw [5, 6] (fun x i wr => ∃ (k : Nat) (v : Value), k ≤ (n + 31) / 32 ∧ x = v ∧ i = .int .i64 k ∧ Hid (wr.ownsRow (w.heap.size + 1) 5 1 v (32 * k) ((hblks key k).map bv)) ∧ Hid (Blk wr w.heap.size (key.map bv).toArray 23) ∧ Hid (Below w.heap.size w wr) ∧ w.heap.size + 1 ≤ wr.heap.size) (fun _ i _ => 70000 - (intOf i).toNat)
  case atStart => exact ⟨0, _, by omega, rfl, rfl, World.ownsRow_nil _ _ _ _, hK0, hb0, by omega⟩
  case round =>
    obtain ⟨k, v, hk, rfl, rfl, hO, hK, hB, hs⟩ := hrel
    clear hK0 hb0 hs0
    obtain ⟨ao, c, rfl⟩ := own_slice hO.out
    by_cases hlt : 32 * k < n
    · obtain ⟨x, hx⟩ : ∃ x, x = hmac key (four4 k) := ⟨_, rfl⟩
      have HX : Hid (x.length = 32) := by show _ = _; rw [hx]; exact hmac_len _ _
      have c1 : ∀ y, Calls Tryz.prog 199 #[.int .i64 k] y fun e w' => e = .returned (.string (str (four4 k))) ∧ Below y.heap.size y w' := fun y => four_calls k y (by omega)
      have c2 : ∀ (g : Nat) y, Blk y g #[.string (str (four4 k))] 9 → Calls Tryz.prog 198 #[.string (str key), .slice (some ⟨g, 0, none⟩) 1 1] y fun e w' => e = .returned (.agg (x.map bv).toArray) ∧ Below y.heap.size y w' := fun g y hg => by
        have hst : StrsAt y (some ⟨g, 0, none⟩) 1 [four4 k] := StrsAt.blk [four4 k] hg
        rw [hx, show four4 k = [four4 k].flatten by simp]
        exact Code_calls key g 0 1 1 [four4 k] y (by rw [HK.out]; omega) hst (by omega) (by simp [four4]) (by omega)
      generalize hf : four4 k = f4 at c1 c2 hx
      have HX2 := Lib.hid hx
      clear hx
      go_wp2_with fail
      have hb0 := Below.refl wr.heap.size wr
      refine wp_region_held_drew (S := fun x => Blk x (w.heap.size) (key.map bv).toArray 23 ∧ Below wr.heap.size wr x) (by kernel_rfl) ⟨hK.out.drew, below_drewN hb0 1⟩ (fun hSq1 => ?_)
      refine wpAnyH_take (i := 0) (v := .slice (some ⟨w.heap.size, 0, none⟩) 32 32) rfl (by kernel_rfl) (by kernel_rfl) (by kernel_rfl) (fun _ _ _ h => h) (Or.inl ⟨by rfl, fun x hx => by go_simp⟩) hSq1 ?_
      simp only [Act.put, List.getElem_toArray, List.getElem_cons_zero, List.getElem_cons_succ, List.setIfInBounds_toArray, List.set_cons_zero, List.set_cons_succ]
      refine wpAnyH_take (i := 1) (v := .string (str key)) rfl (by kernel_rfl) (by kernel_rfl) (by kernel_rfl) (fun _ _ _ h => h) (Or.inl ⟨by rfl, fun x hx => by have hcv := conv_blk HK.out hx.1; go_simp⟩) hSq1 ?_
      simp only [Act.put, List.getElem_toArray, List.getElem_cons_zero, List.getElem_cons_succ, List.setIfInBounds_toArray, List.set_cons_zero, List.set_cons_succ]
      refine wpAnyH_take (i := 2) (v := .int .i64 k) rfl (by kernel_rfl) (by kernel_rfl) (by kernel_rfl) (fun _ _ _ h => h) (Or.inl ⟨by rfl, fun x hx => by go_simp⟩) hSq1 ?_
      simp only [Act.put, List.getElem_toArray, List.getElem_cons_zero, List.getElem_cons_succ, List.setIfInBounds_toArray, List.set_cons_zero, List.set_cons_succ]
      refine wpAnyH_ready (rs := [3, 6]) (by kernel_rfl) (by simp) ?_
      refine AllReadyH.cons rfl (fun K hK => ?_) ?_
      · go_simp
        go_wp2_with (go_at_call 199; refine (c1 _).mono ?_; rintro e yq2 ⟨rfl, bq3⟩)
        refine hK.out _ _ ⟨hSq1.1.below bq3 hSq1.1.lt, hSq1.2.trans (bq3.mono hSq1.2.size)⟩ (fun hSq4 => ?_)
        clear hK K hSq1 bq3
        refine wpAnyH_ready (rs := [4, 6]) (by kernel_rfl) (by simp) ?_
        refine AllReadyH.cons rfl (fun K hK => ?_) ?_
        · rw [if_pos (by rfl)]
          refine wp_bsStr 80 9 (.tmp 23) rfl (str f4) (by rfl) Tryz.underlying80 (str []) (by kernel_rfl) ?_
          intro gq8 yq6 egq9 ezq10 bq5 hEq7
          have lgq11 : wr.heap.size ≤ gq8 := by rw [egq9]; exact hSq4.2.size
          refine hK.out _ _ ⟨hSq4.1.below bq5 hSq4.1.lt, hSq4.2.trans (bq5.mono hSq4.2.size)⟩ (fun hSq12 => ?_)
          clear hK K hSq4 bq5 egq9 ezq10
          refine wpAnyH_ready (rs := [5, 6]) (by kernel_rfl) (by simp) ?_
          refine AllReadyH.cons rfl (fun K hK => ?_) ?_
          · go_simp
            go_wp2_with (go_at_call 198; refine (c2 _ _ hEq7).mono ?_; rintro e yq13 ⟨rfl, bq14⟩)
            have hEq15 := hEq7.below bq14 hEq7.lt
            refine hK.out _ _ ⟨hSq12.1.below bq14 hSq12.1.lt, hSq12.2.trans (bq14.mono hSq12.2.size)⟩ (fun hSq16 => ?_)
            clear hK K hSq12 bq14
            refine wpAnyH_ready (rs := [6]) (by kernel_rfl) (by simp) ?_
            refine AllReadyH.cons rfl (fun K hK => ?_) AllReadyH.nil
            rw [if_pos (by rfl)]
            refine wp_allocZ 23 rfl Z32 (by kernel_rfl) ?_
            intro gq20 yq18 egq21 ezq22 bq17 hEq19
            have lgq23 : wr.heap.size ≤ gq20 := by rw [egq21]; exact hSq16.2.size
            have hEq24 := hEq15.below bq17 hEq15.lt
            refine hK.out _ _ ⟨hSq16.1.below bq17 hSq16.1.lt, hSq16.2.trans (bq17.mono hSq16.2.size)⟩ (fun hSq25 => ?_)
            clear hK K hSq16 bq17 egq21 ezq22
            refine wpAnyH_ready (rs := [7]) (by kernel_rfl) (by simp) ?_
            refine AllReadyH.cons rfl (fun K hK => ?_) AllReadyH.nil
            rw [if_pos (by rfl)]
            refine wp_storeBlk 23 (.tmp 7) (.tmp 25) rfl gq20 (x.map bv).toArray (by rfl) (by rfl) _ _ hEq19 (by rw [bv_size, HX.out]; exact Tryz.sizeHash) (by rw [bv_size, HX.out, Z32_size]) (bv_all _) ?_
            intro yq26 hEq27 grq28
            refine hK.out _ _ ⟨hSq25.1.grown grq28 (by simp; omega), below_new hSq25.2 grq28 lgq23 hSq25.2.size⟩ (fun hSq29 => ?_)
            clear hK K hSq25
            refine wpAnyH_done (by kernel_rfl) ?_ _
            
            have bW := hSq29.2
            have hO9 := own_below hO.out bW
            have hB9 := hB.out.trans (bW.mono hB.out.size)
            have hK9 := hSq29.1
            have hs9 := bW.size
            clear hSq29
            go_wp2_with (at_builtin; refine wpList_append_own _ rfl _ _ 48 rfl (w.heap.size + 1) 5 i8 (.int .u8 0) 1 1 Tryz.underlying48 HH.out.1 HH.out.2.1 HH.out.2.2.1 HH.out.2.2.2 rfl (by decide) _ _ _ rfl hO9 ⟨gq20, 0, none⟩ 32 32 (x.map bv) rfl (by rw [List.length_map, HX.out]) (fun j u hj => by rw [Addr.add_lit, Nat.zero_add]; exact hEq27.cell j u (by rw [List.getElem?_toArray]; exact hj)) (bv_one _) (by unfold maxLen; omega) (by omega) (by omega) ?_)
            intro v' w8 hO8 g8 _
            obtain ⟨ao', c', rfl⟩ := own_slice hO8
            have hK8 := hK9.grown g8 (fun e => by have := hO9.lt _ e.symm; omega)
            have hB8 := hB9.grown g8 (by omega) (fun q e => by have := (hO9.lt _ e).1; omega)
            have hs8 := g8.size
            have HO8 := Lib.hid hO8
            have HK8 := Lib.hid hK8
            have HB8 := Lib.hid hB8
            clear hO8 hK8 hB8 hO9 hB9 hK9 g8 bW hEq27
            go_wp2_with fail
            go_roundw
            case rel => exact ⟨k + 1, _, by omega, rfl, by go_num, by rw [hblks, hf, ← HX2.out, List.map_append]; exact HO8.out, HK8.out, HB8.out, by omega⟩
            case measure => simp [intOf]; omega
          refine AllReadyH.cons rfl (fun K hK => ?_) AllReadyH.nil
          rw [if_pos (by rfl)]
          refine wp_allocZ 23 rfl Z32 (by kernel_rfl) ?_
          intro gq33 yq31 egq34 ezq35 bq30 hEq32
          have lgq36 : wr.heap.size ≤ gq33 := by rw [egq34]; exact hSq12.2.size
          have hEq37 := hEq7.below bq30 hEq7.lt
          refine hK.out _ _ ⟨hSq12.1.below bq30 hSq12.1.lt, hSq12.2.trans (bq30.mono hSq12.2.size)⟩ (fun hSq38 => ?_)
          clear hK K hSq12 bq30 egq34 ezq35
          refine wpAnyH_ready (rs := [5]) (by kernel_rfl) (by simp) ?_
          refine AllReadyH.cons rfl (fun K hK => ?_) AllReadyH.nil
          go_simp
          go_wp2_with (go_at_call 198; refine (c2 _ _ hEq37).mono ?_; rintro e yq39 ⟨rfl, bq40⟩)
          have hEq41 := hEq37.below bq40 hEq37.lt
          have hEq42 := hEq32.below bq40 hEq32.lt
          refine hK.out _ _ ⟨hSq38.1.below bq40 hSq38.1.lt, hSq38.2.trans (bq40.mono hSq38.2.size)⟩ (fun hSq43 => ?_)
          clear hK K hSq38 bq40
          refine wpAnyH_ready (rs := [7]) (by kernel_rfl) (by simp) ?_
          refine AllReadyH.cons rfl (fun K hK => ?_) AllReadyH.nil
          rw [if_pos (by rfl)]
          refine wp_storeBlk 23 (.tmp 7) (.tmp 25) rfl gq33 (x.map bv).toArray (by rfl) (by rfl) _ _ hEq42 (by rw [bv_size, HX.out]; exact Tryz.sizeHash) (by rw [bv_size, HX.out, Z32_size]) (bv_all _) ?_
          intro yq44 hEq45 grq46
          refine hK.out _ _ ⟨hSq43.1.grown grq46 (by simp; omega), below_new hSq43.2 grq46 lgq36 hSq43.2.size⟩ (fun hSq47 => ?_)
          clear hK K hSq43
          refine wpAnyH_done (by kernel_rfl) ?_ _
          
          have bW := hSq47.2
          have hO9 := own_below hO.out bW
          have hB9 := hB.out.trans (bW.mono hB.out.size)
          have hK9 := hSq47.1
          have hs9 := bW.size
          clear hSq47
          go_wp2_with (at_builtin; refine wpList_append_own _ rfl _ _ 48 rfl (w.heap.size + 1) 5 i8 (.int .u8 0) 1 1 Tryz.underlying48 HH.out.1 HH.out.2.1 HH.out.2.2.1 HH.out.2.2.2 rfl (by decide) _ _ _ rfl hO9 ⟨gq33, 0, none⟩ 32 32 (x.map bv) rfl (by rw [List.length_map, HX.out]) (fun j u hj => by rw [Addr.add_lit, Nat.zero_add]; exact hEq45.cell j u (by rw [List.getElem?_toArray]; exact hj)) (bv_one _) (by unfold maxLen; omega) (by omega) (by omega) ?_)
          intro v' w8 hO8 g8 _
          obtain ⟨ao', c', rfl⟩ := own_slice hO8
          have hK8 := hK9.grown g8 (fun e => by have := hO9.lt _ e.symm; omega)
          have hB8 := hB9.grown g8 (by omega) (fun q e => by have := (hO9.lt _ e).1; omega)
          have hs8 := g8.size
          have HO8 := Lib.hid hO8
          have HK8 := Lib.hid hK8
          have HB8 := Lib.hid hB8
          clear hO8 hK8 hB8 hO9 hB9 hK9 g8 bW hEq45
          go_wp2_with fail
          go_roundw
          case rel => exact ⟨k + 1, _, by omega, rfl, by go_num, by rw [hblks, hf, ← HX2.out, List.map_append]; exact HO8.out, HK8.out, HB8.out, by omega⟩
          case measure => simp [intOf]; omega
        refine AllReadyH.cons rfl (fun K hK => ?_) AllReadyH.nil
        rw [if_pos (by rfl)]
        refine wp_allocZ 23 rfl Z32 (by kernel_rfl) ?_
        intro gq51 yq49 egq52 ezq53 bq48 hEq50
        have lgq54 : wr.heap.size ≤ gq51 := by rw [egq52]; exact hSq4.2.size
        refine hK.out _ _ ⟨hSq4.1.below bq48 hSq4.1.lt, hSq4.2.trans (bq48.mono hSq4.2.size)⟩ (fun hSq55 => ?_)
        clear hK K hSq4 bq48 egq52 ezq53
        refine wpAnyH_ready (rs := [4]) (by kernel_rfl) (by simp) ?_
        refine AllReadyH.cons rfl (fun K hK => ?_) AllReadyH.nil
        rw [if_pos (by rfl)]
        refine wp_bsStr 80 9 (.tmp 23) rfl (str f4) (by rfl) Tryz.underlying80 (str []) (by kernel_rfl) ?_
        intro gq59 yq57 egq60 ezq61 bq56 hEq58
        have lgq62 : wr.heap.size ≤ gq59 := by rw [egq60]; exact hSq55.2.size
        have hEq63 := hEq50.below bq56 hEq50.lt
        refine hK.out _ _ ⟨hSq55.1.below bq56 hSq55.1.lt, hSq55.2.trans (bq56.mono hSq55.2.size)⟩ (fun hSq64 => ?_)
        clear hK K hSq55 bq56 egq60 ezq61
        refine wpAnyH_ready (rs := [5]) (by kernel_rfl) (by simp) ?_
        refine AllReadyH.cons rfl (fun K hK => ?_) AllReadyH.nil
        go_simp
        go_wp2_with (go_at_call 198; refine (c2 _ _ hEq58).mono ?_; rintro e yq65 ⟨rfl, bq66⟩)
        have hEq67 := hEq63.below bq66 hEq63.lt
        have hEq68 := hEq58.below bq66 hEq58.lt
        refine hK.out _ _ ⟨hSq64.1.below bq66 hSq64.1.lt, hSq64.2.trans (bq66.mono hSq64.2.size)⟩ (fun hSq69 => ?_)
        clear hK K hSq64 bq66
        refine wpAnyH_ready (rs := [7]) (by kernel_rfl) (by simp) ?_
        refine AllReadyH.cons rfl (fun K hK => ?_) AllReadyH.nil
        rw [if_pos (by rfl)]
        refine wp_storeBlk 23 (.tmp 7) (.tmp 25) rfl gq51 (x.map bv).toArray (by rfl) (by rfl) _ _ hEq67 (by rw [bv_size, HX.out]; exact Tryz.sizeHash) (by rw [bv_size, HX.out, Z32_size]) (bv_all _) ?_
        intro yq70 hEq71 grq72
        refine hK.out _ _ ⟨hSq69.1.grown grq72 (by simp; omega), below_new hSq69.2 grq72 lgq54 hSq69.2.size⟩ (fun hSq73 => ?_)
        clear hK K hSq69
        refine wpAnyH_done (by kernel_rfl) ?_ _
        
        have bW := hSq73.2
        have hO9 := own_below hO.out bW
        have hB9 := hB.out.trans (bW.mono hB.out.size)
        have hK9 := hSq73.1
        have hs9 := bW.size
        clear hSq73
        go_wp2_with (at_builtin; refine wpList_append_own _ rfl _ _ 48 rfl (w.heap.size + 1) 5 i8 (.int .u8 0) 1 1 Tryz.underlying48 HH.out.1 HH.out.2.1 HH.out.2.2.1 HH.out.2.2.2 rfl (by decide) _ _ _ rfl hO9 ⟨gq51, 0, none⟩ 32 32 (x.map bv) rfl (by rw [List.length_map, HX.out]) (fun j u hj => by rw [Addr.add_lit, Nat.zero_add]; exact hEq71.cell j u (by rw [List.getElem?_toArray]; exact hj)) (bv_one _) (by unfold maxLen; omega) (by omega) (by omega) ?_)
        intro v' w8 hO8 g8 _
        obtain ⟨ao', c', rfl⟩ := own_slice hO8
        have hK8 := hK9.grown g8 (fun e => by have := hO9.lt _ e.symm; omega)
        have hB8 := hB9.grown g8 (by omega) (fun q e => by have := (hO9.lt _ e).1; omega)
        have hs8 := g8.size
        have HO8 := Lib.hid hO8
        have HK8 := Lib.hid hK8
        have HB8 := Lib.hid hB8
        clear hO8 hK8 hB8 hO9 hB9 hK9 g8 bW hEq71
        go_wp2_with fail
        go_roundw
        case rel => exact ⟨k + 1, _, by omega, rfl, by go_num, by rw [hblks, hf, ← HX2.out, List.map_append]; exact HO8.out, HK8.out, HB8.out, by omega⟩
        case measure => simp [intOf]; omega
      refine AllReadyH.cons rfl (fun K hK => ?_) AllReadyH.nil
      rw [if_pos (by rfl)]
      refine wp_allocZ 23 rfl Z32 (by kernel_rfl) ?_
      intro gq77 yq75 egq78 ezq79 bq74 hEq76
      have lgq80 : wr.heap.size ≤ gq77 := by rw [egq78]; exact hSq1.2.size
      refine hK.out _ _ ⟨hSq1.1.below bq74 hSq1.1.lt, hSq1.2.trans (bq74.mono hSq1.2.size)⟩ (fun hSq81 => ?_)
      clear hK K hSq1 bq74 egq78 ezq79
      refine wpAnyH_ready (rs := [3]) (by kernel_rfl) (by simp) ?_
      refine AllReadyH.cons rfl (fun K hK => ?_) AllReadyH.nil
      go_simp
      go_wp2_with (go_at_call 199; refine (c1 _).mono ?_; rintro e yq82 ⟨rfl, bq83⟩)
      have hEq84 := hEq76.below bq83 hEq76.lt
      refine hK.out _ _ ⟨hSq81.1.below bq83 hSq81.1.lt, hSq81.2.trans (bq83.mono hSq81.2.size)⟩ (fun hSq85 => ?_)
      clear hK K hSq81 bq83
      refine wpAnyH_ready (rs := [4]) (by kernel_rfl) (by simp) ?_
      refine AllReadyH.cons rfl (fun K hK => ?_) AllReadyH.nil
      rw [if_pos (by rfl)]
      refine wp_bsStr 80 9 (.tmp 23) rfl (str f4) (by rfl) Tryz.underlying80 (str []) (by kernel_rfl) ?_
      intro gq89 yq87 egq90 ezq91 bq86 hEq88
      have lgq92 : wr.heap.size ≤ gq89 := by rw [egq90]; exact hSq85.2.size
      have hEq93 := hEq84.below bq86 hEq84.lt
      refine hK.out _ _ ⟨hSq85.1.below bq86 hSq85.1.lt, hSq85.2.trans (bq86.mono hSq85.2.size)⟩ (fun hSq94 => ?_)
      clear hK K hSq85 bq86 egq90 ezq91
      refine wpAnyH_ready (rs := [5]) (by kernel_rfl) (by simp) ?_
      refine AllReadyH.cons rfl (fun K hK => ?_) AllReadyH.nil
      go_simp
      go_wp2_with (go_at_call 198; refine (c2 _ _ hEq88).mono ?_; rintro e yq95 ⟨rfl, bq96⟩)
      have hEq97 := hEq93.below bq96 hEq93.lt
      have hEq98 := hEq88.below bq96 hEq88.lt
      refine hK.out _ _ ⟨hSq94.1.below bq96 hSq94.1.lt, hSq94.2.trans (bq96.mono hSq94.2.size)⟩ (fun hSq99 => ?_)
      clear hK K hSq94 bq96
      refine wpAnyH_ready (rs := [7]) (by kernel_rfl) (by simp) ?_
      refine AllReadyH.cons rfl (fun K hK => ?_) AllReadyH.nil
      rw [if_pos (by rfl)]
      refine wp_storeBlk 23 (.tmp 7) (.tmp 25) rfl gq77 (x.map bv).toArray (by rfl) (by rfl) _ _ hEq97 (by rw [bv_size, HX.out]; exact Tryz.sizeHash) (by rw [bv_size, HX.out, Z32_size]) (bv_all _) ?_
      intro yq100 hEq101 grq102
      refine hK.out _ _ ⟨hSq99.1.grown grq102 (by simp; omega), below_new hSq99.2 grq102 lgq80 hSq99.2.size⟩ (fun hSq103 => ?_)
      clear hK K hSq99
      refine wpAnyH_done (by kernel_rfl) ?_ _
      
      have bW := hSq103.2
      have hO9 := own_below hO.out bW
      have hB9 := hB.out.trans (bW.mono hB.out.size)
      have hK9 := hSq103.1
      have hs9 := bW.size
      clear hSq103
      go_wp2_with (at_builtin; refine wpList_append_own _ rfl _ _ 48 rfl (w.heap.size + 1) 5 i8 (.int .u8 0) 1 1 Tryz.underlying48 HH.out.1 HH.out.2.1 HH.out.2.2.1 HH.out.2.2.2 rfl (by decide) _ _ _ rfl hO9 ⟨gq77, 0, none⟩ 32 32 (x.map bv) rfl (by rw [List.length_map, HX.out]) (fun j u hj => by rw [Addr.add_lit, Nat.zero_add]; exact hEq101.cell j u (by rw [List.getElem?_toArray]; exact hj)) (bv_one _) (by unfold maxLen; omega) (by omega) (by omega) ?_)
      intro v' w8 hO8 g8 _
      obtain ⟨ao', c', rfl⟩ := own_slice hO8
      have hK8 := hK9.grown g8 (fun e => by have := hO9.lt _ e.symm; omega)
      have hB8 := hB9.grown g8 (by omega) (fun q e => by have := (hO9.lt _ e).1; omega)
      have hs8 := g8.size
      have HO8 := Lib.hid hO8
      have HK8 := Lib.hid hK8
      have HB8 := Lib.hid hB8
      clear hO8 hK8 hB8 hO9 hB9 hK9 g8 bW hEq101
      go_wp2_with fail
      go_roundw
      case rel => exact ⟨k + 1, _, by omega, rfl, by go_num, by rw [hblks, hf, ← HX2.out, List.map_append]; exact HO8.out, HK8.out, HB8.out, by omega⟩
      case measure => simp [intOf]; omega
    · have hke : k = (n + 31) / 32 := by omega
      have hlen := hblks_len key k
      have hcap : n ≤ c := by
        rcases hO.out.2 with ⟨h1, h2⟩ | ⟨g, cap, cur, h1, h2, h3, h4, h5⟩
        · omega
        · simp at h1; omega
      obtain ⟨g, rfl⟩ : ∃ g, ao = some ⟨g, 0, none⟩ := by
        rcases hO.out.2 with ⟨h1, h2⟩ | ⟨g, cap, cur, h1, h2, h3, h4, h5⟩
        · omega
        · simp at h1; exact ⟨g, h1.1⟩
      have hcv : ∀ c', (convert 48 9 (.slice (some ⟨g, 0, none⟩) n c')).run Tryz.prog wr = .ok (.string (str (streamT key n))) wr := fun c' => by
        rw [streamT, ← hke]
        exact conv_own_take (bs := hblks key k) Tryz.underlying48 Tryz.underlying5 Tryz.underlying9 (by rw [hlen]; exact hO.out) (by rw [hlen]; omega) c'
      clear hlen hke
      go_wp2_with fail
      go_returns
      exact ⟨rfl, hB.out⟩
end Go.Proofs.YtjlpdbaknhbgdaaGreat
set_option linter.unusedSimpArgs false
set_option linter.unusedVariables false
namespace Go.Proofs.YtjlpdbaknhbgdaaGreat
open Go.RowKit

def lStream : List UInt8 := [115, 116, 114, 101, 97, 109]
def lTag : List UInt8 := [116, 97, 103]
def mixK (s r : List UInt8) (k : Nat) : List UInt8 := (List.zipWith (· ^^^ ·) s r).take k ++ s.drop k
theorem mixK_zero (s r : List UInt8) : mixK s r 0 = s := by simp [mixK]
theorem mixK_all (s r : List UInt8) (h : r.length = s.length) : mixK s r s.length = List.zipWith (· ^^^ ·) s r := by
  rw [mixK, List.drop_length, List.append_nil, List.take_of_length_le (by rw [List.length_zipWith]; omega)]
theorem mixK_len (s r : List UInt8) (k : Nat) (h : r.length = s.length) (hk : k ≤ s.length) : (mixK s r k).length = s.length := by
  simp [mixK, h]; omega
theorem mixK_get (s r : List UInt8) (k : Nat) (h : r.length = s.length) (hk : k < s.length) : (mixK s r k)[k]? = some s[k] := by
  rw [mixK, List.getElem?_append_right (by simp; omega)]
  simp [h]
  rw [Nat.min_eq_left (by omega), Nat.sub_self, Nat.add_zero]
  exact List.getElem?_eq_getElem hk
theorem mixK_set (s r : List UInt8) (k : Nat) (h : r.length = s.length) (hk : k < s.length) (hr : k < r.length) : (mixK s r k).set k (s[k] ^^^ r[k]) = mixK s r (k + 1) := by
  have hz : k < (List.zipWith (· ^^^ ·) s r).length := by simp [h]; omega
  rw [mixK, List.set_append_right _ _ (by simp; omega), mixK, List.take_succ_eq_append_getElem hz, List.append_assoc]
  congr 1
  rw [List.length_take, Nat.min_eq_left (by omega), Nat.sub_self, List.drop_eq_getElem_cons hk, List.set_cons_zero]
  simp
theorem u8xor_self2 (a b : UInt8) : a ^^^ b ^^^ b = a := by rw [UInt8.xor_assoc, UInt8.xor_self, UInt8.xor_zero]
theorem zip_twice : ∀ (s r : List UInt8), r.length = s.length → List.zipWith (· ^^^ ·) (List.zipWith (· ^^^ ·) s r) r = s
  | [], r, h => by simp
  | a :: s, [], h => by simp at h
  | a :: s, b :: r, h => by
    simp only [List.zipWith_cons_cons]
    rw [zip_twice s r (by simpa using h), u8xor_self2]
def crossT (key s : List UInt8) : List UInt8 := List.zipWith (· ^^^ ·) s (streamT (derive key lStream []) s.length)
theorem crossT_len (key s : List UInt8) : (crossT key s).length = s.length := by simp [crossT, streamT_len]
theorem crossT_twice (key s : List UInt8) : crossT key (crossT key s) = s := by
  rw [crossT, crossT_len, crossT]
  exact zip_twice s _ (streamT_len _ _)

theorem OwnM.set {base : Nat} {e : TypeId} {w : World} {g n cap : Nat} {bs : List UInt8} (h : OwnM base e w (.slice (some ⟨g, 0, none⟩) n cap) bs) (k : Nat) (c : UInt8) : OwnM base e (w.setCell ⟨g, k, none⟩ (bv c)) (.slice (some ⟨g, 0, none⟩) n cap) (bs.set k c) := by
  obtain ⟨g', cap', cur, fr, he, hb, hg, h1, h2, h3, h4⟩ := h
  simp only [Value.slice.injEq, Option.some.injEq, Addr.mk.injEq] at he
  obtain ⟨⟨rfl, _⟩, rfl, rfl⟩ := he
  refine ⟨g, cap, cur.setIfInBounds k (bv c), fr, by simp, hb, ?_, ?_, by simpa using h2, by simpa using h3, h4⟩
  · show (w.heap.modify g _)[g]? = _
    have hl := lt_of_block hg
    rw [Array.getElem?_eq_getElem (by simpa using hl), Array.getElem_modify_self]
    have h' : w.heap[g] = .cells cur e fr := by simpa [Array.getElem?_eq_getElem hl] using hg
    rw [h']; rfl
  · rw [Array.toList_setIfInBounds, List.length_set, List.take_set, h1, List.map_set]
theorem OwnM.free {base : Nat} {e : TypeId} {w : World} {g n cap : Nat} {bs : List UInt8} (h : OwnM base e w (.slice (some ⟨g, 0, none⟩) n cap) bs) (k : Nat) (hk : k < bs.length) : w.frozen? ⟨g, k, none⟩ = false := by
  obtain ⟨g', cap', cur, fr, he, hb, hg, h1, h2, h3, h4⟩ := h
  simp only [Value.slice.injEq, Option.some.injEq, Addr.mk.injEq] at he
  obtain ⟨⟨rfl, _⟩, rfl, rfl⟩ := he
  have := h4 k (by omega)
  simp only [World.frozen?, hg]
  simp
  omega
theorem OwnM.cellOf {base : Nat} {e : TypeId} {w : World} {g n cap : Nat} {bs : List UInt8} (h : OwnM base e w (.slice (some ⟨g, 0, none⟩) n cap) bs) (k : Nat) (c : UInt8) (hk : bs[k]? = some c) : w.cell? ⟨g, k, none⟩ = some (bv c) := by
  obtain ⟨g', cap', he, _, _, _, hc⟩ := h.read
  simp only [Value.slice.injEq, Option.some.injEq, Addr.mk.injEq] at he
  obtain ⟨⟨rfl, _⟩, rfl, rfl⟩ := he
  obtain ⟨hl, he⟩ := List.getElem?_eq_some_iff.1 hk
  rw [hc k hl, he]
theorem OwnM.conv_back {P : Program} {base : Nat} {w : World} {g n c : Nat} {bs : List UInt8} {src e dst : TypeId} (hs : P.underlying src = some (.slice e)) (he : P.underlying e = some (.int .u8)) (hd : P.underlying dst = some .string)
    (h : OwnM base e w (.slice (some ⟨g, 0, none⟩) n c) bs) (hn : n = bs.length) : (convert src dst (.slice (some ⟨g, 0, none⟩) n c)).run P w = .ok (.string (str bs)) w := by
  subst hn
  exact run_convert_bytes_back (P := P) w src dst e ⟨g, 0, none⟩ c bs hs he hd fun j hj => by
    rw [Addr.add_lit, Nat.zero_add]
    have := h.cellOf j bs[j] (List.getElem?_eq_getElem hj)
    simpa [bv] using this
theorem OwnM.ofBlk {w : World} {g : Nat} {e : TypeId} {l : List UInt8} (h : Blk w g (l.map bv).toArray e) : OwnM g e w (.slice (some ⟨g, 0, none⟩) l.length l.length) l :=
  ⟨g, l.length, _, (0, 0), rfl, Nat.le_refl _, h, by rw [show ((l.map bv).toArray).toList = l.map bv from rfl, List.take_of_length_le (by simp)], Nat.le_refl _, by simp, fun j _ => by omega⟩
theorem own_full_blk {w : World} {base : Nat} {e : TypeId} {g n : Nat} {xs : List Value} (h : w.ownsRow base e 1 (.slice (some ⟨g, 0, none⟩) n n) n xs) : ∃ cur, Blk w g cur e ∧ cur.size = n := by
  rcases h.2 with ⟨q1, q2⟩ | ⟨g2, cap, cur, q1, q2, q3, q4, q5, q6, q7⟩
  · simp at q1
  · simp at q1
    obtain ⟨rfl, rfl⟩ := q1
    exact ⟨cur, q3, by omega⟩

set_option maxHeartbeats 4000000 in
set_option maxRecDepth 100000 in
theorem Cross_calls (key s : List UInt8) (w : World) (hk : key.length = 32) (hl : s.length ≤ 65536) :
    Calls Tryz.prog 168 #[.agg (key.map bv).toArray, .string (str s)] w fun e w' => e = .returned (.string (str (crossT key s))) ∧ Below w.heap.size w w' := by
  have HK := Lib.hid hk
  clear hk
  have hK0 : Blk (w.alloc (.cells (key.map bv).toArray 23)) w.heap.size (key.map bv).toArray 23 := Blk.new _ _ _
  have hb0 : Below w.heap.size w (w.alloc (.cells (key.map bv).toArray 23)) := (Below.refl _ _).alloc (Nat.le_refl _) _
  obtain ⟨d, hd⟩ : ∃ d, d = derive key lStream [] := ⟨_, rfl⟩
  have HD : Hid (d.length = 32) := by show _ = _; rw [hd]; exact hmac_len _ _
  obtain ⟨r, hr⟩ : ∃ r, r = streamT d s.length := ⟨_, rfl⟩
  have hrl : r.length = s.length := by rw [hr]; exact streamT_len _ _
  have c1 : ∀ x, Calls Tryz.prog 158 #[.agg (key.map bv).toArray, .string (str lStream), .string (str [])] x fun e w' => e = .returned (.agg (d.map bv).toArray) ∧ Below x.heap.size x w' := by rw [hd]; exact fun x => Derive_calls key lStream [] x HK.out (by decide) (by simp)
  have c2 : ∀ x, Calls Tryz.prog 207 #[.agg (d.map bv).toArray, .int .i64 s.length] x fun e w' => e = .returned (.string (str r)) ∧ Below x.heap.size x w' := by rw [hr]; exact fun x => Stream_calls d s.length x HD.out hl
  have hfin : Hid (crossT key s = mixK s r s.length) := by show _ = _; rw [mixK_all s r hrl, crossT, hr, hd]
  have HRL := Lib.hid hrl
  clear hr hd
  obtain ⟨i8, hi, hz0, hz1, hz2⟩ := info_parts Tryz.infoU8
  have HH := Lib.hid (⟨hi, hz0, hz1, hz2⟩ : _ ∧ _ ∧ _ ∧ _)
  clear hi hz0 hz1 hz2 hrl
  go_enter Tryz.func168, Tryz.ntmps168
  go_wp2_with ((with_reducible show wpList _ _ _ (⟨some 8, _, _, _, _, _⟩ :: _) _ _); refine wpList_loadBlk rfl 23 (.tmp 2) rfl w.heap.size (by rfl) _ _ _ hK0 Tryz.underlying23 rfl (by rw [bv_size, HK.out]; exact Tryz.sizeHash) ?_)
  generalize w.alloc (.cells (key.map bv).toArray 23) = W0 at hK0 hb0 ⊢
  refine (c1 _).mono ?_
  rintro e w1 ⟨rfl, b1⟩
  have hb1 := hb0.trans (b1.mono hb0.size)
  clear hK0 hb0 b1
  go_wp2_with fail
  refine (c2 _).mono ?_
  rintro e w2 ⟨rfl, b2⟩
  have hb2 := hb1.trans (b2.mono hb1.size)
  clear hb1 b2 c1 c2
  go_wp2_with (first | ((with_reducible show wpList _ _ _ (⟨some 15, _, _, _, _, _⟩ :: _) _ _); refine wpList_make_full _ rfl _ _ 48 rfl w2.heap.size 5 i8 (.int .u8 0) 1 Tryz.underlying48 HH.out.1 HH.out.2.1 HH.out.2.2.1 .i64 .i64 _ _ s.length (by rfl) (by rfl) rfl rfl (by rw [HH.out.2.2.2]; omega) (by unfold maxLen; omega) (Nat.le_refl _) ?_; intro w3 hO3 g3; obtain ⟨cur, hC3, hcs⟩ := own_full_blk hO3; have hb3 : Below w.heap.size w w3 := hb2.grown g3 hb2.size (by simp); have hs3 := hb2.size; clear hO3 g3) | ((with_reducible show wpList _ _ _ (⟨some 18, _, _, _, _, _⟩ :: _) _ _); refine wpList_copyStr rfl (.tmp 16) (.tmp 17) 48 9 rfl 5 Tryz.underlying48 Tryz.sizeU8' w2.heap.size 0 s.length s.length s (by rfl) (by rfl) cur _ hC3 (Nat.le_refl _) (by omega) (s.map bv).toArray (by rw [List.drop_of_length_le (by simp; omega)]; simp) ?_; intro w4 hC4 g4; have hb4 : Below w.heap.size w w4 := below_new hb3 g4 hs3 hb3.size; clear hC3 hb3 g4))
  have hO4 : Hid (OwnM w2.heap.size 5 w4 (.slice (some ⟨w2.heap.size, 0, none⟩) s.length s.length) (mixK s r 0)) := by show OwnM _ _ _ _ _; rw [mixK_zero]; exact OwnM.ofBlk hC4
  have HB4 := Lib.hid hb4
  have hs2 := hb2.size
  clear hC4 hb4 hb2
  generalize w2.heap.size = G at hO4 hs2 ⊢
  go_loopw [7, 21] (fun _ j wr => ∃ (k : Nat), k ≤ s.length ∧ j = .int .i64 k ∧ Hid (OwnM G 5 wr (.slice (some ⟨G, 0, none⟩) s.length s.length) (mixK s r k)) ∧ Hid (Below w.heap.size w wr)) (fun _ j _ => s.length - (intOf j).toNat)
  case atStart => exact ⟨0, by omega, rfl, hO4, HB4⟩
  case round =>
    obtain ⟨k, hk, rfl, hO, hB⟩ := hrel
    clear hO4 HB4
    by_cases hlt : k < s.length
    · have hlen := mixK_len s r k HRL.out hk
      have hkr : k < r.length := by rw [HRL.out]; exact hlt
      have hc := hO.out.cellOf k s[k] (mixK_get s r k HRL.out hlt)
      have hf := hO.out.free k (by rw [hlen]; exact hlt)
      have hO' := hO.out.set k (s[k] ^^^ r[k])
      rw [mixK_set s r k HRL.out hlt hkr] at hO'
      have HO' := Lib.hid hO'
      have HX : Hid (Value.int .u8 (bits BinOp.xor IntKind.u8 (s[k].toNat : Int) (r[k].toNat : Int)) = bv (s[k] ^^^ r[k])) := by show _ = _; unfold bv; rw [← bxor]
      clear hO' hlen
      unfold bv at hc
      go_wp2_with fail
      go_region
      all_goals
        go_wp2_with fail
        go_roundw
        case rel =>
          refine ⟨k + 1, by omega, by go_num, ?_, ?_⟩
          · rw [HX.out]; exact HO'
          · show Below _ _ _
            refine below_drewN (hB.out.setCell ?_ _) 1
            show w.heap.size ≤ G
            omega
        case measure => simp [intOf]; omega
    · obtain rfl : k = s.length := by omega
      have hcv := hO.out.conv_back Tryz.underlying48 Tryz.underlying5 Tryz.underlying9 (mixK_len s r _ HRL.out (Nat.le_refl _)).symm
      rw [← hfin.out] at hcv
      generalize hCT : crossT key s = ct at hcv
      have HCT := Lib.hid hCT
      clear hCT
      go_wp2_with fail
      go_returns
      have h1 := HCT.out
      subst h1
      exact ⟨rfl, hB.out⟩

end Go.Proofs.YtjlpdbaknhbgdaaGreat
set_option linter.unusedSimpArgs false
set_option linter.unusedVariables false
namespace Go.Proofs.YtjlpdbaknhbgdaaGreat
open Go.RowKit

def tagT2 (key about c : List UInt8) : List UInt8 := (derive (derive key lTag []) about c).take 16
theorem tagT2_len (key about c : List UInt8) : (tagT2 key about c).length = 16 := by
  have h : (derive (derive key lTag []) about c).length = 32 := hmac_len _ _
  rw [tagT2, List.length_take, h]
  rfl
def sealT (key about s : List UInt8) : List UInt8 := crossT key s ++ tagT2 key about (crossT key s)
theorem sealT_len (key about s : List UInt8) : (sealT key about s).length = s.length + 16 := by rw [sealT, List.length_append, crossT_len, tagT2_len]

set_option maxHeartbeats 4000000 in
set_option maxRecDepth 100000 in
theorem tag_calls (key about c : List UInt8) (w : World) (hk : key.length = 32) (ha : about.length ≤ 68719476736) (hc : c.length ≤ 68719476736) :
    Calls Tryz.prog 169 #[.agg (key.map bv).toArray, .string (str about), .string (str c)] w fun e w' => e = .returned (.string (str (tagT2 key about c))) ∧ Below w.heap.size w w' := by
  have HK := Lib.hid hk
  clear hk
  have hK0 : Blk (w.alloc (.cells (key.map bv).toArray 23)) w.heap.size (key.map bv).toArray 23 := Blk.new _ _ _
  have hb0 : Below w.heap.size w (w.alloc (.cells (key.map bv).toArray 23)) := (Below.refl _ _).alloc (Nat.le_refl _) _
  obtain ⟨d, hd⟩ : ∃ d, d = derive key lTag [] := ⟨_, rfl⟩
  have HD : Hid (d.length = 32) := by show _ = _; rw [hd]; exact hmac_len _ _
  obtain ⟨r, hr⟩ : ∃ r, r = derive d about c := ⟨_, rfl⟩
  have HR : Hid (r.length = 32) := by show _ = _; rw [hr]; exact hmac_len _ _
  have c1 : ∀ x, Calls Tryz.prog 158 #[.agg (key.map bv).toArray, .string (str lTag), .string (str [])] x fun e w' => e = .returned (.agg (d.map bv).toArray) ∧ Below x.heap.size x w' := by rw [hd]; exact fun x => Derive_calls key lTag [] x HK.out (by decide) (by simp)
  have c2 : ∀ x, Calls Tryz.prog 158 #[.agg (d.map bv).toArray, .string (str about), .string (str c)] x fun e w' => e = .returned (.agg (r.map bv).toArray) ∧ Below x.heap.size x w' := by rw [hr]; exact fun x => Derive_calls d about c x HD.out ha hc
  have hfin : Hid (tagT2 key about c = r.take 16) := by show _ = _; rw [tagT2, hr, hd]
  clear hd hr
  go_enter Tryz.func169, Tryz.ntmps169
  go_wp2_with ((with_reducible show wpList _ _ _ (⟨some 8, _, _, _, _, _⟩ :: _) _ _); refine wpList_loadBlk rfl 23 (.tmp 3) rfl w.heap.size (by rfl) _ _ _ hK0 Tryz.underlying23 rfl (by rw [bv_size, HK.out]; exact Tryz.sizeHash) ?_)
  generalize w.alloc (.cells (key.map bv).toArray 23) = W0 at hK0 hb0 ⊢
  refine (c1 _).mono ?_
  rintro e w1 ⟨rfl, b1⟩
  have hb1 := hb0.trans (b1.mono hb0.size)
  clear hK0 hb0 b1
  go_wp2_with fail
  refine (c2 _).mono ?_
  rintro e w2 ⟨rfl, b2⟩
  have hb2 := hb1.trans (b2.mono hb1.size)
  have hN := Blk.new w2 Z32 23
  have hb3 := hb2.alloc hb2.size (.cells Z32 23)
  have hs2 := hb2.size
  clear hb1 b2 c1 c2 hb2
  go_wp2_with (first | ((with_reducible show wpList _ _ _ (⟨none, Op.store _ (.tmp 7) _, _, _, _, _⟩ :: _) _ _); refine wpList_storeBlk rfl 23 (.tmp 7) (.tmp 12) rfl w2.heap.size (r.map bv).toArray (by rfl) (by rfl) _ _ hN (by rw [bv_size, HR.out]; exact Tryz.sizeHash) (by rw [bv_size, HR.out, Z32_size]) (bv_all _) ?_; intro w3 hD3 g3; have hb4 : Below w.heap.size w w3 := below_new hb3 g3 hs2 hb3.size; clear hN hb3 g3) | ((with_reducible show wpList _ _ _ (⟨some 14, _, _, _, _, _⟩ :: _) _ _); refine wpList_convBlk rfl 48 9 5 (.tmp 13) rfl Tryz.underlying48 Tryz.underlying5 Tryz.underlying9 w2.heap.size 16 32 (by rfl) _ _ hD3 (r.take 16) (by rw [List.length_take, HR.out]; rfl) (by rw [show ((r.map bv).toArray).toList = r.map bv from rfl, List.map_take]) ?_))
  rw [← hfin.out]
  go_returns
  exact ⟨rfl, hb4⟩

set_option maxHeartbeats 4000000 in
set_option maxRecDepth 100000 in
theorem Seal_calls (key about s : List UInt8) (w : World) (hk : key.length = 32) (ha : about.length ≤ 68719476736) (hl : s.length ≤ 65536) :
    Calls Tryz.prog 102 #[.pointer none, .agg (key.map bv).toArray, .string (str about), .string (str s), .slice none 0 0] w fun e w' => e = .returned (.string (str (sealT key about s))) ∧ Below w.heap.size w w' := by
  have HK := Lib.hid hk
  clear hk
  have hK0 : Blk (w.alloc (.cells (key.map bv).toArray 23)) w.heap.size (key.map bv).toArray 23 := Blk.new _ _ _
  have hb0 : Below w.heap.size w (w.alloc (.cells (key.map bv).toArray 23)) := (Below.refl _ _).alloc (Nat.le_refl _) _
  obtain ⟨c, hc⟩ : ∃ c, c = crossT key s := ⟨_, rfl⟩
  have hcl : c.length = s.length := by rw [hc]; exact crossT_len _ _
  obtain ⟨r, hr⟩ : ∃ r, r = tagT2 key about c := ⟨_, rfl⟩
  have HR : Hid (r.length = 16) := by show _ = _; rw [hr]; exact tagT2_len _ _ _
  have c1 : ∀ x, Calls Tryz.prog 168 #[.agg (key.map bv).toArray, .string (str s)] x fun e w' => e = .returned (.string (str c)) ∧ Below x.heap.size x w' := by rw [hc]; exact fun x => Cross_calls key s x HK.out hl
  have c2 : ∀ x, Calls Tryz.prog 169 #[.agg (key.map bv).toArray, .string (str about), .string (str c)] x fun e w' => e = .returned (.string (str r)) ∧ Below x.heap.size x w' := by rw [hr]; exact fun x => tag_calls key about c x HK.out ha (by omega)
  have hfin : Hid (sealT key about s = c ++ r) := by show _ = _; rw [sealT, hr, hc]
  have hrl : r.length ≤ 16 := by rw [HR.out]; omega
  have hcl2 : c.length ≤ 65536 := by omega
  clear hc hr hcl
  go_enter Tryz.func102, Tryz.ntmps102
  go_wp2_with ((with_reducible show wpList _ _ _ (⟨some 25, _, _, _, _, _⟩ :: _) _ _); refine wpList_loadBlk rfl 23 (.tmp 6) rfl w.heap.size (by rfl) _ _ _ hK0 Tryz.underlying23 rfl (by rw [bv_size, HK.out]; exact Tryz.sizeHash) ?_)
  generalize w.alloc (.cells (key.map bv).toArray 23) = W0 at hK0 hb0 ⊢
  refine (c1 _).mono ?_
  rintro e w1 ⟨rfl, b1⟩
  have hb1 := hb0.trans (b1.mono hb0.size)
  have hK1 := hK0.below b1 hK0.lt
  clear hK0 hb0 b1
  go_wp2_with ((with_reducible show wpList _ _ _ (⟨some 29, _, _, _, _, _⟩ :: _) _ _); refine wpList_loadBlk rfl 23 (.tmp 6) rfl w.heap.size (by rfl) _ _ _ hK1 Tryz.underlying23 rfl (by rw [bv_size, HK.out]; exact Tryz.sizeHash) ?_)
  refine (c2 _).mono ?_
  rintro e w2 ⟨rfl, b2⟩
  have hb2 := hb1.trans (b2.mono hb1.size)
  clear hb1 b2 c1 c2
  go_wp2_with fail
  go_returns
  rw [hfin.out]
  exact ⟨rfl, hb2⟩
end Go.Proofs.YtjlpdbaknhbgdaaGreat
set_option linter.unusedSimpArgs false
set_option linter.unusedVariables false
namespace Go.Proofs.YtjlpdbaknhbgdaaGreat
open Go.RowKit

/-- What a seal opens to: a text and an error's number. -/
def openV (key about s : List UInt8) : List UInt8 × Int :=
  if s.length < 16 then ([], 2) else if 65552 < s.length then ([], 5) else
  if tagT2 key about (s.take (s.length - 16)) = s.drop (s.length - 16) then (crossT key (s.take (s.length - 16)), 0) else ([], 6)
theorem open_seal (key about s : List UInt8) (hl : s.length ≤ 65536) : openV key about (sealT key about s) = (s, 0) := by
  have h1 := sealT_len key about s
  have h2 : (sealT key about s).take ((sealT key about s).length - 16) = crossT key s := by
    rw [h1, Nat.add_sub_cancel, sealT, List.take_left' (crossT_len key s)]
  have h3 : (sealT key about s).drop ((sealT key about s).length - 16) = tagT2 key about (crossT key s) := by
    rw [h1, Nat.add_sub_cancel, sealT, List.drop_left' (crossT_len key s)]
  rw [openV, h2, h3, if_neg (by omega), if_neg (by omega), if_pos rfl, crossT_twice]

set_option maxHeartbeats 4000000 in
set_option maxRecDepth 100000 in
theorem OpenShort_calls (key about s : List UInt8) (w : World) (h16 : s.length < 16) :
    Calls Tryz.prog 105 #[.agg (key.map bv).toArray, .string (str about), .string (str s)] w fun e w' => e = .returned (.tuple #[.string (str []), .int .i64 2]) ∧ Below w.heap.size w w' := by
  have hb0 : Below w.heap.size w (w.alloc (.cells (key.map bv).toArray 23)) := (Below.refl _ _).alloc (Nat.le_refl _) _
  go_enter Tryz.func105, Tryz.ntmps105
  go_wp2_with fail
  go_returns
  exact ⟨rfl, hb0⟩
set_option maxHeartbeats 4000000 in
set_option maxRecDepth 100000 in
theorem OpenLong_calls (key about s : List UInt8) (w : World) (h16 : 65552 < s.length) (hm : s.length ≤ maxLen) :
    Calls Tryz.prog 105 #[.agg (key.map bv).toArray, .string (str about), .string (str s)] w fun e w' => e = .returned (.tuple #[.string (str []), .int .i64 5]) ∧ Below w.heap.size w w' := by
  unfold maxLen at hm
  have hb0 : Below w.heap.size w (w.alloc (.cells (key.map bv).toArray 23)) := (Below.refl _ _).alloc (Nat.le_refl _) _
  go_enter Tryz.func105, Tryz.ntmps105
  go_wp2_with fail
  go_returns
  exact ⟨rfl, hb0⟩
set_option maxHeartbeats 4000000 in
set_option maxRecDepth 100000 in
theorem OpenMid_calls (key about c g : List UInt8) (w : World) (hk : key.length = 32) (ha : about.length ≤ 68719476736) (hc : c.length ≤ 65536) (hg : g.length = 16) :
    Calls Tryz.prog 105 #[.agg (key.map bv).toArray, .string (str about), .string (str (c ++ g))] w fun e w' => e = .returned (if tagT2 key about c = g then .tuple #[.string (str (crossT key c)), .int .i64 0] else .tuple #[.string (str []), .int .i64 6]) ∧ Below w.heap.size w w' := by
  have HK := Lib.hid hk
  clear hk
  have hK0 : Blk (w.alloc (.cells (key.map bv).toArray 23)) w.heap.size (key.map bv).toArray 23 := Blk.new _ _ _
  have hb0 : Below w.heap.size w (w.alloc (.cells (key.map bv).toArray 23)) := (Below.refl _ _).alloc (Nat.le_refl _) _
  obtain ⟨s, hs⟩ : ∃ s, s = c ++ g := ⟨_, rfl⟩
  have hsl : s.length = c.length + 16 := by rw [hs, List.length_append, hg]
  have hst : s.take c.length = c := by rw [hs, List.take_left' rfl]
  have hsd : s.drop c.length = g := by rw [hs, List.drop_left' rfl]
  have hsi : wrap64 ((s.length : Int) - 16) = (c.length : Int) := by rw [hsl]; unfold wrap64; omega
  have hsi2 : (s.length : Int) - 16 = (c.length : Int) := by omega
  have E1 : Hid (List.take c.length s = c) := hst
  have E2 : Hid (List.take 16 (List.drop c.length s) = g) := by show _ = _; rw [hsd, List.take_of_length_le (by omega)]
  have hle : c.length ≤ s.length := by omega
  obtain ⟨x, hx⟩ : ∃ x, x = crossT key c := ⟨_, rfl⟩
  obtain ⟨r, hr⟩ : ∃ r, r = tagT2 key about c := ⟨_, rfl⟩
  have c1 : ∀ y, Calls Tryz.prog 169 #[.agg (key.map bv).toArray, .string (str about), .string (str c)] y fun e w' => e = .returned (.string (str r)) ∧ Below y.heap.size y w' := by rw [hr]; exact fun y => tag_calls key about c y HK.out ha (by omega)
  have c2 : ∀ y, Calls Tryz.prog 168 #[.agg (key.map bv).toArray, .string (str c)] y fun e w' => e = .returned (.string (str x)) ∧ Below y.heap.size y w' := by rw [hx]; exact fun y => Cross_calls key c y HK.out hc
  rw [← hr, ← hx, ← hs]
  clear hr hx hs hst hsd hg
  generalize hn : c.length = n at *
  have hs18 : decide ((65536 : Int) < (n : Int)) = false := by simp; omega
  by_cases hEq : r = g
  · rw [if_pos hEq]
    have HQ := Lib.hid hEq
    clear hEq
    go_enter Tryz.func105, Tryz.ntmps105
    go_wp2_with fail
    generalize w.alloc (.cells (key.map bv).toArray 23) = W0 at hK0 hb0 ⊢
    refine wp_region_held_drew (S := fun x => Blk x (w.heap.size) (key.map bv).toArray 23 ∧ Below w.heap.size w x) (by kernel_rfl) ⟨hK0.drew, below_drewN hb0 1⟩ (fun hSq1 => ?_)
    refine wpAnyH_take (i := 0) rfl (by kernel_rfl) (by kernel_rfl) (by kernel_rfl) (fun _ _ _ h => h) (yieldsIf_load_mid (by rfl) 23 (.tmp 3) rfl (w.heap.size) 0 (by rfl) (key.map bv) _ (fun x hx => blk_range hx.1) Tryz.underlying23 rfl (by rw [List.length_map, HK.out]; exact Tryz.sizeHash)) hSq1 ?_
    simp only [Act.put, List.getElem_toArray, List.getElem_cons_zero, List.getElem_cons_succ, List.setIfInBounds_toArray, List.set_cons_zero, List.set_cons_succ]
    refine wpAnyH_take (i := 1) (v := .string (str about)) rfl (by kernel_rfl) (by kernel_rfl) (by kernel_rfl) (fun _ _ _ h => h) (Or.inl ⟨by rfl, fun x hx => by go_simp⟩) hSq1 ?_
    simp only [Act.put, List.getElem_toArray, List.getElem_cons_zero, List.getElem_cons_succ, List.setIfInBounds_toArray, List.set_cons_zero, List.set_cons_succ]
    refine wpAnyH_take (i := 2) (v := .string (str s)) rfl (by kernel_rfl) (by kernel_rfl) (by kernel_rfl) (fun _ _ _ h => h) (Or.inl ⟨by rfl, fun x hx => by go_simp⟩) hSq1 ?_
    simp only [Act.put, List.getElem_toArray, List.getElem_cons_zero, List.getElem_cons_succ, List.setIfInBounds_toArray, List.set_cons_zero, List.set_cons_succ]
    refine wpAnyH_take (i := 3) (v := .int .i64 n) rfl (by kernel_rfl) (by kernel_rfl) (by kernel_rfl) (fun _ _ _ h => h) (Or.inl ⟨by rfl, fun x hx => by go_simp⟩) hSq1 ?_
    simp only [Act.put, List.getElem_toArray, List.getElem_cons_zero, List.getElem_cons_succ, List.setIfInBounds_toArray, List.set_cons_zero, List.set_cons_succ]
    refine wpAnyH_take (i := 4) (v := .string (str c)) rfl (by kernel_rfl) (by kernel_rfl) (by kernel_rfl) (fun _ _ _ h => h) (Or.inl ⟨by rfl, fun x hx => by have e1 := E1.out; go_simp; try (intro h; exfalso; omega)⟩) hSq1 ?_
    simp only [Act.put, List.getElem_toArray, List.getElem_cons_zero, List.getElem_cons_succ, List.setIfInBounds_toArray, List.set_cons_zero, List.set_cons_succ]
    refine wpAnyH_take (i := 6) (v := .string (str s)) rfl (by kernel_rfl) (by kernel_rfl) (by kernel_rfl) (fun _ _ _ h => h) (Or.inl ⟨by rfl, fun x hx => by go_simp⟩) hSq1 ?_
    simp only [Act.put, List.getElem_toArray, List.getElem_cons_zero, List.getElem_cons_succ, List.setIfInBounds_toArray, List.set_cons_zero, List.set_cons_succ]
    refine wpAnyH_take (i := 7) (v := .int .i64 n) rfl (by kernel_rfl) (by kernel_rfl) (by kernel_rfl) (fun _ _ _ h => h) (Or.inl ⟨by rfl, fun x hx => by go_simp⟩) hSq1 ?_
    simp only [Act.put, List.getElem_toArray, List.getElem_cons_zero, List.getElem_cons_succ, List.setIfInBounds_toArray, List.set_cons_zero, List.set_cons_succ]
    refine wpAnyH_take (i := 8) (v := .string (str g)) rfl (by kernel_rfl) (by kernel_rfl) (by kernel_rfl) (fun _ _ _ h => h) (Or.inl ⟨by rfl, fun x hx => by have e2 := E2.out; go_simp; try (intro h; exfalso; omega)⟩) hSq1 ?_
    simp only [Act.put, List.getElem_toArray, List.getElem_cons_zero, List.getElem_cons_succ, List.setIfInBounds_toArray, List.set_cons_zero, List.set_cons_succ]
    refine wpAnyH_ready (rs := [5]) (by kernel_rfl) (by simp) ?_
    refine AllReadyH.cons rfl (fun K hK => ?_) AllReadyH.nil
    go_simp
    go_wp2_with (go_at_call 169; refine (c1 _).mono ?_; rintro e yq2 ⟨rfl, bq3⟩)
    refine hK.out _ _ ⟨hSq1.1.below bq3 hSq1.1.lt, hSq1.2.trans (bq3.mono hSq1.2.size)⟩ (fun hSq4 => ?_)
    clear hK K hSq1 bq3
    refine wpAnyH_take (i := 9) (v := .bool false) rfl (by kernel_rfl) (by kernel_rfl) (by kernel_rfl) (fun _ _ _ h => h) (Or.inl ⟨by rfl, fun x hx => by go_simp; exact HQ.out⟩) hSq4 ?_
    simp only [Act.put, List.getElem_toArray, List.getElem_cons_zero, List.getElem_cons_succ, List.setIfInBounds_toArray, List.set_cons_zero, List.set_cons_succ]
    refine wpAnyH_ready (rs := [10]) (by kernel_rfl) (by simp) ?_
    refine AllReadyH.cons rfl (fun K hK => ?_) AllReadyH.nil
    go_simp
    refine hK.out _ _ hSq4 (fun hSq5 => ?_)
    clear hK K hSq4
    refine wpAnyH_done (by kernel_rfl) ?_ _
    have hK5 := hSq5.1
    have hb5 := hSq5.2
    clear hSq5
    go_wp2_with fail
    refine wp_region_held_drew (S := fun x => Blk x (w.heap.size) (key.map bv).toArray 23 ∧ Below w.heap.size w x) (by kernel_rfl) ⟨hK5.drew, below_drewN hb5 1⟩ (fun hSq6 => ?_)
    refine wpAnyH_take (i := 0) rfl (by kernel_rfl) (by kernel_rfl) (by kernel_rfl) (fun _ _ _ h => h) (yieldsIf_load_mid (by rfl) 23 (.tmp 3) rfl (w.heap.size) 0 (by rfl) (key.map bv) _ (fun x hx => blk_range hx.1) Tryz.underlying23 rfl (by rw [List.length_map, HK.out]; exact Tryz.sizeHash)) hSq6 ?_
    simp only [Act.put, List.getElem_toArray, List.getElem_cons_zero, List.getElem_cons_succ, List.setIfInBounds_toArray, List.set_cons_zero, List.set_cons_succ]
    refine wpAnyH_take (i := 1) (v := .string (str s)) rfl (by kernel_rfl) (by kernel_rfl) (by kernel_rfl) (fun _ _ _ h => h) (Or.inl ⟨by rfl, fun x hx => by go_simp⟩) hSq6 ?_
    simp only [Act.put, List.getElem_toArray, List.getElem_cons_zero, List.getElem_cons_succ, List.setIfInBounds_toArray, List.set_cons_zero, List.set_cons_succ]
    refine wpAnyH_take (i := 2) (v := .int .i64 n) rfl (by kernel_rfl) (by kernel_rfl) (by kernel_rfl) (fun _ _ _ h => h) (Or.inl ⟨by rfl, fun x hx => by go_simp⟩) hSq6 ?_
    simp only [Act.put, List.getElem_toArray, List.getElem_cons_zero, List.getElem_cons_succ, List.setIfInBounds_toArray, List.set_cons_zero, List.set_cons_succ]
    refine wpAnyH_take (i := 3) (v := .string (str c)) rfl (by kernel_rfl) (by kernel_rfl) (by kernel_rfl) (fun _ _ _ h => h) (Or.inl ⟨by rfl, fun x hx => by have e1 := E1.out; go_simp; try (intro h; exfalso; omega)⟩) hSq6 ?_
    simp only [Act.put, List.getElem_toArray, List.getElem_cons_zero, List.getElem_cons_succ, List.setIfInBounds_toArray, List.set_cons_zero, List.set_cons_succ]
    refine wpAnyH_ready (rs := [4]) (by kernel_rfl) (by simp) ?_
    refine AllReadyH.cons rfl (fun K hK => ?_) AllReadyH.nil
    go_simp
    go_wp2_with (go_at_call 168; refine (c2 _).mono ?_; rintro e yq7 ⟨rfl, bq8⟩)
    refine hK.out _ _ ⟨hSq6.1.below bq8 hSq6.1.lt, hSq6.2.trans (bq8.mono hSq6.2.size)⟩ (fun hSq9 => ?_)
    clear hK K hSq6 bq8
    refine wpAnyH_ready (rs := [5]) (by kernel_rfl) (by simp) ?_
    refine AllReadyH.cons rfl (fun K hK => ?_) AllReadyH.nil
    go_simp
    refine hK.out _ _ hSq9 (fun hSq10 => ?_)
    clear hK K hSq9
    refine wpAnyH_ready (rs := [6]) (by kernel_rfl) (by simp) ?_
    refine AllReadyH.cons rfl (fun K hK => ?_) AllReadyH.nil
    go_simp
    refine hK.out _ _ hSq10 (fun hSq11 => ?_)
    clear hK K hSq10
    refine wpAnyH_done (by kernel_rfl) ?_ _
    go_wp2_with fail
    go_returns
    exact ⟨rfl, hSq11.2⟩
  · rw [if_neg hEq]
    have HQ := Lib.hid hEq
    clear hEq
    go_enter Tryz.func105, Tryz.ntmps105
    go_wp2_with fail
    generalize w.alloc (.cells (key.map bv).toArray 23) = W0 at hK0 hb0 ⊢
    refine wp_region_held_drew (S := fun x => Blk x (w.heap.size) (key.map bv).toArray 23 ∧ Below w.heap.size w x) (by kernel_rfl) ⟨hK0.drew, below_drewN hb0 1⟩ (fun hSq12 => ?_)
    refine wpAnyH_take (i := 0) rfl (by kernel_rfl) (by kernel_rfl) (by kernel_rfl) (fun _ _ _ h => h) (yieldsIf_load_mid (by rfl) 23 (.tmp 3) rfl (w.heap.size) 0 (by rfl) (key.map bv) _ (fun x hx => blk_range hx.1) Tryz.underlying23 rfl (by rw [List.length_map, HK.out]; exact Tryz.sizeHash)) hSq12 ?_
    simp only [Act.put, List.getElem_toArray, List.getElem_cons_zero, List.getElem_cons_succ, List.setIfInBounds_toArray, List.set_cons_zero, List.set_cons_succ]
    refine wpAnyH_take (i := 1) (v := .string (str about)) rfl (by kernel_rfl) (by kernel_rfl) (by kernel_rfl) (fun _ _ _ h => h) (Or.inl ⟨by rfl, fun x hx => by go_simp⟩) hSq12 ?_
    simp only [Act.put, List.getElem_toArray, List.getElem_cons_zero, List.getElem_cons_succ, List.setIfInBounds_toArray, List.set_cons_zero, List.set_cons_succ]
    refine wpAnyH_take (i := 2) (v := .string (str s)) rfl (by kernel_rfl) (by kernel_rfl) (by kernel_rfl) (fun _ _ _ h => h) (Or.inl ⟨by rfl, fun x hx => by go_simp⟩) hSq12 ?_
    simp only [Act.put, List.getElem_toArray, List.getElem_cons_zero, List.getElem_cons_succ, List.setIfInBounds_toArray, List.set_cons_zero, List.set_cons_succ]
    refine wpAnyH_take (i := 3) (v := .int .i64 n) rfl (by kernel_rfl) (by kernel_rfl) (by kernel_rfl) (fun _ _ _ h => h) (Or.inl ⟨by rfl, fun x hx => by go_simp⟩) hSq12 ?_
    simp only [Act.put, List.getElem_toArray, List.getElem_cons_zero, List.getElem_cons_succ, List.setIfInBounds_toArray, List.set_cons_zero, List.set_cons_succ]
    refine wpAnyH_take (i := 4) (v := .string (str c)) rfl (by kernel_rfl) (by kernel_rfl) (by kernel_rfl) (fun _ _ _ h => h) (Or.inl ⟨by rfl, fun x hx => by have e1 := E1.out; go_simp; try (intro h; exfalso; omega)⟩) hSq12 ?_
    simp only [Act.put, List.getElem_toArray, List.getElem_cons_zero, List.getElem_cons_succ, List.setIfInBounds_toArray, List.set_cons_zero, List.set_cons_succ]
    refine wpAnyH_take (i := 6) (v := .string (str s)) rfl (by kernel_rfl) (by kernel_rfl) (by kernel_rfl) (fun _ _ _ h => h) (Or.inl ⟨by rfl, fun x hx => by go_simp⟩) hSq12 ?_
    simp only [Act.put, List.getElem_toArray, List.getElem_cons_zero, List.getElem_cons_succ, List.setIfInBounds_toArray, List.set_cons_zero, List.set_cons_succ]
    refine wpAnyH_take (i := 7) (v := .int .i64 n) rfl (by kernel_rfl) (by kernel_rfl) (by kernel_rfl) (fun _ _ _ h => h) (Or.inl ⟨by rfl, fun x hx => by go_simp⟩) hSq12 ?_
    simp only [Act.put, List.getElem_toArray, List.getElem_cons_zero, List.getElem_cons_succ, List.setIfInBounds_toArray, List.set_cons_zero, List.set_cons_succ]
    refine wpAnyH_take (i := 8) (v := .string (str g)) rfl (by kernel_rfl) (by kernel_rfl) (by kernel_rfl) (fun _ _ _ h => h) (Or.inl ⟨by rfl, fun x hx => by have e2 := E2.out; go_simp; try (intro h; exfalso; omega)⟩) hSq12 ?_
    simp only [Act.put, List.getElem_toArray, List.getElem_cons_zero, List.getElem_cons_succ, List.setIfInBounds_toArray, List.set_cons_zero, List.set_cons_succ]
    refine wpAnyH_ready (rs := [5]) (by kernel_rfl) (by simp) ?_
    refine AllReadyH.cons rfl (fun K hK => ?_) AllReadyH.nil
    go_simp
    go_wp2_with (go_at_call 169; refine (c1 _).mono ?_; rintro e yq13 ⟨rfl, bq14⟩)
    refine hK.out _ _ ⟨hSq12.1.below bq14 hSq12.1.lt, hSq12.2.trans (bq14.mono hSq12.2.size)⟩ (fun hSq15 => ?_)
    clear hK K hSq12 bq14
    refine wpAnyH_take (i := 9) (v := .bool true) rfl (by kernel_rfl) (by kernel_rfl) (by kernel_rfl) (fun _ _ _ h => h) (Or.inl ⟨by rfl, fun x hx => by go_simp; exact HQ.out⟩) hSq15 ?_
    simp only [Act.put, List.getElem_toArray, List.getElem_cons_zero, List.getElem_cons_succ, List.setIfInBounds_toArray, List.set_cons_zero, List.set_cons_succ]
    refine wpAnyH_ready (rs := [10]) (by kernel_rfl) (by simp) ?_
    refine AllReadyH.cons rfl (fun K hK => ?_) AllReadyH.nil
    go_simp
    refine hK.out _ _ hSq15 (fun hSq16 => ?_)
    clear hK K hSq15
    refine wpAnyH_done (by kernel_rfl) ?_ _
    go_wp2_with fail
    go_returns
    exact ⟨rfl, hSq16.2⟩
theorem Open_calls (key about s : List UInt8) (w : World) (hk : key.length = 32) (ha : about.length ≤ 68719476736) (hm : s.length ≤ maxLen) :
    Calls Tryz.prog 105 #[.agg (key.map bv).toArray, .string (str about), .string (str s)] w fun e w' => e = .returned (.tuple #[.string (str (openV key about s).1), .int .i64 (openV key about s).2]) ∧ Below w.heap.size w w' := by
  by_cases h1 : s.length < 16
  · rw [show openV key about s = ([], 2) by rw [openV, if_pos h1]]
    exact OpenShort_calls key about s w h1
  by_cases h2 : 65552 < s.length
  · rw [show openV key about s = ([], 5) by rw [openV, if_neg h1, if_pos h2]]
    exact OpenLong_calls key about s w h2 hm
  have h3 := OpenMid_calls key about (s.take (s.length - 16)) (s.drop (s.length - 16)) w hk ha (by rw [List.length_take]; omega) (by rw [List.length_drop]; omega)
  rw [List.take_append_drop] at h3
  rw [openV, if_neg h1, if_neg h2]
  refine h3.mono ?_
  rintro e w' ⟨rfl, b⟩
  refine ⟨?_, b⟩
  split <;> rfl

end Go.Proofs.YtjlpdbaknhbgdaaGreat
