/-
  PprPlays: every call, in every order, answers what the document says, and leaves the seeds that it says.
-/
import Derived.Test.YtnfegmcdljejnaaPprPlaysFacts
import Derived.Test.YtnfegmcdljejnaaPprAwake
import Derived.Test.YtnfegmcdljejnaaPprSame
import Derived.Test.YtnfegmcdljejnaaRd
set_option linter.unusedSimpArgs false
set_option linter.unusedVariables false
namespace Go.Proofs.Ytnfegmcdljejnaa
open Go.RowKit

set_option maxHeartbeats 40000000 in
set_option maxRecDepth 100000 in
theorem walkPprPlays {H : Type} {enc : TypeId × Value → H} {w : World} {base : Nat} {spare : Nat → Bool} {held : Bool} {R : Reach} {b0 : Nat} {d : DataW H} {pl : List MemPlace} (a : List UInt8) (ha : a.length = 32) (b : Int) (hwb : (Lit.int .i64 b).wf = true) (v : Value)
    (hv : Value.okWide Try.prog w R b0 101 v) (hd : DataW.Trod enc Try.prog w base spare held 101 v d pl) :
    Calls Try.prog 18 #[.agg (a.map bv).toArray, .int .i64 b, v] w fun e w' => e = .returned (.bool true) ∧ Below w.heap.size w w' := by
  obtain ⟨ao, len, cap, xs, rfl, hm, hE, hxs⟩ := open_elems (cells := CallA.cells) (size := 2) (ok := fun c => -9223372036854775808 ≤ c.p ∧ c.p ≤ 9223372036854775807) Try.underlying101 Try.cellsCall (fun _ => ⟨by simp [CallA.cells], by simp [CallA.cells]⟩) (fun l m y hl => trod_call hl) hv hd
  clear hv hd hwb
  unfold maxLen at hm
  have HA := Lib.hid ha
  have hA0 : Blk (w.alloc (.cells (a.map bv).toArray 23)) w.heap.size (a.map bv).toArray 23 := Blk.new _ _ _
  have hb0 : Below w.heap.size w (w.alloc (.cells (a.map bv).toArray 23)) := below_alloc1 _ _
  have HE := Lib.hid hE
  have HE0 := Lib.hid (hE.below hb0)
  have HXS := Lib.hid hxs
  clear hE hxs
  by_cases h24 : 24 < len
  · clear ha
    go_enter Try.func18, Try.ntmps18
    go_wp2_with fail
    generalize w.alloc (.cells (a.map bv).toArray 23) = W0 at hA0 hb0 HE0 ⊢
    have ltq3 : w.heap.size < W0.heap.size := hA0.lt
    refine (awake6_calls _).mono ?_
    rintro e wq1 ⟨rfl, bq2⟩
    have hCq4 := hA0.below bq2 hA0.lt
    have hCq5 := Lib.hid (HE0.out.below bq2)
    have hBq6 := hb0.trans (bq2.mono hb0.size)
    clear hA0 HE0 hb0
    clear bq2
    go_wp2_with fail
    have ltq9 : w.heap.size < wq1.heap.size := hCq4.lt
    refine (awake6_calls _).mono ?_
    rintro e wq7 ⟨rfl, bq8⟩
    have hCq10 := hCq4.below bq8 hCq4.lt
    have hCq11 := Lib.hid (hCq5.out.below bq8)
    have hBq12 := hBq6.trans (bq8.mono hBq6.size)
    clear hCq4 hCq5 hBq6
    clear bq8
    go_wp2_with fail
    go_returns
    exact ⟨rfl, hBq12⟩
  by_cases hb : b < 1
  · clear ha
    go_enter Try.func18, Try.ntmps18
    go_wp2_with fail
    generalize w.alloc (.cells (a.map bv).toArray 23) = W0 at hA0 hb0 HE0 ⊢
    have ltq15 : w.heap.size < W0.heap.size := hA0.lt
    refine (awake6_calls _).mono ?_
    rintro e wq13 ⟨rfl, bq14⟩
    have hCq16 := hA0.below bq14 hA0.lt
    have hCq17 := Lib.hid (HE0.out.below bq14)
    have hBq18 := hb0.trans (bq14.mono hb0.size)
    clear hA0 HE0 hb0
    clear bq14
    go_wp2_with ((with_reducible show wpList _ _ _ (⟨some 27, _, _, _, _, _⟩ :: _) _ _); refine wpList_load_mid rfl 23 (.tmp 3) rfl (w.heap.size) 0 (by rfl) (a.map bv) _ (blk_rangeP hCq16) Try.underlying23 rfl (by rw [List.length_map, HA.out]; exact Try.sizeHash) ?_)
    have ltq21 : w.heap.size < wq13.heap.size := hCq16.lt
    refine (New6Bad_calls a b _ (by omega)).mono ?_
    rintro e wq19 ⟨rfl, bq20⟩
    have hCq22 := hCq16.below bq20 hCq16.lt
    have hCq23 := Lib.hid (hCq17.out.below bq20)
    have hBq24 := hBq18.trans (bq20.mono hBq18.size)
    clear hCq16 hCq17 hBq18
    clear bq20
    go_wp2_with fail
    go_returns
    exact ⟨rfl, hBq24⟩
  by_cases h3 : 32 < b
  · clear ha
    go_enter Try.func18, Try.ntmps18
    go_wp2_with fail
    generalize w.alloc (.cells (a.map bv).toArray 23) = W0 at hA0 hb0 HE0 ⊢
    have ltq27 : w.heap.size < W0.heap.size := hA0.lt
    refine (awake6_calls _).mono ?_
    rintro e wq25 ⟨rfl, bq26⟩
    have hCq28 := hA0.below bq26 hA0.lt
    have hCq29 := Lib.hid (HE0.out.below bq26)
    have hBq30 := hb0.trans (bq26.mono hb0.size)
    clear hA0 HE0 hb0
    clear bq26
    go_wp2_with ((with_reducible show wpList _ _ _ (⟨some 27, _, _, _, _, _⟩ :: _) _ _); refine wpList_load_mid rfl 23 (.tmp 3) rfl (w.heap.size) 0 (by rfl) (a.map bv) _ (blk_rangeP hCq28) Try.underlying23 rfl (by rw [List.length_map, HA.out]; exact Try.sizeHash) ?_)
    have ltq33 : w.heap.size < wq25.heap.size := hCq28.lt
    refine (New6Bad_calls a b _ (by omega)).mono ?_
    rintro e wq31 ⟨rfl, bq32⟩
    have hCq34 := hCq28.below bq32 hCq28.lt
    have hCq35 := Lib.hid (hCq29.out.below bq32)
    have hBq36 := hBq30.trans (bq32.mono hBq30.size)
    clear hCq28 hCq29 hBq30
    clear bq32
    go_wp2_with fail
    go_returns
    exact ⟨rfl, hBq36⟩
  obtain ⟨B, rfl⟩ : ∃ B : Nat, b = B := ⟨b.toNat, by omega⟩
  have hB1 : 1 ≤ B := by omega
  have hB2 : B ≤ 32 := by omega
  clear hb h3
  have hrn := row_new a B ha
  have hbu := Try.builtR6 B a ha
  have HBU := Lib.hid hbu
  obtain ⟨row, hrow⟩ : ∃ f : List Nat → List Sd, f = rowT a B := ⟨_, rfl⟩
  have hl0 : (row []).length = 1 := by rw [hrow, hrn]; rfl
  have c5 : ∀ y, Calls Try.prog 35 #[.agg (a.map bv).toArray, .int .i64 B] y fun e w' => ∃ r, e = .returned (.tuple #[.pointer (some ⟨r, 0, none⟩), .int .i64 0]) ∧ y.heap.size ≤ r ∧ RowAt w' r B (row []) ∧ Below y.heap.size y w' := fun y => by
    rw [hrow, hrn]; exact New6_calls a B y ha hB1 hB2
  have c6 : ∀ v tk r y, (∀ z ∈ tk, z < 4294967296) → tk.length ≤ 1000 → IntsAt y v tk → (row tk).length ≤ 1000000 → RowAt y r B (row tk) → Calls Try.prog 77 #[.pointer (some ⟨r, 0, none⟩), .agg (rcells a B v).toArray] y fun e w' => e = .returned (.bool true) ∧ Below y.heap.size y w' := fun v tk r y h1 h2 h3 h4 h5 => by
    rw [hrow] at h4 h5
    exact same_calls a B v tk r ha hB2 (by omega) h1 y h3 h4 h5
  have hlen : ∀ tk p, p < 2 ^ B → (row (tk ++ [p])).length ≤ (row tk).length + 64 := fun tk p hp => by
    have := row_len a B p tk hp
    rw [hrow]; omega
  have hpow : (2 ^ B : Nat) ≤ 4294967296 := Nat.pow_le_pow_right (n := 2) (by omega) hB2
  have HROW := Lib.hid hrow
  have HLEN := Lib.hid hlen
  have HPOW := Lib.hid hpow
  clear hrn hbu hlen ha hpow hrow
  go_enter Try.func18, Try.ntmps18
  go_wp2_with fail
  generalize w.alloc (.cells (a.map bv).toArray 23) = W0 at hA0 hb0 HE0 ⊢
  have ltq39 : w.heap.size < W0.heap.size := hA0.lt
  refine (awake6_calls _).mono ?_
  rintro e wq37 ⟨rfl, bq38⟩
  have hCq40 := hA0.below bq38 hA0.lt
  have hCq41 := Lib.hid (HE0.out.below bq38)
  have hBq42 := hb0.trans (bq38.mono hb0.size)
  clear hA0 HE0 hb0
  clear bq38
  go_wp2_with ((with_reducible show wpList _ _ _ (⟨some 27, _, _, _, _, _⟩ :: _) _ _); refine wpList_load_mid rfl 23 (.tmp 3) rfl (w.heap.size) 0 (by rfl) (a.map bv) _ (blk_rangeP hCq40) Try.underlying23 rfl (by rw [List.length_map, HA.out]; exact Try.sizeHash) ?_)
  have ltq45 : w.heap.size < wq37.heap.size := hCq40.lt
  refine (c5 _).mono ?_
  rintro e wq43 ⟨r, rfl, hr, hR1, bq44⟩
  have hCq46 := hCq40.below bq44 hCq40.lt
  have hCq47 := Lib.hid (hCq41.out.below bq44)
  have hBq48 := hBq42.trans (bq44.mono hBq42.size)
  clear hCq40 hCq41 hBq42
  clear bq44
  have hHq49 := Lib.hid hR1
  clear hR1
  go_wp2_with (first | ((with_reducible show wpList _ _ _ (⟨some 44, _, _, _, _, _⟩ :: _) _ _); refine wpList_load_mid rfl 23 (.tmp 3) rfl (w.heap.size) 0 (by rfl) (a.map bv) _ (blk_rangeP hCq46) Try.underlying23 rfl (by rw [List.length_map, HA.out]; exact Try.sizeHash) ?_) | ((with_reducible show wpList _ _ _ (⟨some 46, _, _, _, _, _⟩ :: _) _ _); refine wpList_buildCells rfl 54 #[(0, .tmp 44), (1, .tmp 45)] rfl ((rcells a B (.slice none 0 0)).toArray) HBU.out ?_) | ((with_reducible show wpList _ _ _ (⟨some 9, _, _, _, _, _⟩ :: _) _ _); refine wpList_allocZ rfl 54 rfl _ Try.zeroR6 ?_; intro wq50 hsq51 baq52 hNq53) | ((with_reducible show wpList _ _ _ (⟨none, Op.store _ (.tmp 9) _, _, _, _, _⟩ :: _) _ _); refine wpList_storeBlk rfl 54 (.tmp 9) (.tmp 46) rfl (wq43.heap.size) ((rcells a B (.slice none 0 0)).toArray) (by rfl) (by rfl) _ _ hNq53 (by rw [List.size_toArray, rcells_len _ _ _ HA.out]; exact Try.sizeR6) (by simp [rcells, HA.out]) (rcells_all _ _ _ _ _) ?_; intro wq54 hKq55 gq56; have bbq57 := below_new baq52 gq56 (Nat.le_refl _) baq52.size; have ltq58 : w.heap.size < wq43.heap.size := hCq46.lt; have ltq59 : r < wq43.heap.size := hHq49.out.lt; have hCq60 := hCq46.below bbq57 hCq46.lt; have hCq61 := Lib.hid (hCq47.out.below bbq57); have hCq62 := Lib.hid (hHq49.out.below bbq57); have hBq63 := hBq48.trans (bbq57.mono hBq48.size); clear hCq46 hCq47 hHq49 hBq48; clear bbq57 baq52 hNq53 gq56 hsq51))
  have ltq64 : w.heap.size < wq54.heap.size := hCq60.lt
  have ltq65 : r < wq54.heap.size := hCq62.out.lt
  have ltq66 : wq43.heap.size < wq54.heap.size := hKq55.lt
  have HRR := Lib.hid (hCq62.out.apart (.slice none 0 0) rfl)
  have HMM := Lib.hid hKq55
  have HEE := hCq61
  have HBB := Lib.hid hBq63
  clear hCq62 hKq55 hCq61 hBq63 hCq60 c5 HBU
  obtain ⟨M, hM⟩ : ∃ n, n = wq43.heap.size := ⟨_, rfl⟩
  rw [← hM] at HMM ⊢
  have hMr : r < M := by omega
  have hrw : w.heap.size ≤ r := by omega
  clear hM
  go_loopw [10] (fun j wr => ∃ (i : Nat) (tk : List Nat) (tv : Value), i ≤ len ∧ j = .int .i64 i ∧ Hid (RowS wr r B (row tk) tv) ∧ Hid (Blk wr M (rcells a B tv).toArray 54) ∧ Hid (wr.ownsRow w.heap.size 3 1 tv tk.length (ints tk)) ∧ Hid (Calls6 wr ao len xs) ∧ Hid (Below w.heap.size w wr) ∧ Hid (∀ y ∈ tk, y < 4294967296) ∧ Hid ((row tk).length ≤ 1 + 64 * i) ∧ Hid (tk.length ≤ i)) (fun j _ => len - (intOf j).toNat)
  case atStart => exact ⟨0, [], _, by omega, rfl, HRR, HMM, Lib.hid (World.ownsRow_nil _ _ _ _), HEE, HBB, Lib.hid (by simp), Lib.hid (by omega), Lib.hid (by simp)⟩
  case round =>
    obtain ⟨i, tk, tv, hi, rfl, hR, hM, hO, hE2, hB3, hTK, hL, hN⟩ := hrel
    clear HRR HMM HEE HBB
    by_cases hlt : i < len
    · obtain ⟨bb, off, ca, rfl, hx, hrg⟩ := hE2.out.at i hlt
      obtain ⟨hx1, hx2⟩ := HXS.out ca (List.mem_of_getElem? hx)
      obtain ⟨dd, x⟩ := ca
      have hx1 : -9223372036854775808 ≤ x := hx1
      have hx2 : x ≤ 9223372036854775807 := hx2
      have HX := Lib.hid hx
      have E0 : ∀ y, Calls6 y (some ⟨bb, off, none⟩) len xs → y.cell? ⟨bb, off + i * 2, none⟩ = some (.int .u8 (dd.toNat : Int)) ∧ y.cell? ⟨bb, off + i * 2 + 1, none⟩ = some (.int .i64 x) := fun y hy => by
        have h1 := (hy.at' i ⟨dd, x⟩ HX.out) 0 _ rfl
        have h2 := (hy.at' i ⟨dd, x⟩ HX.out) 1 _ rfl
        exact ⟨h1, h2⟩
      have EE := Lib.hid E0
      obtain ⟨hce1, hce2⟩ := E0 _ hE2.out
      have hd : dd.toNat < 256 := dd.toNat_lt
      obtain ⟨dm, hdm⟩ : ∃ m : Int, (dd.toNat : Int) % 3 = m := ⟨_, rfl⟩
      have hll := hL.out
      have hlk : (row tk).length ≤ 1000000 := by omega
      have hOl := hB3.out.size
      obtain ⟨tao, tc, rfl⟩ := own_slice hO.out
      clear hx hrg E0 hll
      have HZ : Hid (zh32.length = 32) := Lib.hid rfl
      have hqz : ∀ x, (Op.equalIn 10000 23 (.agg (zh32.map bv).toArray) (.agg (zh32.map bv).toArray)).run Try.prog x = .ok true x := fun x => by rw [run_eq_hash x _ _ rfl rfl, beq_self_eq_true]
      by_cases hw : withinT B x = true
      · by_cases ht : x.toNat ∈ tk
        · obtain ⟨cW, cR, cL, cT, cG⟩ := plays_gone a B tk x row HROW.out HA.out hB2 hx1 hx2 hlk hw ht
          clear hw ht
          by_cases hd0 : dm = 0
          · subst hd0
            have hM1 := hM.out
            have hB4 := hB3.out
            clear hM hB3
            go_wp2_with (first | ((with_reducible show wpList _ _ _ (⟨some 58, _, _, _, _, _⟩ :: _) _ _); refine wpList_buildCells rfl 23 #[] rfl ((zh32.map bv).toArray) (by kernel_rfl) ?_) | ((with_reducible show wpList _ _ _ (⟨some 13, _, _, _, _, _⟩ :: _) _ _); refine wpList_allocZ rfl 23 rfl _ Try.zeroHash ?_; intro wq67 hsq68 baq69 hNq70) | ((with_reducible show wpList _ _ _ (⟨none, Op.store _ (.tmp 13) _, _, _, _, _⟩ :: _) _ _); refine wpList_storeBlk rfl 23 (.tmp 13) (.tmp 58) rfl (wr.heap.size) ((zh32.map bv).toArray) (by rfl) (by rfl) _ _ hNq70 (by rw [bv_size, HZ.out]; exact Try.sizeHash) (by rw [bv_size, HZ.out, Z32_size]) (bv_all _) ?_; intro wq71 hKq72 gq73; have bbq74 := below_new baq69 gq73 (Nat.le_refl _) baq69.size; have ltq75 : r < wr.heap.size := hR.out.lt; have ltq76 : M < wr.heap.size := hM1.lt; have hOq81 := Lib.hid (own_below hO.out bbq74); have hCq77 := Lib.hid (hR.out.below bbq74); have hCq78 := hM1.below bbq74 hM1.lt; have hCq79 := Lib.hid (hE2.out.below bbq74); have hBq80 := hB4.trans (bbq74.mono hB4.size); clear hR hM1 hE2 hB4; clear hO; clear bbq74 baq69 hNq70 gq73 hsq68) | ((with_reducible show wpList _ _ _ (⟨some 59, _, _, _, _, _⟩ :: _) _ _); refine wpList_load_mid rfl 54 (.tmp 9) rfl (M) 0 (by rfl) (rcells a B (.slice tao tk.length tc)) _ (blk_rangeP hCq78) Try.underlying54 rfl (by rw [rcells_len _ _ _ HA.out]; exact Try.sizeR6) ?_))
            clear hce1 hce2
            have ltq84 : r < wq71.heap.size := hCq77.out.lt
            have ltq85 : M < wq71.heap.size := hCq78.lt
            have ltq86 : wr.heap.size < wq71.heap.size := hKq72.lt
            refine (cW _ _).mono ?_
            rintro e wq82 ⟨rfl, bq83⟩
            have hOq92 := Lib.hid (own_below hOq81.out bq83)
            have hCq87 := Lib.hid (hCq77.out.below bq83)
            have hCq88 := hCq78.below bq83 hCq78.lt
            have hCq89 := Lib.hid (hCq79.out.below bq83)
            have hCq90 := hKq72.below bq83 hKq72.lt
            have hBq91 := hBq80.trans (bq83.mono hBq80.size)
            clear hCq77 hCq78 hCq79 hKq72 hBq80
            clear hOq81
            clear bq83
            go_wp2_with ((with_reducible show wpList _ _ _ (⟨some 63, _, _, _, _, _⟩ :: _) _ _); refine wpList_load_mid rfl 54 (.tmp 9) rfl (M) 0 (by rfl) (rcells a B (.slice tao tk.length tc)) _ (blk_rangeP hCq88) Try.underlying54 rfl (by rw [rcells_len _ _ _ HA.out]; exact Try.sizeR6) ?_)
            have ltq95 : r < wq82.heap.size := hCq87.out.lt
            have ltq96 : M < wq82.heap.size := hCq88.lt
            have ltq97 : wr.heap.size < wq82.heap.size := hCq90.lt
            refine (cR _ _ (IntsAt.own hOq92.out) (by have := hN.out; omega)).mono ?_
            rintro e wq93 ⟨rfl, bq94⟩
            have hOq103 := Lib.hid (own_below hOq92.out bq94)
            have hCq98 := Lib.hid (hCq87.out.below bq94)
            have hCq99 := hCq88.below bq94 hCq88.lt
            have hCq100 := Lib.hid (hCq89.out.below bq94)
            have hCq101 := hCq90.below bq94 hCq90.lt
            have hBq102 := hBq91.trans (bq94.mono hBq91.size)
            clear hCq87 hCq88 hCq89 hCq90 hBq91
            clear hOq92
            clear bq94
            obtain ⟨hce1, hce2⟩ := EE.out _ hCq100.out
            go_wp2_with fail
            clear hce1 hce2
            have ltq106 : r < wq93.heap.size := hCq98.out.lt
            have ltq107 : M < wq93.heap.size := hCq99.lt
            have ltq108 : wr.heap.size < wq93.heap.size := hCq101.lt
            refine (cL r _ hCq98.out.row).mono ?_
            rintro e wq104 ⟨rfl, bq105⟩
            have hOq114 := Lib.hid (own_below hOq103.out bq105)
            have hCq109 := Lib.hid (hCq98.out.below bq105)
            have hCq110 := hCq99.below bq105 hCq99.lt
            have hCq111 := Lib.hid (hCq100.out.below bq105)
            have hCq112 := hCq101.below bq105 hCq101.lt
            have hBq113 := hBq102.trans (bq105.mono hBq102.size)
            clear hCq98 hCq99 hCq100 hCq101 hBq102
            clear hOq103
            clear bq105
            have hTK2 : ∀ z ∈ tk, z < 4294967296 := hTK.out
            have hL2 : (row tk).length ≤ 1 + 64 * (i + 1) := by have h2 := hL.out; omega
            have hN2 : tk.length ≤ i + 1 := by have := hN.out; omega
            have HTK2 := Lib.hid hTK2
            have HL2 := Lib.hid hL2
            have HN2 := Lib.hid hN2
            clear hTK2 hL2 hN2
            go_wp2_with (first | ((with_reducible show wpList _ _ _ (⟨some 14, _, _, _, _, _⟩ :: _) _ _); refine wpList_allocZ rfl 23 rfl _ Try.zeroHash ?_; intro wq115 hsq116 baq117 hNq118) | ((with_reducible show wpList _ _ _ (⟨none, Op.store _ (.tmp 14) _, _, _, _, _⟩ :: _) _ _); refine wpList_storeBlk rfl 23 (.tmp 14) (.tmp 81) rfl (wq104.heap.size) ((zh32.map bv).toArray) (by rfl) (by rfl) _ _ hNq118 (by rw [bv_size, HZ.out]; exact Try.sizeHash) (by rw [bv_size, HZ.out, Z32_size]) (bv_all _) ?_; intro wq119 hKq120 gq121; have bbq122 := below_new baq117 gq121 (Nat.le_refl _) baq117.size; have ltq123 : r < wq104.heap.size := hCq109.out.lt; have ltq124 : M < wq104.heap.size := hCq110.lt; have ltq125 : wr.heap.size < wq104.heap.size := hCq112.lt; have hOq131 := Lib.hid (own_below hOq114.out bbq122); have hCq126 := Lib.hid (hCq109.out.below bbq122); have hCq127 := hCq110.below bbq122 hCq110.lt; have hCq128 := Lib.hid (hCq111.out.below bbq122); have hCq129 := hCq112.below bbq122 hCq112.lt; have hBq130 := hBq113.trans (bbq122.mono hBq113.size); clear hCq109 hCq110 hCq111 hCq112 hBq113; clear hOq114; clear bbq122 baq117 hNq118 gq121 hsq116) | ((with_reducible show wpList _ _ _ (⟨some 87, _, _, _, _, _⟩ :: _) _ _); refine wpList_if (by rfl) (wp_load_mid 23 (.tmp 14) rfl (wq104.heap.size) 0 (by rfl) (zh32.map bv) _ (blk_rangeP hKq120) Try.underlying23 rfl (by rw [List.length_map, HZ.out]; exact Try.sizeHash) ?_)) | ((with_reducible show wpList _ _ _ (⟨some 88, _, _, _, _, _⟩ :: _) _ _); refine wpList_if (by rfl) (wp_load_mid 23 (.tmp 13) rfl (wr.heap.size) 0 (by rfl) (zh32.map bv) _ (blk_rangeP hCq129) Try.underlying23 rfl (by rw [List.length_map, HZ.out]; exact Try.sizeHash) ?_)) | ((with_reducible show wpList _ _ _ (⟨some 124, _, _, _, _, _⟩ :: _) _ _); refine wpList_load_mid rfl 54 (.tmp 9) rfl (M) 0 (by rfl) (rcells a B (.slice tao tk.length tc)) _ (blk_rangeP hCq127) Try.underlying54 rfl (by rw [rcells_len _ _ _ HA.out]; exact Try.sizeR6) ?_))
            have ltq134 : r < wq119.heap.size := hCq126.out.lt
            have ltq135 : M < wq119.heap.size := hCq127.lt
            have ltq136 : wr.heap.size < wq119.heap.size := hCq129.lt
            have ltq137 : wq104.heap.size < wq119.heap.size := hKq120.lt
            refine (c6 _ tk r _ HTK2.out (by have := HN2.out; omega) (IntsAt.own hOq131.out) (by have := HL2.out; omega) hCq126.out.row).mono ?_
            rintro e wq132 ⟨rfl, bq133⟩
            have hOq144 := Lib.hid (own_below hOq131.out bq133)
            have hCq138 := Lib.hid (hCq126.out.below bq133)
            have hCq139 := hCq127.below bq133 hCq127.lt
            have hCq140 := Lib.hid (hCq128.out.below bq133)
            have hCq141 := hCq129.below bq133 hCq129.lt
            have hCq142 := hKq120.below bq133 hKq120.lt
            have hBq143 := hBq130.trans (bq133.mono hBq130.size)
            clear hCq126 hCq127 hCq128 hCq129 hKq120 hBq130
            clear hOq131
            clear bq133
            go_wp2_with fail
            have hM9 := Lib.hid hCq139
            have hB9 := Lib.hid hBq143
            go_roundw
            case rel => exact ⟨i + 1, tk, _, by omega, by go_num, hCq138, hM9, hOq144, hCq140, hB9, HTK2, HL2, HN2⟩
            case measure => simp [intOf]; omega
          by_cases hd1 : dm = 1
          · subst hd1
            have hM1 := hM.out
            have hB4 := hB3.out
            clear hM hB3
            go_wp2_with (first | ((with_reducible show wpList _ _ _ (⟨some 58, _, _, _, _, _⟩ :: _) _ _); refine wpList_buildCells rfl 23 #[] rfl ((zh32.map bv).toArray) (by kernel_rfl) ?_) | ((with_reducible show wpList _ _ _ (⟨some 13, _, _, _, _, _⟩ :: _) _ _); refine wpList_allocZ rfl 23 rfl _ Try.zeroHash ?_; intro wq145 hsq146 baq147 hNq148) | ((with_reducible show wpList _ _ _ (⟨none, Op.store _ (.tmp 13) _, _, _, _, _⟩ :: _) _ _); refine wpList_storeBlk rfl 23 (.tmp 13) (.tmp 58) rfl (wr.heap.size) ((zh32.map bv).toArray) (by rfl) (by rfl) _ _ hNq148 (by rw [bv_size, HZ.out]; exact Try.sizeHash) (by rw [bv_size, HZ.out, Z32_size]) (bv_all _) ?_; intro wq149 hKq150 gq151; have bbq152 := below_new baq147 gq151 (Nat.le_refl _) baq147.size; have ltq153 : r < wr.heap.size := hR.out.lt; have ltq154 : M < wr.heap.size := hM1.lt; have hOq159 := Lib.hid (own_below hO.out bbq152); have hCq155 := Lib.hid (hR.out.below bbq152); have hCq156 := hM1.below bbq152 hM1.lt; have hCq157 := Lib.hid (hE2.out.below bbq152); have hBq158 := hB4.trans (bbq152.mono hB4.size); clear hR hM1 hE2 hB4; clear hO; clear bbq152 baq147 hNq148 gq151 hsq146) | ((with_reducible show wpList _ _ _ (⟨some 59, _, _, _, _, _⟩ :: _) _ _); refine wpList_load_mid rfl 54 (.tmp 9) rfl (M) 0 (by rfl) (rcells a B (.slice tao tk.length tc)) _ (blk_rangeP hCq156) Try.underlying54 rfl (by rw [rcells_len _ _ _ HA.out]; exact Try.sizeR6) ?_))
            clear hce1 hce2
            have ltq162 : r < wq149.heap.size := hCq155.out.lt
            have ltq163 : M < wq149.heap.size := hCq156.lt
            have ltq164 : wr.heap.size < wq149.heap.size := hKq150.lt
            refine (cW _ _).mono ?_
            rintro e wq160 ⟨rfl, bq161⟩
            have hOq170 := Lib.hid (own_below hOq159.out bq161)
            have hCq165 := Lib.hid (hCq155.out.below bq161)
            have hCq166 := hCq156.below bq161 hCq156.lt
            have hCq167 := Lib.hid (hCq157.out.below bq161)
            have hCq168 := hKq150.below bq161 hKq150.lt
            have hBq169 := hBq158.trans (bq161.mono hBq158.size)
            clear hCq155 hCq156 hCq157 hKq150 hBq158
            clear hOq159
            clear bq161
            go_wp2_with ((with_reducible show wpList _ _ _ (⟨some 63, _, _, _, _, _⟩ :: _) _ _); refine wpList_load_mid rfl 54 (.tmp 9) rfl (M) 0 (by rfl) (rcells a B (.slice tao tk.length tc)) _ (blk_rangeP hCq166) Try.underlying54 rfl (by rw [rcells_len _ _ _ HA.out]; exact Try.sizeR6) ?_)
            have ltq173 : r < wq160.heap.size := hCq165.out.lt
            have ltq174 : M < wq160.heap.size := hCq166.lt
            have ltq175 : wr.heap.size < wq160.heap.size := hCq168.lt
            refine (cR _ _ (IntsAt.own hOq170.out) (by have := hN.out; omega)).mono ?_
            rintro e wq171 ⟨rfl, bq172⟩
            have hOq181 := Lib.hid (own_below hOq170.out bq172)
            have hCq176 := Lib.hid (hCq165.out.below bq172)
            have hCq177 := hCq166.below bq172 hCq166.lt
            have hCq178 := Lib.hid (hCq167.out.below bq172)
            have hCq179 := hCq168.below bq172 hCq168.lt
            have hBq180 := hBq169.trans (bq172.mono hBq169.size)
            clear hCq165 hCq166 hCq167 hCq168 hBq169
            clear hOq170
            clear bq172
            obtain ⟨hce1, hce2⟩ := EE.out _ hCq178.out
            go_wp2_with fail
            clear hce1 hce2
            have ltq186 : r < wq171.heap.size := hCq176.out.lt
            have ltq187 : M < wq171.heap.size := hCq177.lt
            have ltq188 : wr.heap.size < wq171.heap.size := hCq179.lt
            refine (cT r _ hCq176.out.row).mono ?_
            rintro e wq182 ⟨rfl, hRq183, gq184, mvq185⟩
            have hCq189 := Lib.hid (hCq176.out.take hRq183 mvq185 (fun q hq => (own_lt hOq181.out q hq).2))
            have hCq190 := Lib.hid (hOq181.out.kept gq184 (.inr (own_ne hOq181.out hCq176.out.row.slot.choose_spec (by decide))))
            have hCq191 := Lib.hid (HE.out.grownR hCq178.out gq184 hrw)
            have hCq192 := hCq177.grown gq184 (by simp; omega)
            have hCq193 := hCq179.grown gq184 (by simp; omega)
            have hBq194 := hBq180.grown gq184 hBq180.size (fun q e => by cases e; exact hrw)
            clear hRq183 gq184 mvq185 hCq176 hOq181 hCq178 hCq177 hCq179 hBq180
            have hTK2 : ∀ z ∈ tk, z < 4294967296 := hTK.out
            have hL2 : (row tk).length ≤ 1 + 64 * (i + 1) := by have h2 := hL.out; omega
            have hN2 : tk.length ≤ i + 1 := by have := hN.out; omega
            have HTK2 := Lib.hid hTK2
            have HL2 := Lib.hid hL2
            have HN2 := Lib.hid hN2
            clear hTK2 hL2 hN2
            go_wp2_with (first | ((with_reducible show wpList _ _ _ (⟨some 16, _, _, _, _, _⟩ :: _) _ _); refine wpList_allocZ rfl 23 rfl _ Try.zeroHash ?_; intro wq195 hsq196 baq197 hNq198) | ((with_reducible show wpList _ _ _ (⟨none, Op.store _ (.tmp 16) _, _, _, _, _⟩ :: _) _ _); refine wpList_storeBlk rfl 23 (.tmp 16) (.tmp 97) rfl (wq182.heap.size) ((zh32.map bv).toArray) (by rfl) (by rfl) _ _ hNq198 (by rw [bv_size, HZ.out]; exact Try.sizeHash) (by rw [bv_size, HZ.out, Z32_size]) (bv_all _) ?_; intro wq199 hKq200 gq201; have bbq202 := below_new baq197 gq201 (Nat.le_refl _) baq197.size; have ltq203 : r < wq182.heap.size := hCq189.out.lt; have ltq204 : M < wq182.heap.size := hCq192.lt; have ltq205 : wr.heap.size < wq182.heap.size := hCq193.lt; have hOq211 := Lib.hid (own_below hCq190.out bbq202); have hCq206 := Lib.hid (hCq189.out.below bbq202); have hCq207 := hCq192.below bbq202 hCq192.lt; have hCq208 := Lib.hid (hCq191.out.below bbq202); have hCq209 := hCq193.below bbq202 hCq193.lt; have hBq210 := hBq194.trans (bbq202.mono hBq194.size); clear hCq189 hCq192 hCq191 hCq193 hBq194; clear hCq190; clear bbq202 baq197 hNq198 gq201 hsq196) | ((with_reducible show wpList _ _ _ (⟨some 103, _, _, _, _, _⟩ :: _) _ _); refine wpList_if (by rfl) (wp_load_mid 23 (.tmp 16) rfl (wq182.heap.size) 0 (by rfl) (zh32.map bv) _ (blk_rangeP hKq200) Try.underlying23 rfl (by rw [List.length_map, HZ.out]; exact Try.sizeHash) ?_)) | ((with_reducible show wpList _ _ _ (⟨some 104, _, _, _, _, _⟩ :: _) _ _); refine wpList_if (by rfl) (wp_load_mid 23 (.tmp 13) rfl (wr.heap.size) 0 (by rfl) (zh32.map bv) _ (blk_rangeP hCq209) Try.underlying23 rfl (by rw [List.length_map, HZ.out]; exact Try.sizeHash) ?_)) | ((with_reducible show wpList _ _ _ (⟨some 124, _, _, _, _, _⟩ :: _) _ _); refine wpList_load_mid rfl 54 (.tmp 9) rfl (M) 0 (by rfl) (rcells a B (.slice tao tk.length tc)) _ (blk_rangeP hCq207) Try.underlying54 rfl (by rw [rcells_len _ _ _ HA.out]; exact Try.sizeR6) ?_))
            have ltq214 : r < wq199.heap.size := hCq206.out.lt
            have ltq215 : M < wq199.heap.size := hCq207.lt
            have ltq216 : wr.heap.size < wq199.heap.size := hCq209.lt
            have ltq217 : wq182.heap.size < wq199.heap.size := hKq200.lt
            refine (c6 _ tk r _ HTK2.out (by have := HN2.out; omega) (IntsAt.own hOq211.out) (by have := HL2.out; omega) hCq206.out.row).mono ?_
            rintro e wq212 ⟨rfl, bq213⟩
            have hOq224 := Lib.hid (own_below hOq211.out bq213)
            have hCq218 := Lib.hid (hCq206.out.below bq213)
            have hCq219 := hCq207.below bq213 hCq207.lt
            have hCq220 := Lib.hid (hCq208.out.below bq213)
            have hCq221 := hCq209.below bq213 hCq209.lt
            have hCq222 := hKq200.below bq213 hKq200.lt
            have hBq223 := hBq210.trans (bq213.mono hBq210.size)
            clear hCq206 hCq207 hCq208 hCq209 hKq200 hBq210
            clear hOq211
            clear bq213
            go_wp2_with fail
            have hM9 := Lib.hid hCq219
            have hB9 := Lib.hid hBq223
            go_roundw
            case rel => exact ⟨i + 1, tk, _, by omega, by go_num, hCq218, hM9, hOq224, hCq220, hB9, HTK2, HL2, HN2⟩
            case measure => simp [intOf]; omega
          by_cases hd2 : dm = 2
          · subst hd2
            have hM1 := hM.out
            have hB4 := hB3.out
            clear hM hB3
            go_wp2_with (first | ((with_reducible show wpList _ _ _ (⟨some 58, _, _, _, _, _⟩ :: _) _ _); refine wpList_buildCells rfl 23 #[] rfl ((zh32.map bv).toArray) (by kernel_rfl) ?_) | ((with_reducible show wpList _ _ _ (⟨some 13, _, _, _, _, _⟩ :: _) _ _); refine wpList_allocZ rfl 23 rfl _ Try.zeroHash ?_; intro wq225 hsq226 baq227 hNq228) | ((with_reducible show wpList _ _ _ (⟨none, Op.store _ (.tmp 13) _, _, _, _, _⟩ :: _) _ _); refine wpList_storeBlk rfl 23 (.tmp 13) (.tmp 58) rfl (wr.heap.size) ((zh32.map bv).toArray) (by rfl) (by rfl) _ _ hNq228 (by rw [bv_size, HZ.out]; exact Try.sizeHash) (by rw [bv_size, HZ.out, Z32_size]) (bv_all _) ?_; intro wq229 hKq230 gq231; have bbq232 := below_new baq227 gq231 (Nat.le_refl _) baq227.size; have ltq233 : r < wr.heap.size := hR.out.lt; have ltq234 : M < wr.heap.size := hM1.lt; have hOq239 := Lib.hid (own_below hO.out bbq232); have hCq235 := Lib.hid (hR.out.below bbq232); have hCq236 := hM1.below bbq232 hM1.lt; have hCq237 := Lib.hid (hE2.out.below bbq232); have hBq238 := hB4.trans (bbq232.mono hB4.size); clear hR hM1 hE2 hB4; clear hO; clear bbq232 baq227 hNq228 gq231 hsq226) | ((with_reducible show wpList _ _ _ (⟨some 59, _, _, _, _, _⟩ :: _) _ _); refine wpList_load_mid rfl 54 (.tmp 9) rfl (M) 0 (by rfl) (rcells a B (.slice tao tk.length tc)) _ (blk_rangeP hCq236) Try.underlying54 rfl (by rw [rcells_len _ _ _ HA.out]; exact Try.sizeR6) ?_))
            clear hce1 hce2
            have ltq242 : r < wq229.heap.size := hCq235.out.lt
            have ltq243 : M < wq229.heap.size := hCq236.lt
            have ltq244 : wr.heap.size < wq229.heap.size := hKq230.lt
            refine (cW _ _).mono ?_
            rintro e wq240 ⟨rfl, bq241⟩
            have hOq250 := Lib.hid (own_below hOq239.out bq241)
            have hCq245 := Lib.hid (hCq235.out.below bq241)
            have hCq246 := hCq236.below bq241 hCq236.lt
            have hCq247 := Lib.hid (hCq237.out.below bq241)
            have hCq248 := hKq230.below bq241 hKq230.lt
            have hBq249 := hBq238.trans (bq241.mono hBq238.size)
            clear hCq235 hCq236 hCq237 hKq230 hBq238
            clear hOq239
            clear bq241
            go_wp2_with ((with_reducible show wpList _ _ _ (⟨some 63, _, _, _, _, _⟩ :: _) _ _); refine wpList_load_mid rfl 54 (.tmp 9) rfl (M) 0 (by rfl) (rcells a B (.slice tao tk.length tc)) _ (blk_rangeP hCq246) Try.underlying54 rfl (by rw [rcells_len _ _ _ HA.out]; exact Try.sizeR6) ?_)
            have ltq253 : r < wq240.heap.size := hCq245.out.lt
            have ltq254 : M < wq240.heap.size := hCq246.lt
            have ltq255 : wr.heap.size < wq240.heap.size := hCq248.lt
            refine (cR _ _ (IntsAt.own hOq250.out) (by have := hN.out; omega)).mono ?_
            rintro e wq251 ⟨rfl, bq252⟩
            have hOq261 := Lib.hid (own_below hOq250.out bq252)
            have hCq256 := Lib.hid (hCq245.out.below bq252)
            have hCq257 := hCq246.below bq252 hCq246.lt
            have hCq258 := Lib.hid (hCq247.out.below bq252)
            have hCq259 := hCq248.below bq252 hCq248.lt
            have hBq260 := hBq249.trans (bq252.mono hBq249.size)
            clear hCq245 hCq246 hCq247 hCq248 hBq249
            clear hOq250
            clear bq252
            obtain ⟨hce1, hce2⟩ := EE.out _ hCq258.out
            go_wp2_with fail
            clear hce1 hce2
            have ltq264 : r < wq251.heap.size := hCq256.out.lt
            have ltq265 : M < wq251.heap.size := hCq257.lt
            have ltq266 : wr.heap.size < wq251.heap.size := hCq259.lt
            refine (cG r _ hCq256.out.row).mono ?_
            rintro e wq262 ⟨rfl, bq263⟩
            have hOq272 := Lib.hid (own_below hOq261.out bq263)
            have hCq267 := Lib.hid (hCq256.out.below bq263)
            have hCq268 := hCq257.below bq263 hCq257.lt
            have hCq269 := Lib.hid (hCq258.out.below bq263)
            have hCq270 := hCq259.below bq263 hCq259.lt
            have hBq271 := hBq260.trans (bq263.mono hBq260.size)
            clear hCq256 hCq257 hCq258 hCq259 hBq260
            clear hOq261
            clear bq263
            have hTK2 : ∀ z ∈ tk, z < 4294967296 := hTK.out
            have hL2 : (row tk).length ≤ 1 + 64 * (i + 1) := by have h2 := hL.out; omega
            have hN2 : tk.length ≤ i + 1 := by have := hN.out; omega
            have HTK2 := Lib.hid hTK2
            have HL2 := Lib.hid hL2
            have HN2 := Lib.hid hN2
            clear hTK2 hL2 hN2
            go_wp2_with ((with_reducible show wpList _ _ _ (⟨some 124, _, _, _, _, _⟩ :: _) _ _); refine wpList_load_mid rfl 54 (.tmp 9) rfl (M) 0 (by rfl) (rcells a B (.slice tao tk.length tc)) _ (blk_rangeP hCq268) Try.underlying54 rfl (by rw [rcells_len _ _ _ HA.out]; exact Try.sizeR6) ?_)
            have ltq275 : r < wq262.heap.size := hCq267.out.lt
            have ltq276 : M < wq262.heap.size := hCq268.lt
            have ltq277 : wr.heap.size < wq262.heap.size := hCq270.lt
            refine (c6 _ tk r _ HTK2.out (by have := HN2.out; omega) (IntsAt.own hOq272.out) (by have := HL2.out; omega) hCq267.out.row).mono ?_
            rintro e wq273 ⟨rfl, bq274⟩
            have hOq283 := Lib.hid (own_below hOq272.out bq274)
            have hCq278 := Lib.hid (hCq267.out.below bq274)
            have hCq279 := hCq268.below bq274 hCq268.lt
            have hCq280 := Lib.hid (hCq269.out.below bq274)
            have hCq281 := hCq270.below bq274 hCq270.lt
            have hBq282 := hBq271.trans (bq274.mono hBq271.size)
            clear hCq267 hCq268 hCq269 hCq270 hBq271
            clear hOq272
            clear bq274
            go_wp2_with fail
            have hM9 := Lib.hid hCq279
            have hB9 := Lib.hid hBq282
            go_roundw
            case rel => exact ⟨i + 1, tk, _, by omega, by go_num, hCq278, hM9, hOq283, hCq280, hB9, HTK2, HL2, HN2⟩
            case measure => simp [intOf]; omega
          exfalso; omega
        · obtain ⟨k, hk, cK, cW, cR, cL, cT, cG⟩ := plays_ok a B tk x row HROW.out HA.out hB2 hx1 hx2 hlk hw ht
          have hw2 : 0 ≤ x ∧ x < ((2 ^ B : Nat) : Int) := by simpa [withinT] using hw
          have hx0 : 0 ≤ x := hw2.1
          have hxp : x.toNat < 2 ^ B := by omega
          have hx32 : x.toNat < 4294967296 := by have := HPOW.out; omega
          have HK := Lib.hid hk
          have hqk : ∀ x, (Op.equalIn 10000 23 (.agg (k.map bv).toArray) (.agg (k.map bv).toArray)).run Try.prog x = .ok true x := fun x => by rw [run_eq_hash x _ _ HK.out HK.out, beq_self_eq_true]
          clear hw ht hw2 hk
          by_cases hd0 : dm = 0
          · subst hd0
            have hM1 := hM.out
            have hB4 := hB3.out
            clear hM hB3
            go_wp2_with (first | ((with_reducible show wpList _ _ _ (⟨some 58, _, _, _, _, _⟩ :: _) _ _); refine wpList_buildCells rfl 23 #[] rfl ((zh32.map bv).toArray) (by kernel_rfl) ?_) | ((with_reducible show wpList _ _ _ (⟨some 13, _, _, _, _, _⟩ :: _) _ _); refine wpList_allocZ rfl 23 rfl _ Try.zeroHash ?_; intro wq284 hsq285 baq286 hNq287) | ((with_reducible show wpList _ _ _ (⟨none, Op.store _ (.tmp 13) _, _, _, _, _⟩ :: _) _ _); refine wpList_storeBlk rfl 23 (.tmp 13) (.tmp 58) rfl (wr.heap.size) ((zh32.map bv).toArray) (by rfl) (by rfl) _ _ hNq287 (by rw [bv_size, HZ.out]; exact Try.sizeHash) (by rw [bv_size, HZ.out, Z32_size]) (bv_all _) ?_; intro wq288 hKq289 gq290; have bbq291 := below_new baq286 gq290 (Nat.le_refl _) baq286.size; have ltq292 : r < wr.heap.size := hR.out.lt; have ltq293 : M < wr.heap.size := hM1.lt; have hOq298 := Lib.hid (own_below hO.out bbq291); have hCq294 := Lib.hid (hR.out.below bbq291); have hCq295 := hM1.below bbq291 hM1.lt; have hCq296 := Lib.hid (hE2.out.below bbq291); have hBq297 := hB4.trans (bbq291.mono hB4.size); clear hR hM1 hE2 hB4; clear hO; clear bbq291 baq286 hNq287 gq290 hsq285) | ((with_reducible show wpList _ _ _ (⟨some 59, _, _, _, _, _⟩ :: _) _ _); refine wpList_load_mid rfl 54 (.tmp 9) rfl (M) 0 (by rfl) (rcells a B (.slice tao tk.length tc)) _ (blk_rangeP hCq295) Try.underlying54 rfl (by rw [rcells_len _ _ _ HA.out]; exact Try.sizeR6) ?_))
            clear hce1 hce2
            have ltq301 : r < wq288.heap.size := hCq294.out.lt
            have ltq302 : M < wq288.heap.size := hCq295.lt
            have ltq303 : wr.heap.size < wq288.heap.size := hKq289.lt
            refine (cW _ _).mono ?_
            rintro e wq299 ⟨rfl, bq300⟩
            have hOq309 := Lib.hid (own_below hOq298.out bq300)
            have hCq304 := Lib.hid (hCq294.out.below bq300)
            have hCq305 := hCq295.below bq300 hCq295.lt
            have hCq306 := Lib.hid (hCq296.out.below bq300)
            have hCq307 := hKq289.below bq300 hKq289.lt
            have hBq308 := hBq297.trans (bq300.mono hBq297.size)
            clear hCq294 hCq295 hCq296 hKq289 hBq297
            clear hOq298
            clear bq300
            go_wp2_with ((with_reducible show wpList _ _ _ (⟨some 63, _, _, _, _, _⟩ :: _) _ _); refine wpList_load_mid rfl 54 (.tmp 9) rfl (M) 0 (by rfl) (rcells a B (.slice tao tk.length tc)) _ (blk_rangeP hCq305) Try.underlying54 rfl (by rw [rcells_len _ _ _ HA.out]; exact Try.sizeR6) ?_)
            have ltq312 : r < wq299.heap.size := hCq304.out.lt
            have ltq313 : M < wq299.heap.size := hCq305.lt
            have ltq314 : wr.heap.size < wq299.heap.size := hCq307.lt
            refine (cR _ _ (IntsAt.own hOq309.out) (by have := hN.out; omega)).mono ?_
            rintro e wq310 ⟨rfl, bq311⟩
            have hOq320 := Lib.hid (own_below hOq309.out bq311)
            have hCq315 := Lib.hid (hCq304.out.below bq311)
            have hCq316 := hCq305.below bq311 hCq305.lt
            have hCq317 := Lib.hid (hCq306.out.below bq311)
            have hCq318 := hCq307.below bq311 hCq307.lt
            have hBq319 := hBq308.trans (bq311.mono hBq308.size)
            clear hCq304 hCq305 hCq306 hCq307 hBq308
            clear hOq309
            clear bq311
            go_wp2_with ((with_reducible show wpList _ _ _ (⟨some 66, _, _, _, _, _⟩ :: _) _ _); refine wpList_load_mid rfl 54 (.tmp 9) rfl (M) 0 (by rfl) (rcells a B (.slice tao tk.length tc)) _ (blk_rangeP hCq316) Try.underlying54 rfl (by rw [rcells_len _ _ _ HA.out]; exact Try.sizeR6) ?_)
            have ltq323 : r < wq310.heap.size := hCq315.out.lt
            have ltq324 : M < wq310.heap.size := hCq316.lt
            have ltq325 : wr.heap.size < wq310.heap.size := hCq318.lt
            refine (cK _ _).mono ?_
            rintro e wq321 ⟨rfl, bq322⟩
            have hOq331 := Lib.hid (own_below hOq320.out bq322)
            have hCq326 := Lib.hid (hCq315.out.below bq322)
            have hCq327 := hCq316.below bq322 hCq316.lt
            have hCq328 := Lib.hid (hCq317.out.below bq322)
            have hCq329 := hCq318.below bq322 hCq318.lt
            have hBq330 := hBq319.trans (bq322.mono hBq319.size)
            clear hCq315 hCq316 hCq317 hCq318 hBq319
            clear hOq320
            clear bq322
            have ltq335 : r < wq321.heap.size := hCq326.out.lt
            have ltq336 : M < wq321.heap.size := hCq327.lt
            have ltq337 : wr.heap.size < wq321.heap.size := hCq329.lt
            go_wp2_with ((with_reducible show wpList _ _ _ (⟨none, Op.store _ (.tmp 13) _, _, _, _, _⟩ :: _) _ _); refine wpList_storeBlk rfl 23 (.tmp 13) (.tmp 68) rfl (wr.heap.size) ((k.map bv).toArray) (by rfl) (by rfl) _ _ hCq329 (by rw [bv_size, HK.out]; exact Try.sizeHash) (by rw [bv_size, bv_size, HK.out]; rfl) (bv_all _) ?_; intro wq332 hKq333 gq334; have hCq338 := Lib.hid (hCq326.out.other gq334 hCq329 ⟨_, rfl, fun n e => by cases e⟩); have hCq339 := hCq327.grown gq334 (by simp; omega); have hCq340 := Lib.hid (HE.out.grownO hCq328.out gq334 (fun q e => by cases e; omega)); have hCq341 := Lib.hid (hOq331.out.kept gq334 (.inr (own_ne hOq331.out hCq329 (by decide)))); have hBq342 := hBq330.grown gq334 hBq330.size (fun q e => by cases e; omega); clear gq334 hCq329 hCq326 hCq327 hCq328 hOq331 hBq330; obtain ⟨hce1, hce2⟩ := EE.out _ hCq340.out)
            clear hce1 hce2
            have ltq345 : r < wq332.heap.size := hCq338.out.lt
            have ltq346 : M < wq332.heap.size := hCq339.lt
            have ltq347 : wr.heap.size < wq332.heap.size := hKq333.lt
            refine (cL r _ hCq338.out.row).mono ?_
            rintro e wq343 ⟨rfl, bq344⟩
            have hOq353 := Lib.hid (own_below hCq341.out bq344)
            have hCq348 := Lib.hid (hCq338.out.below bq344)
            have hCq349 := hCq339.below bq344 hCq339.lt
            have hCq350 := Lib.hid (hCq340.out.below bq344)
            have hCq351 := hKq333.below bq344 hKq333.lt
            have hBq352 := hBq342.trans (bq344.mono hBq342.size)
            clear hCq338 hCq339 hCq340 hKq333 hBq342
            clear hCq341
            clear bq344
            have hTK2 : ∀ z ∈ tk, z < 4294967296 := hTK.out
            have hL2 : (row tk).length ≤ 1 + 64 * (i + 1) := by have h2 := hL.out; omega
            have hN2 : tk.length ≤ i + 1 := by have := hN.out; omega
            have HTK2 := Lib.hid hTK2
            have HL2 := Lib.hid hL2
            have HN2 := Lib.hid hN2
            clear hTK2 hL2 hN2
            go_wp2_with (first | ((with_reducible show wpList _ _ _ (⟨some 14, _, _, _, _, _⟩ :: _) _ _); refine wpList_allocZ rfl 23 rfl _ Try.zeroHash ?_; intro wq354 hsq355 baq356 hNq357) | ((with_reducible show wpList _ _ _ (⟨none, Op.store _ (.tmp 14) _, _, _, _, _⟩ :: _) _ _); refine wpList_storeBlk rfl 23 (.tmp 14) (.tmp 81) rfl (wq343.heap.size) ((k.map bv).toArray) (by rfl) (by rfl) _ _ hNq357 (by rw [bv_size, HK.out]; exact Try.sizeHash) (by rw [bv_size, HK.out, Z32_size]) (bv_all _) ?_; intro wq358 hKq359 gq360; have bbq361 := below_new baq356 gq360 (Nat.le_refl _) baq356.size; have ltq362 : r < wq343.heap.size := hCq348.out.lt; have ltq363 : M < wq343.heap.size := hCq349.lt; have ltq364 : wr.heap.size < wq343.heap.size := hCq351.lt; have hOq370 := Lib.hid (own_below hOq353.out bbq361); have hCq365 := Lib.hid (hCq348.out.below bbq361); have hCq366 := hCq349.below bbq361 hCq349.lt; have hCq367 := Lib.hid (hCq350.out.below bbq361); have hCq368 := hCq351.below bbq361 hCq351.lt; have hBq369 := hBq352.trans (bbq361.mono hBq352.size); clear hCq348 hCq349 hCq350 hCq351 hBq352; clear hOq353; clear bbq361 baq356 hNq357 gq360 hsq355) | ((with_reducible show wpList _ _ _ (⟨some 87, _, _, _, _, _⟩ :: _) _ _); refine wpList_if (by rfl) (wp_load_mid 23 (.tmp 14) rfl (wq343.heap.size) 0 (by rfl) (k.map bv) _ (blk_rangeP hKq359) Try.underlying23 rfl (by rw [List.length_map, HK.out]; exact Try.sizeHash) ?_)) | ((with_reducible show wpList _ _ _ (⟨some 88, _, _, _, _, _⟩ :: _) _ _); refine wpList_if (by rfl) (wp_load_mid 23 (.tmp 13) rfl (wr.heap.size) 0 (by rfl) (k.map bv) _ (blk_rangeP hCq368) Try.underlying23 rfl (by rw [List.length_map, HK.out]; exact Try.sizeHash) ?_)) | ((with_reducible show wpList _ _ _ (⟨some 124, _, _, _, _, _⟩ :: _) _ _); refine wpList_load_mid rfl 54 (.tmp 9) rfl (M) 0 (by rfl) (rcells a B (.slice tao tk.length tc)) _ (blk_rangeP hCq366) Try.underlying54 rfl (by rw [rcells_len _ _ _ HA.out]; exact Try.sizeR6) ?_))
            have ltq373 : r < wq358.heap.size := hCq365.out.lt
            have ltq374 : M < wq358.heap.size := hCq366.lt
            have ltq375 : wr.heap.size < wq358.heap.size := hCq368.lt
            have ltq376 : wq343.heap.size < wq358.heap.size := hKq359.lt
            refine (c6 _ tk r _ HTK2.out (by have := HN2.out; omega) (IntsAt.own hOq370.out) (by have := HL2.out; omega) hCq365.out.row).mono ?_
            rintro e wq371 ⟨rfl, bq372⟩
            have hOq383 := Lib.hid (own_below hOq370.out bq372)
            have hCq377 := Lib.hid (hCq365.out.below bq372)
            have hCq378 := hCq366.below bq372 hCq366.lt
            have hCq379 := Lib.hid (hCq367.out.below bq372)
            have hCq380 := hCq368.below bq372 hCq368.lt
            have hCq381 := hKq359.below bq372 hKq359.lt
            have hBq382 := hBq369.trans (bq372.mono hBq369.size)
            clear hCq365 hCq366 hCq367 hCq368 hKq359 hBq369
            clear hOq370
            clear bq372
            go_wp2_with fail
            have hM9 := Lib.hid hCq378
            have hB9 := Lib.hid hBq382
            go_roundw
            case rel => exact ⟨i + 1, tk, _, by omega, by go_num, hCq377, hM9, hOq383, hCq379, hB9, HTK2, HL2, HN2⟩
            case measure => simp [intOf]; omega
          by_cases hd1 : dm = 1
          · subst hd1
            have hM1 := hM.out
            have hB4 := hB3.out
            clear hM hB3
            go_wp2_with (first | ((with_reducible show wpList _ _ _ (⟨some 58, _, _, _, _, _⟩ :: _) _ _); refine wpList_buildCells rfl 23 #[] rfl ((zh32.map bv).toArray) (by kernel_rfl) ?_) | ((with_reducible show wpList _ _ _ (⟨some 13, _, _, _, _, _⟩ :: _) _ _); refine wpList_allocZ rfl 23 rfl _ Try.zeroHash ?_; intro wq384 hsq385 baq386 hNq387) | ((with_reducible show wpList _ _ _ (⟨none, Op.store _ (.tmp 13) _, _, _, _, _⟩ :: _) _ _); refine wpList_storeBlk rfl 23 (.tmp 13) (.tmp 58) rfl (wr.heap.size) ((zh32.map bv).toArray) (by rfl) (by rfl) _ _ hNq387 (by rw [bv_size, HZ.out]; exact Try.sizeHash) (by rw [bv_size, HZ.out, Z32_size]) (bv_all _) ?_; intro wq388 hKq389 gq390; have bbq391 := below_new baq386 gq390 (Nat.le_refl _) baq386.size; have ltq392 : r < wr.heap.size := hR.out.lt; have ltq393 : M < wr.heap.size := hM1.lt; have hOq398 := Lib.hid (own_below hO.out bbq391); have hCq394 := Lib.hid (hR.out.below bbq391); have hCq395 := hM1.below bbq391 hM1.lt; have hCq396 := Lib.hid (hE2.out.below bbq391); have hBq397 := hB4.trans (bbq391.mono hB4.size); clear hR hM1 hE2 hB4; clear hO; clear bbq391 baq386 hNq387 gq390 hsq385) | ((with_reducible show wpList _ _ _ (⟨some 59, _, _, _, _, _⟩ :: _) _ _); refine wpList_load_mid rfl 54 (.tmp 9) rfl (M) 0 (by rfl) (rcells a B (.slice tao tk.length tc)) _ (blk_rangeP hCq395) Try.underlying54 rfl (by rw [rcells_len _ _ _ HA.out]; exact Try.sizeR6) ?_))
            clear hce1 hce2
            have ltq401 : r < wq388.heap.size := hCq394.out.lt
            have ltq402 : M < wq388.heap.size := hCq395.lt
            have ltq403 : wr.heap.size < wq388.heap.size := hKq389.lt
            refine (cW _ _).mono ?_
            rintro e wq399 ⟨rfl, bq400⟩
            have hOq409 := Lib.hid (own_below hOq398.out bq400)
            have hCq404 := Lib.hid (hCq394.out.below bq400)
            have hCq405 := hCq395.below bq400 hCq395.lt
            have hCq406 := Lib.hid (hCq396.out.below bq400)
            have hCq407 := hKq389.below bq400 hKq389.lt
            have hBq408 := hBq397.trans (bq400.mono hBq397.size)
            clear hCq394 hCq395 hCq396 hKq389 hBq397
            clear hOq398
            clear bq400
            go_wp2_with ((with_reducible show wpList _ _ _ (⟨some 63, _, _, _, _, _⟩ :: _) _ _); refine wpList_load_mid rfl 54 (.tmp 9) rfl (M) 0 (by rfl) (rcells a B (.slice tao tk.length tc)) _ (blk_rangeP hCq405) Try.underlying54 rfl (by rw [rcells_len _ _ _ HA.out]; exact Try.sizeR6) ?_)
            have ltq412 : r < wq399.heap.size := hCq404.out.lt
            have ltq413 : M < wq399.heap.size := hCq405.lt
            have ltq414 : wr.heap.size < wq399.heap.size := hCq407.lt
            refine (cR _ _ (IntsAt.own hOq409.out) (by have := hN.out; omega)).mono ?_
            rintro e wq410 ⟨rfl, bq411⟩
            have hOq420 := Lib.hid (own_below hOq409.out bq411)
            have hCq415 := Lib.hid (hCq404.out.below bq411)
            have hCq416 := hCq405.below bq411 hCq405.lt
            have hCq417 := Lib.hid (hCq406.out.below bq411)
            have hCq418 := hCq407.below bq411 hCq407.lt
            have hBq419 := hBq408.trans (bq411.mono hBq408.size)
            clear hCq404 hCq405 hCq406 hCq407 hBq408
            clear hOq409
            clear bq411
            go_wp2_with ((with_reducible show wpList _ _ _ (⟨some 66, _, _, _, _, _⟩ :: _) _ _); refine wpList_load_mid rfl 54 (.tmp 9) rfl (M) 0 (by rfl) (rcells a B (.slice tao tk.length tc)) _ (blk_rangeP hCq416) Try.underlying54 rfl (by rw [rcells_len _ _ _ HA.out]; exact Try.sizeR6) ?_)
            have ltq423 : r < wq410.heap.size := hCq415.out.lt
            have ltq424 : M < wq410.heap.size := hCq416.lt
            have ltq425 : wr.heap.size < wq410.heap.size := hCq418.lt
            refine (cK _ _).mono ?_
            rintro e wq421 ⟨rfl, bq422⟩
            have hOq431 := Lib.hid (own_below hOq420.out bq422)
            have hCq426 := Lib.hid (hCq415.out.below bq422)
            have hCq427 := hCq416.below bq422 hCq416.lt
            have hCq428 := Lib.hid (hCq417.out.below bq422)
            have hCq429 := hCq418.below bq422 hCq418.lt
            have hBq430 := hBq419.trans (bq422.mono hBq419.size)
            clear hCq415 hCq416 hCq417 hCq418 hBq419
            clear hOq420
            clear bq422
            have ltq435 : r < wq421.heap.size := hCq426.out.lt
            have ltq436 : M < wq421.heap.size := hCq427.lt
            have ltq437 : wr.heap.size < wq421.heap.size := hCq429.lt
            go_wp2_with ((with_reducible show wpList _ _ _ (⟨none, Op.store _ (.tmp 13) _, _, _, _, _⟩ :: _) _ _); refine wpList_storeBlk rfl 23 (.tmp 13) (.tmp 68) rfl (wr.heap.size) ((k.map bv).toArray) (by rfl) (by rfl) _ _ hCq429 (by rw [bv_size, HK.out]; exact Try.sizeHash) (by rw [bv_size, bv_size, HK.out]; rfl) (bv_all _) ?_; intro wq432 hKq433 gq434; have hCq438 := Lib.hid (hCq426.out.other gq434 hCq429 ⟨_, rfl, fun n e => by cases e⟩); have hCq439 := hCq427.grown gq434 (by simp; omega); have hCq440 := Lib.hid (HE.out.grownO hCq428.out gq434 (fun q e => by cases e; omega)); have hCq441 := Lib.hid (hOq431.out.kept gq434 (.inr (own_ne hOq431.out hCq429 (by decide)))); have hBq442 := hBq430.grown gq434 hBq430.size (fun q e => by cases e; omega); clear gq434 hCq429 hCq426 hCq427 hCq428 hOq431 hBq430; obtain ⟨hce1, hce2⟩ := EE.out _ hCq440.out)
            clear hce1 hce2
            have ltq447 : r < wq432.heap.size := hCq438.out.lt
            have ltq448 : M < wq432.heap.size := hCq439.lt
            have ltq449 : wr.heap.size < wq432.heap.size := hKq433.lt
            refine (cT r _ hCq438.out.row).mono ?_
            rintro e wq443 ⟨rfl, hRq444, gq445, mvq446⟩
            have hCq450 := Lib.hid (hCq438.out.take hRq444 mvq446 (fun q hq => (own_lt hCq441.out q hq).2))
            have hCq451 := Lib.hid (hCq441.out.kept gq445 (.inr (own_ne hCq441.out hCq438.out.row.slot.choose_spec (by decide))))
            have hCq452 := Lib.hid (HE.out.grownR hCq440.out gq445 hrw)
            have hCq453 := hCq439.grown gq445 (by simp; omega)
            have hCq454 := hKq433.grown gq445 (by simp; omega)
            have hBq455 := hBq442.grown gq445 hBq442.size (fun q e => by cases e; exact hrw)
            clear hRq444 gq445 mvq446 hCq438 hCq441 hCq440 hCq439 hKq433 hBq442
            go_wp2_with (first | ((with_reducible show wpList _ _ _ (⟨some 16, _, _, _, _, _⟩ :: _) _ _); refine wpList_allocZ rfl 23 rfl _ Try.zeroHash ?_; intro wq456 hsq457 baq458 hNq459) | ((with_reducible show wpList _ _ _ (⟨none, Op.store _ (.tmp 16) _, _, _, _, _⟩ :: _) _ _); refine wpList_storeBlk rfl 23 (.tmp 16) (.tmp 97) rfl (wq443.heap.size) ((k.map bv).toArray) (by rfl) (by rfl) _ _ hNq459 (by rw [bv_size, HK.out]; exact Try.sizeHash) (by rw [bv_size, HK.out, Z32_size]) (bv_all _) ?_; intro wq460 hKq461 gq462; have bbq463 := below_new baq458 gq462 (Nat.le_refl _) baq458.size; have ltq464 : r < wq443.heap.size := hCq450.out.lt; have ltq465 : M < wq443.heap.size := hCq453.lt; have ltq466 : wr.heap.size < wq443.heap.size := hCq454.lt; have hOq472 := Lib.hid (own_below hCq451.out bbq463); have hCq467 := Lib.hid (hCq450.out.below bbq463); have hCq468 := hCq453.below bbq463 hCq453.lt; have hCq469 := Lib.hid (hCq452.out.below bbq463); have hCq470 := hCq454.below bbq463 hCq454.lt; have hBq471 := hBq455.trans (bbq463.mono hBq455.size); clear hCq450 hCq453 hCq452 hCq454 hBq455; clear hCq451; clear bbq463 baq458 hNq459 gq462 hsq457) | ((with_reducible show wpList _ _ _ (⟨some 103, _, _, _, _, _⟩ :: _) _ _); refine wpList_if (by rfl) (wp_load_mid 23 (.tmp 16) rfl (wq443.heap.size) 0 (by rfl) (k.map bv) _ (blk_rangeP hKq461) Try.underlying23 rfl (by rw [List.length_map, HK.out]; exact Try.sizeHash) ?_)) | ((with_reducible show wpList _ _ _ (⟨some 104, _, _, _, _, _⟩ :: _) _ _); refine wpList_if (by rfl) (wp_load_mid 23 (.tmp 13) rfl (wr.heap.size) 0 (by rfl) (k.map bv) _ (blk_rangeP hCq470) Try.underlying23 rfl (by rw [List.length_map, HK.out]; exact Try.sizeHash) ?_); have hc33 := hCq468.cell 33 _ (rcells_taken a B _ HA.out)) | ((with_reducible show wpList _ _ _ (⟨some 113, _, _, _, _, _⟩ :: _) _ _); refine wpList_append_place rfl (.tmp 110) (.tmp 112) rfl w.heap.size _ tk (by rfl) (hOq472.out.alloc _) wq460.heap.size 1 x.toNat (by rfl) (by rw [show ((x.toNat : Nat) : Int) = x by omega]; exact (Blk.new _ _ _).cell 0 _ rfl) (by have := hN.out; omega) (by have := hBq471.size; simp; omega) ?_; intro vq473 wq474 hoq475 gq476 hqq477; clear hc33; have hM8 := (hCq468.alloc (.cells #[.int .i64 x] 3)).grown gq476 (fun e => own_ne hOq472.out hCq468 (by decide) e.symm)) | ((with_reducible show wpList _ _ _ (⟨none, Op.store _ (.tmp 114) _, _, _, _, _⟩ :: _) _ _); refine wpList_store1 rfl 40 (.tmp 114) (.tmp 113) rfl M 33 vq473 (by rfl) (by rfl) _ _ hM8 (by simp [rcells, HA.out]) Try.sizeInts (own_cells hoq475) (own_onecell hoq475) ?_; intro wS hS gS; rw [rcells_set _ _ _ _ HA.out] at hS) | ((with_reducible show wpList _ _ _ (⟨some 124, _, _, _, _, _⟩ :: _) _ _); refine wpList_load_mid rfl 54 (.tmp 9) rfl (M) 0 (by rfl) (rcells a B vq473) _ (blk_rangeP hS) Try.underlying54 rfl (by rw [rcells_len _ _ _ HA.out]; exact Try.sizeR6) ?_))
            have hbx := below_alloc1 wq460 (.cells #[.int .i64 x] 3)
            have hR8 := (hCq467.out.below hbx).append gq476 (own_ne (hOq472.out.alloc _) (hCq467.out.below hbx).row.slot.choose_spec (by decide)) hqq477
            have hR9 := Lib.hid (hR8.other gS hM8 (rcells_first _ _ _ HA.out))
            have hO9 := Lib.hid (hoq475.kept gS (.inr (own_ne hoq475 hM8 (by decide))))
            have hE8 := HE.out.grownO (hCq469.out.below hbx) gq476 (fun q hq => (own_lt hOq472.out q hq).1)
            have hE9 := Lib.hid (HE.out.grownR hE8 gS (by omega))
            have hb8 := (hBq471.alloc hBq471.size (.cells #[.int .i64 x] 3)).grown gq476 (by have := hBq471.size; simp; omega) (fun q hq => (own_lt hOq472.out q hq).1)
            have hb9 := hb8.grown gS hb8.size (fun q e => by cases e; omega)
            obtain ⟨ao9, c9, rfl⟩ := own_slice hoq475
            clear hbx hR8 hE8 hb8 hM8 hoq475 gq476 hqq477 gS hCq467 hOq472 hCq469 hCq468 hBq471
            have hTK2 : ∀ z ∈ tk ++ [x.toNat], z < 4294967296 := fun z hz => by
              rcases List.mem_append.1 hz with hz | hz
              · exact hTK.out z hz
              · rw [List.mem_singleton] at hz; omega
            have hL2 : (row (tk ++ [x.toNat])).length ≤ 1 + 64 * (i + 1) := by have h1 := HLEN.out tk x.toNat (by omega); have h2 := hL.out; omega
            have hN2 : (tk ++ [x.toNat]).length ≤ i + 1 := by have := hN.out; simp; omega
            obtain ⟨tk2, htk2⟩ : ∃ t, t = tk ++ [x.toNat] := ⟨_, rfl⟩
            rw [← htk2] at hTK2 hL2 hN2 hR9 hO9 hS ⊢
            clear htk2
            have HTK2 := Lib.hid hTK2
            have HL2 := Lib.hid hL2
            have HN2 := Lib.hid hN2
            clear hTK2 hL2 hN2
            have ltq480 : r < wS.heap.size := hR9.out.lt
            have ltq481 : M < wS.heap.size := hS.lt
            refine (c6 _ tk2 r _ HTK2.out (by have := HN2.out; omega) (IntsAt.own hO9.out) (by have := HL2.out; omega) hR9.out.row).mono ?_
            rintro e wq478 ⟨rfl, bq479⟩
            have hOq486 := Lib.hid (own_below hO9.out bq479)
            have hCq482 := Lib.hid (hR9.out.below bq479)
            have hCq483 := Lib.hid (hE9.out.below bq479)
            have hCq484 := hS.below bq479 hS.lt
            have hBq485 := hb9.trans (bq479.mono hb9.size)
            clear hR9 hE9 hS hb9
            clear hO9
            clear bq479
            go_wp2_with fail
            have hM9 := Lib.hid hCq484
            have hB9 := Lib.hid hBq485
            go_roundw
            case rel => exact ⟨i + 1, tk2, _, by omega, by go_num, hCq482, hM9, hOq486, hCq483, hB9, HTK2, HL2, HN2⟩
            case measure => simp [intOf]; omega
          by_cases hd2 : dm = 2
          · subst hd2
            have hM1 := hM.out
            have hB4 := hB3.out
            clear hM hB3
            go_wp2_with (first | ((with_reducible show wpList _ _ _ (⟨some 58, _, _, _, _, _⟩ :: _) _ _); refine wpList_buildCells rfl 23 #[] rfl ((zh32.map bv).toArray) (by kernel_rfl) ?_) | ((with_reducible show wpList _ _ _ (⟨some 13, _, _, _, _, _⟩ :: _) _ _); refine wpList_allocZ rfl 23 rfl _ Try.zeroHash ?_; intro wq487 hsq488 baq489 hNq490) | ((with_reducible show wpList _ _ _ (⟨none, Op.store _ (.tmp 13) _, _, _, _, _⟩ :: _) _ _); refine wpList_storeBlk rfl 23 (.tmp 13) (.tmp 58) rfl (wr.heap.size) ((zh32.map bv).toArray) (by rfl) (by rfl) _ _ hNq490 (by rw [bv_size, HZ.out]; exact Try.sizeHash) (by rw [bv_size, HZ.out, Z32_size]) (bv_all _) ?_; intro wq491 hKq492 gq493; have bbq494 := below_new baq489 gq493 (Nat.le_refl _) baq489.size; have ltq495 : r < wr.heap.size := hR.out.lt; have ltq496 : M < wr.heap.size := hM1.lt; have hOq501 := Lib.hid (own_below hO.out bbq494); have hCq497 := Lib.hid (hR.out.below bbq494); have hCq498 := hM1.below bbq494 hM1.lt; have hCq499 := Lib.hid (hE2.out.below bbq494); have hBq500 := hB4.trans (bbq494.mono hB4.size); clear hR hM1 hE2 hB4; clear hO; clear bbq494 baq489 hNq490 gq493 hsq488) | ((with_reducible show wpList _ _ _ (⟨some 59, _, _, _, _, _⟩ :: _) _ _); refine wpList_load_mid rfl 54 (.tmp 9) rfl (M) 0 (by rfl) (rcells a B (.slice tao tk.length tc)) _ (blk_rangeP hCq498) Try.underlying54 rfl (by rw [rcells_len _ _ _ HA.out]; exact Try.sizeR6) ?_))
            clear hce1 hce2
            have ltq504 : r < wq491.heap.size := hCq497.out.lt
            have ltq505 : M < wq491.heap.size := hCq498.lt
            have ltq506 : wr.heap.size < wq491.heap.size := hKq492.lt
            refine (cW _ _).mono ?_
            rintro e wq502 ⟨rfl, bq503⟩
            have hOq512 := Lib.hid (own_below hOq501.out bq503)
            have hCq507 := Lib.hid (hCq497.out.below bq503)
            have hCq508 := hCq498.below bq503 hCq498.lt
            have hCq509 := Lib.hid (hCq499.out.below bq503)
            have hCq510 := hKq492.below bq503 hKq492.lt
            have hBq511 := hBq500.trans (bq503.mono hBq500.size)
            clear hCq497 hCq498 hCq499 hKq492 hBq500
            clear hOq501
            clear bq503
            go_wp2_with ((with_reducible show wpList _ _ _ (⟨some 63, _, _, _, _, _⟩ :: _) _ _); refine wpList_load_mid rfl 54 (.tmp 9) rfl (M) 0 (by rfl) (rcells a B (.slice tao tk.length tc)) _ (blk_rangeP hCq508) Try.underlying54 rfl (by rw [rcells_len _ _ _ HA.out]; exact Try.sizeR6) ?_)
            have ltq515 : r < wq502.heap.size := hCq507.out.lt
            have ltq516 : M < wq502.heap.size := hCq508.lt
            have ltq517 : wr.heap.size < wq502.heap.size := hCq510.lt
            refine (cR _ _ (IntsAt.own hOq512.out) (by have := hN.out; omega)).mono ?_
            rintro e wq513 ⟨rfl, bq514⟩
            have hOq523 := Lib.hid (own_below hOq512.out bq514)
            have hCq518 := Lib.hid (hCq507.out.below bq514)
            have hCq519 := hCq508.below bq514 hCq508.lt
            have hCq520 := Lib.hid (hCq509.out.below bq514)
            have hCq521 := hCq510.below bq514 hCq510.lt
            have hBq522 := hBq511.trans (bq514.mono hBq511.size)
            clear hCq507 hCq508 hCq509 hCq510 hBq511
            clear hOq512
            clear bq514
            go_wp2_with ((with_reducible show wpList _ _ _ (⟨some 66, _, _, _, _, _⟩ :: _) _ _); refine wpList_load_mid rfl 54 (.tmp 9) rfl (M) 0 (by rfl) (rcells a B (.slice tao tk.length tc)) _ (blk_rangeP hCq519) Try.underlying54 rfl (by rw [rcells_len _ _ _ HA.out]; exact Try.sizeR6) ?_)
            have ltq526 : r < wq513.heap.size := hCq518.out.lt
            have ltq527 : M < wq513.heap.size := hCq519.lt
            have ltq528 : wr.heap.size < wq513.heap.size := hCq521.lt
            refine (cK _ _).mono ?_
            rintro e wq524 ⟨rfl, bq525⟩
            have hOq534 := Lib.hid (own_below hOq523.out bq525)
            have hCq529 := Lib.hid (hCq518.out.below bq525)
            have hCq530 := hCq519.below bq525 hCq519.lt
            have hCq531 := Lib.hid (hCq520.out.below bq525)
            have hCq532 := hCq521.below bq525 hCq521.lt
            have hBq533 := hBq522.trans (bq525.mono hBq522.size)
            clear hCq518 hCq519 hCq520 hCq521 hBq522
            clear hOq523
            clear bq525
            have ltq538 : r < wq524.heap.size := hCq529.out.lt
            have ltq539 : M < wq524.heap.size := hCq530.lt
            have ltq540 : wr.heap.size < wq524.heap.size := hCq532.lt
            go_wp2_with ((with_reducible show wpList _ _ _ (⟨none, Op.store _ (.tmp 13) _, _, _, _, _⟩ :: _) _ _); refine wpList_storeBlk rfl 23 (.tmp 13) (.tmp 68) rfl (wr.heap.size) ((k.map bv).toArray) (by rfl) (by rfl) _ _ hCq532 (by rw [bv_size, HK.out]; exact Try.sizeHash) (by rw [bv_size, bv_size, HK.out]; rfl) (bv_all _) ?_; intro wq535 hKq536 gq537; have hCq541 := Lib.hid (hCq529.out.other gq537 hCq532 ⟨_, rfl, fun n e => by cases e⟩); have hCq542 := hCq530.grown gq537 (by simp; omega); have hCq543 := Lib.hid (HE.out.grownO hCq531.out gq537 (fun q e => by cases e; omega)); have hCq544 := Lib.hid (hOq534.out.kept gq537 (.inr (own_ne hOq534.out hCq532 (by decide)))); have hBq545 := hBq533.grown gq537 hBq533.size (fun q e => by cases e; omega); clear gq537 hCq532 hCq529 hCq530 hCq531 hOq534 hBq533; obtain ⟨hce1, hce2⟩ := EE.out _ hCq543.out)
            clear hce1 hce2
            have ltq548 : r < wq535.heap.size := hCq541.out.lt
            have ltq549 : M < wq535.heap.size := hCq542.lt
            have ltq550 : wr.heap.size < wq535.heap.size := hKq536.lt
            refine (cG r _ hCq541.out.row).mono ?_
            rintro e wq546 ⟨rfl, bq547⟩
            have hOq556 := Lib.hid (own_below hCq544.out bq547)
            have hCq551 := Lib.hid (hCq541.out.below bq547)
            have hCq552 := hCq542.below bq547 hCq542.lt
            have hCq553 := Lib.hid (hCq543.out.below bq547)
            have hCq554 := hKq536.below bq547 hKq536.lt
            have hBq555 := hBq545.trans (bq547.mono hBq545.size)
            clear hCq541 hCq542 hCq543 hKq536 hBq545
            clear hCq544
            clear bq547
            have hTK2 : ∀ z ∈ tk, z < 4294967296 := hTK.out
            have hL2 : (row tk).length ≤ 1 + 64 * (i + 1) := by have h2 := hL.out; omega
            have hN2 : tk.length ≤ i + 1 := by have := hN.out; omega
            have HTK2 := Lib.hid hTK2
            have HL2 := Lib.hid hL2
            have HN2 := Lib.hid hN2
            clear hTK2 hL2 hN2
            go_wp2_with ((with_reducible show wpList _ _ _ (⟨some 124, _, _, _, _, _⟩ :: _) _ _); refine wpList_load_mid rfl 54 (.tmp 9) rfl (M) 0 (by rfl) (rcells a B (.slice tao tk.length tc)) _ (blk_rangeP hCq552) Try.underlying54 rfl (by rw [rcells_len _ _ _ HA.out]; exact Try.sizeR6) ?_)
            have ltq559 : r < wq546.heap.size := hCq551.out.lt
            have ltq560 : M < wq546.heap.size := hCq552.lt
            have ltq561 : wr.heap.size < wq546.heap.size := hCq554.lt
            refine (c6 _ tk r _ HTK2.out (by have := HN2.out; omega) (IntsAt.own hOq556.out) (by have := HL2.out; omega) hCq551.out.row).mono ?_
            rintro e wq557 ⟨rfl, bq558⟩
            have hOq567 := Lib.hid (own_below hOq556.out bq558)
            have hCq562 := Lib.hid (hCq551.out.below bq558)
            have hCq563 := hCq552.below bq558 hCq552.lt
            have hCq564 := Lib.hid (hCq553.out.below bq558)
            have hCq565 := hCq554.below bq558 hCq554.lt
            have hBq566 := hBq555.trans (bq558.mono hBq555.size)
            clear hCq551 hCq552 hCq553 hCq554 hBq555
            clear hOq556
            clear bq558
            go_wp2_with fail
            have hM9 := Lib.hid hCq563
            have hB9 := Lib.hid hBq566
            go_roundw
            case rel => exact ⟨i + 1, tk, _, by omega, by go_num, hCq562, hM9, hOq567, hCq564, hB9, HTK2, HL2, HN2⟩
            case measure => simp [intOf]; omega
          exfalso; omega
      · have hw2 : withinT B x = false := by simpa using hw
        obtain ⟨cW, cL, cT, cG⟩ := plays_out a B tk x row HROW.out HA.out hB2 hx1 hx2 hlk hw2
        clear hw hw2
        by_cases hd0 : dm = 0
        · subst hd0
          have hM1 := hM.out
          have hB4 := hB3.out
          clear hM hB3
          go_wp2_with (first | ((with_reducible show wpList _ _ _ (⟨some 58, _, _, _, _, _⟩ :: _) _ _); refine wpList_buildCells rfl 23 #[] rfl ((zh32.map bv).toArray) (by kernel_rfl) ?_) | ((with_reducible show wpList _ _ _ (⟨some 13, _, _, _, _, _⟩ :: _) _ _); refine wpList_allocZ rfl 23 rfl _ Try.zeroHash ?_; intro wq568 hsq569 baq570 hNq571) | ((with_reducible show wpList _ _ _ (⟨none, Op.store _ (.tmp 13) _, _, _, _, _⟩ :: _) _ _); refine wpList_storeBlk rfl 23 (.tmp 13) (.tmp 58) rfl (wr.heap.size) ((zh32.map bv).toArray) (by rfl) (by rfl) _ _ hNq571 (by rw [bv_size, HZ.out]; exact Try.sizeHash) (by rw [bv_size, HZ.out, Z32_size]) (bv_all _) ?_; intro wq572 hKq573 gq574; have bbq575 := below_new baq570 gq574 (Nat.le_refl _) baq570.size; have ltq576 : r < wr.heap.size := hR.out.lt; have ltq577 : M < wr.heap.size := hM1.lt; have hOq582 := Lib.hid (own_below hO.out bbq575); have hCq578 := Lib.hid (hR.out.below bbq575); have hCq579 := hM1.below bbq575 hM1.lt; have hCq580 := Lib.hid (hE2.out.below bbq575); have hBq581 := hB4.trans (bbq575.mono hB4.size); clear hR hM1 hE2 hB4; clear hO; clear bbq575 baq570 hNq571 gq574 hsq569) | ((with_reducible show wpList _ _ _ (⟨some 59, _, _, _, _, _⟩ :: _) _ _); refine wpList_load_mid rfl 54 (.tmp 9) rfl (M) 0 (by rfl) (rcells a B (.slice tao tk.length tc)) _ (blk_rangeP hCq579) Try.underlying54 rfl (by rw [rcells_len _ _ _ HA.out]; exact Try.sizeR6) ?_))
          clear hce1 hce2
          have ltq585 : r < wq572.heap.size := hCq578.out.lt
          have ltq586 : M < wq572.heap.size := hCq579.lt
          have ltq587 : wr.heap.size < wq572.heap.size := hKq573.lt
          refine (cW _ _).mono ?_
          rintro e wq583 ⟨rfl, bq584⟩
          have hOq593 := Lib.hid (own_below hOq582.out bq584)
          have hCq588 := Lib.hid (hCq578.out.below bq584)
          have hCq589 := hCq579.below bq584 hCq579.lt
          have hCq590 := Lib.hid (hCq580.out.below bq584)
          have hCq591 := hKq573.below bq584 hKq573.lt
          have hBq592 := hBq581.trans (bq584.mono hBq581.size)
          clear hCq578 hCq579 hCq580 hKq573 hBq581
          clear hOq582
          clear bq584
          obtain ⟨hce1, hce2⟩ := EE.out _ hCq590.out
          go_wp2_with fail
          clear hce1 hce2
          have ltq596 : r < wq583.heap.size := hCq588.out.lt
          have ltq597 : M < wq583.heap.size := hCq589.lt
          have ltq598 : wr.heap.size < wq583.heap.size := hCq591.lt
          refine (cL r _ hCq588.out.row).mono ?_
          rintro e wq594 ⟨rfl, bq595⟩
          have hOq604 := Lib.hid (own_below hOq593.out bq595)
          have hCq599 := Lib.hid (hCq588.out.below bq595)
          have hCq600 := hCq589.below bq595 hCq589.lt
          have hCq601 := Lib.hid (hCq590.out.below bq595)
          have hCq602 := hCq591.below bq595 hCq591.lt
          have hBq603 := hBq592.trans (bq595.mono hBq592.size)
          clear hCq588 hCq589 hCq590 hCq591 hBq592
          clear hOq593
          clear bq595
          have hTK2 : ∀ z ∈ tk, z < 4294967296 := hTK.out
          have hL2 : (row tk).length ≤ 1 + 64 * (i + 1) := by have h2 := hL.out; omega
          have hN2 : tk.length ≤ i + 1 := by have := hN.out; omega
          have HTK2 := Lib.hid hTK2
          have HL2 := Lib.hid hL2
          have HN2 := Lib.hid hN2
          clear hTK2 hL2 hN2
          go_wp2_with (first | ((with_reducible show wpList _ _ _ (⟨some 14, _, _, _, _, _⟩ :: _) _ _); refine wpList_allocZ rfl 23 rfl _ Try.zeroHash ?_; intro wq605 hsq606 baq607 hNq608) | ((with_reducible show wpList _ _ _ (⟨none, Op.store _ (.tmp 14) _, _, _, _, _⟩ :: _) _ _); refine wpList_storeBlk rfl 23 (.tmp 14) (.tmp 81) rfl (wq594.heap.size) ((zh32.map bv).toArray) (by rfl) (by rfl) _ _ hNq608 (by rw [bv_size, HZ.out]; exact Try.sizeHash) (by rw [bv_size, HZ.out, Z32_size]) (bv_all _) ?_; intro wq609 hKq610 gq611; have bbq612 := below_new baq607 gq611 (Nat.le_refl _) baq607.size; have ltq613 : r < wq594.heap.size := hCq599.out.lt; have ltq614 : M < wq594.heap.size := hCq600.lt; have ltq615 : wr.heap.size < wq594.heap.size := hCq602.lt; have hOq621 := Lib.hid (own_below hOq604.out bbq612); have hCq616 := Lib.hid (hCq599.out.below bbq612); have hCq617 := hCq600.below bbq612 hCq600.lt; have hCq618 := Lib.hid (hCq601.out.below bbq612); have hCq619 := hCq602.below bbq612 hCq602.lt; have hBq620 := hBq603.trans (bbq612.mono hBq603.size); clear hCq599 hCq600 hCq601 hCq602 hBq603; clear hOq604; clear bbq612 baq607 hNq608 gq611 hsq606) | ((with_reducible show wpList _ _ _ (⟨some 87, _, _, _, _, _⟩ :: _) _ _); refine wpList_if (by rfl) (wp_load_mid 23 (.tmp 14) rfl (wq594.heap.size) 0 (by rfl) (zh32.map bv) _ (blk_rangeP hKq610) Try.underlying23 rfl (by rw [List.length_map, HZ.out]; exact Try.sizeHash) ?_)) | ((with_reducible show wpList _ _ _ (⟨some 88, _, _, _, _, _⟩ :: _) _ _); refine wpList_if (by rfl) (wp_load_mid 23 (.tmp 13) rfl (wr.heap.size) 0 (by rfl) (zh32.map bv) _ (blk_rangeP hCq619) Try.underlying23 rfl (by rw [List.length_map, HZ.out]; exact Try.sizeHash) ?_)) | ((with_reducible show wpList _ _ _ (⟨some 124, _, _, _, _, _⟩ :: _) _ _); refine wpList_load_mid rfl 54 (.tmp 9) rfl (M) 0 (by rfl) (rcells a B (.slice tao tk.length tc)) _ (blk_rangeP hCq617) Try.underlying54 rfl (by rw [rcells_len _ _ _ HA.out]; exact Try.sizeR6) ?_))
          have ltq624 : r < wq609.heap.size := hCq616.out.lt
          have ltq625 : M < wq609.heap.size := hCq617.lt
          have ltq626 : wr.heap.size < wq609.heap.size := hCq619.lt
          have ltq627 : wq594.heap.size < wq609.heap.size := hKq610.lt
          refine (c6 _ tk r _ HTK2.out (by have := HN2.out; omega) (IntsAt.own hOq621.out) (by have := HL2.out; omega) hCq616.out.row).mono ?_
          rintro e wq622 ⟨rfl, bq623⟩
          have hOq634 := Lib.hid (own_below hOq621.out bq623)
          have hCq628 := Lib.hid (hCq616.out.below bq623)
          have hCq629 := hCq617.below bq623 hCq617.lt
          have hCq630 := Lib.hid (hCq618.out.below bq623)
          have hCq631 := hCq619.below bq623 hCq619.lt
          have hCq632 := hKq610.below bq623 hKq610.lt
          have hBq633 := hBq620.trans (bq623.mono hBq620.size)
          clear hCq616 hCq617 hCq618 hCq619 hKq610 hBq620
          clear hOq621
          clear bq623
          go_wp2_with fail
          have hM9 := Lib.hid hCq629
          have hB9 := Lib.hid hBq633
          go_roundw
          case rel => exact ⟨i + 1, tk, _, by omega, by go_num, hCq628, hM9, hOq634, hCq630, hB9, HTK2, HL2, HN2⟩
          case measure => simp [intOf]; omega
        by_cases hd1 : dm = 1
        · subst hd1
          have hM1 := hM.out
          have hB4 := hB3.out
          clear hM hB3
          go_wp2_with (first | ((with_reducible show wpList _ _ _ (⟨some 58, _, _, _, _, _⟩ :: _) _ _); refine wpList_buildCells rfl 23 #[] rfl ((zh32.map bv).toArray) (by kernel_rfl) ?_) | ((with_reducible show wpList _ _ _ (⟨some 13, _, _, _, _, _⟩ :: _) _ _); refine wpList_allocZ rfl 23 rfl _ Try.zeroHash ?_; intro wq635 hsq636 baq637 hNq638) | ((with_reducible show wpList _ _ _ (⟨none, Op.store _ (.tmp 13) _, _, _, _, _⟩ :: _) _ _); refine wpList_storeBlk rfl 23 (.tmp 13) (.tmp 58) rfl (wr.heap.size) ((zh32.map bv).toArray) (by rfl) (by rfl) _ _ hNq638 (by rw [bv_size, HZ.out]; exact Try.sizeHash) (by rw [bv_size, HZ.out, Z32_size]) (bv_all _) ?_; intro wq639 hKq640 gq641; have bbq642 := below_new baq637 gq641 (Nat.le_refl _) baq637.size; have ltq643 : r < wr.heap.size := hR.out.lt; have ltq644 : M < wr.heap.size := hM1.lt; have hOq649 := Lib.hid (own_below hO.out bbq642); have hCq645 := Lib.hid (hR.out.below bbq642); have hCq646 := hM1.below bbq642 hM1.lt; have hCq647 := Lib.hid (hE2.out.below bbq642); have hBq648 := hB4.trans (bbq642.mono hB4.size); clear hR hM1 hE2 hB4; clear hO; clear bbq642 baq637 hNq638 gq641 hsq636) | ((with_reducible show wpList _ _ _ (⟨some 59, _, _, _, _, _⟩ :: _) _ _); refine wpList_load_mid rfl 54 (.tmp 9) rfl (M) 0 (by rfl) (rcells a B (.slice tao tk.length tc)) _ (blk_rangeP hCq646) Try.underlying54 rfl (by rw [rcells_len _ _ _ HA.out]; exact Try.sizeR6) ?_))
          clear hce1 hce2
          have ltq652 : r < wq639.heap.size := hCq645.out.lt
          have ltq653 : M < wq639.heap.size := hCq646.lt
          have ltq654 : wr.heap.size < wq639.heap.size := hKq640.lt
          refine (cW _ _).mono ?_
          rintro e wq650 ⟨rfl, bq651⟩
          have hOq660 := Lib.hid (own_below hOq649.out bq651)
          have hCq655 := Lib.hid (hCq645.out.below bq651)
          have hCq656 := hCq646.below bq651 hCq646.lt
          have hCq657 := Lib.hid (hCq647.out.below bq651)
          have hCq658 := hKq640.below bq651 hKq640.lt
          have hBq659 := hBq648.trans (bq651.mono hBq648.size)
          clear hCq645 hCq646 hCq647 hKq640 hBq648
          clear hOq649
          clear bq651
          obtain ⟨hce1, hce2⟩ := EE.out _ hCq657.out
          go_wp2_with fail
          clear hce1 hce2
          have ltq665 : r < wq650.heap.size := hCq655.out.lt
          have ltq666 : M < wq650.heap.size := hCq656.lt
          have ltq667 : wr.heap.size < wq650.heap.size := hCq658.lt
          refine (cT r _ hCq655.out.row).mono ?_
          rintro e wq661 ⟨rfl, hRq662, gq663, mvq664⟩
          have hCq668 := Lib.hid (hCq655.out.take hRq662 mvq664 (fun q hq => (own_lt hOq660.out q hq).2))
          have hCq669 := Lib.hid (hOq660.out.kept gq663 (.inr (own_ne hOq660.out hCq655.out.row.slot.choose_spec (by decide))))
          have hCq670 := Lib.hid (HE.out.grownR hCq657.out gq663 hrw)
          have hCq671 := hCq656.grown gq663 (by simp; omega)
          have hCq672 := hCq658.grown gq663 (by simp; omega)
          have hBq673 := hBq659.grown gq663 hBq659.size (fun q e => by cases e; exact hrw)
          clear hRq662 gq663 mvq664 hCq655 hOq660 hCq657 hCq656 hCq658 hBq659
          have hTK2 : ∀ z ∈ tk, z < 4294967296 := hTK.out
          have hL2 : (row tk).length ≤ 1 + 64 * (i + 1) := by have h2 := hL.out; omega
          have hN2 : tk.length ≤ i + 1 := by have := hN.out; omega
          have HTK2 := Lib.hid hTK2
          have HL2 := Lib.hid hL2
          have HN2 := Lib.hid hN2
          clear hTK2 hL2 hN2
          go_wp2_with (first | ((with_reducible show wpList _ _ _ (⟨some 16, _, _, _, _, _⟩ :: _) _ _); refine wpList_allocZ rfl 23 rfl _ Try.zeroHash ?_; intro wq674 hsq675 baq676 hNq677) | ((with_reducible show wpList _ _ _ (⟨none, Op.store _ (.tmp 16) _, _, _, _, _⟩ :: _) _ _); refine wpList_storeBlk rfl 23 (.tmp 16) (.tmp 97) rfl (wq661.heap.size) ((zh32.map bv).toArray) (by rfl) (by rfl) _ _ hNq677 (by rw [bv_size, HZ.out]; exact Try.sizeHash) (by rw [bv_size, HZ.out, Z32_size]) (bv_all _) ?_; intro wq678 hKq679 gq680; have bbq681 := below_new baq676 gq680 (Nat.le_refl _) baq676.size; have ltq682 : r < wq661.heap.size := hCq668.out.lt; have ltq683 : M < wq661.heap.size := hCq671.lt; have ltq684 : wr.heap.size < wq661.heap.size := hCq672.lt; have hOq690 := Lib.hid (own_below hCq669.out bbq681); have hCq685 := Lib.hid (hCq668.out.below bbq681); have hCq686 := hCq671.below bbq681 hCq671.lt; have hCq687 := Lib.hid (hCq670.out.below bbq681); have hCq688 := hCq672.below bbq681 hCq672.lt; have hBq689 := hBq673.trans (bbq681.mono hBq673.size); clear hCq668 hCq671 hCq670 hCq672 hBq673; clear hCq669; clear bbq681 baq676 hNq677 gq680 hsq675) | ((with_reducible show wpList _ _ _ (⟨some 103, _, _, _, _, _⟩ :: _) _ _); refine wpList_if (by rfl) (wp_load_mid 23 (.tmp 16) rfl (wq661.heap.size) 0 (by rfl) (zh32.map bv) _ (blk_rangeP hKq679) Try.underlying23 rfl (by rw [List.length_map, HZ.out]; exact Try.sizeHash) ?_)) | ((with_reducible show wpList _ _ _ (⟨some 104, _, _, _, _, _⟩ :: _) _ _); refine wpList_if (by rfl) (wp_load_mid 23 (.tmp 13) rfl (wr.heap.size) 0 (by rfl) (zh32.map bv) _ (blk_rangeP hCq688) Try.underlying23 rfl (by rw [List.length_map, HZ.out]; exact Try.sizeHash) ?_)) | ((with_reducible show wpList _ _ _ (⟨some 124, _, _, _, _, _⟩ :: _) _ _); refine wpList_load_mid rfl 54 (.tmp 9) rfl (M) 0 (by rfl) (rcells a B (.slice tao tk.length tc)) _ (blk_rangeP hCq686) Try.underlying54 rfl (by rw [rcells_len _ _ _ HA.out]; exact Try.sizeR6) ?_))
          have ltq693 : r < wq678.heap.size := hCq685.out.lt
          have ltq694 : M < wq678.heap.size := hCq686.lt
          have ltq695 : wr.heap.size < wq678.heap.size := hCq688.lt
          have ltq696 : wq661.heap.size < wq678.heap.size := hKq679.lt
          refine (c6 _ tk r _ HTK2.out (by have := HN2.out; omega) (IntsAt.own hOq690.out) (by have := HL2.out; omega) hCq685.out.row).mono ?_
          rintro e wq691 ⟨rfl, bq692⟩
          have hOq703 := Lib.hid (own_below hOq690.out bq692)
          have hCq697 := Lib.hid (hCq685.out.below bq692)
          have hCq698 := hCq686.below bq692 hCq686.lt
          have hCq699 := Lib.hid (hCq687.out.below bq692)
          have hCq700 := hCq688.below bq692 hCq688.lt
          have hCq701 := hKq679.below bq692 hKq679.lt
          have hBq702 := hBq689.trans (bq692.mono hBq689.size)
          clear hCq685 hCq686 hCq687 hCq688 hKq679 hBq689
          clear hOq690
          clear bq692
          go_wp2_with fail
          have hM9 := Lib.hid hCq698
          have hB9 := Lib.hid hBq702
          go_roundw
          case rel => exact ⟨i + 1, tk, _, by omega, by go_num, hCq697, hM9, hOq703, hCq699, hB9, HTK2, HL2, HN2⟩
          case measure => simp [intOf]; omega
        by_cases hd2 : dm = 2
        · subst hd2
          have hM1 := hM.out
          have hB4 := hB3.out
          clear hM hB3
          go_wp2_with (first | ((with_reducible show wpList _ _ _ (⟨some 58, _, _, _, _, _⟩ :: _) _ _); refine wpList_buildCells rfl 23 #[] rfl ((zh32.map bv).toArray) (by kernel_rfl) ?_) | ((with_reducible show wpList _ _ _ (⟨some 13, _, _, _, _, _⟩ :: _) _ _); refine wpList_allocZ rfl 23 rfl _ Try.zeroHash ?_; intro wq704 hsq705 baq706 hNq707) | ((with_reducible show wpList _ _ _ (⟨none, Op.store _ (.tmp 13) _, _, _, _, _⟩ :: _) _ _); refine wpList_storeBlk rfl 23 (.tmp 13) (.tmp 58) rfl (wr.heap.size) ((zh32.map bv).toArray) (by rfl) (by rfl) _ _ hNq707 (by rw [bv_size, HZ.out]; exact Try.sizeHash) (by rw [bv_size, HZ.out, Z32_size]) (bv_all _) ?_; intro wq708 hKq709 gq710; have bbq711 := below_new baq706 gq710 (Nat.le_refl _) baq706.size; have ltq712 : r < wr.heap.size := hR.out.lt; have ltq713 : M < wr.heap.size := hM1.lt; have hOq718 := Lib.hid (own_below hO.out bbq711); have hCq714 := Lib.hid (hR.out.below bbq711); have hCq715 := hM1.below bbq711 hM1.lt; have hCq716 := Lib.hid (hE2.out.below bbq711); have hBq717 := hB4.trans (bbq711.mono hB4.size); clear hR hM1 hE2 hB4; clear hO; clear bbq711 baq706 hNq707 gq710 hsq705) | ((with_reducible show wpList _ _ _ (⟨some 59, _, _, _, _, _⟩ :: _) _ _); refine wpList_load_mid rfl 54 (.tmp 9) rfl (M) 0 (by rfl) (rcells a B (.slice tao tk.length tc)) _ (blk_rangeP hCq715) Try.underlying54 rfl (by rw [rcells_len _ _ _ HA.out]; exact Try.sizeR6) ?_))
          clear hce1 hce2
          have ltq721 : r < wq708.heap.size := hCq714.out.lt
          have ltq722 : M < wq708.heap.size := hCq715.lt
          have ltq723 : wr.heap.size < wq708.heap.size := hKq709.lt
          refine (cW _ _).mono ?_
          rintro e wq719 ⟨rfl, bq720⟩
          have hOq729 := Lib.hid (own_below hOq718.out bq720)
          have hCq724 := Lib.hid (hCq714.out.below bq720)
          have hCq725 := hCq715.below bq720 hCq715.lt
          have hCq726 := Lib.hid (hCq716.out.below bq720)
          have hCq727 := hKq709.below bq720 hKq709.lt
          have hBq728 := hBq717.trans (bq720.mono hBq717.size)
          clear hCq714 hCq715 hCq716 hKq709 hBq717
          clear hOq718
          clear bq720
          obtain ⟨hce1, hce2⟩ := EE.out _ hCq726.out
          go_wp2_with fail
          clear hce1 hce2
          have ltq732 : r < wq719.heap.size := hCq724.out.lt
          have ltq733 : M < wq719.heap.size := hCq725.lt
          have ltq734 : wr.heap.size < wq719.heap.size := hCq727.lt
          refine (cG r _ hCq724.out.row).mono ?_
          rintro e wq730 ⟨rfl, bq731⟩
          have hOq740 := Lib.hid (own_below hOq729.out bq731)
          have hCq735 := Lib.hid (hCq724.out.below bq731)
          have hCq736 := hCq725.below bq731 hCq725.lt
          have hCq737 := Lib.hid (hCq726.out.below bq731)
          have hCq738 := hCq727.below bq731 hCq727.lt
          have hBq739 := hBq728.trans (bq731.mono hBq728.size)
          clear hCq724 hCq725 hCq726 hCq727 hBq728
          clear hOq729
          clear bq731
          have hTK2 : ∀ z ∈ tk, z < 4294967296 := hTK.out
          have hL2 : (row tk).length ≤ 1 + 64 * (i + 1) := by have h2 := hL.out; omega
          have hN2 : tk.length ≤ i + 1 := by have := hN.out; omega
          have HTK2 := Lib.hid hTK2
          have HL2 := Lib.hid hL2
          have HN2 := Lib.hid hN2
          clear hTK2 hL2 hN2
          go_wp2_with ((with_reducible show wpList _ _ _ (⟨some 124, _, _, _, _, _⟩ :: _) _ _); refine wpList_load_mid rfl 54 (.tmp 9) rfl (M) 0 (by rfl) (rcells a B (.slice tao tk.length tc)) _ (blk_rangeP hCq736) Try.underlying54 rfl (by rw [rcells_len _ _ _ HA.out]; exact Try.sizeR6) ?_)
          have ltq743 : r < wq730.heap.size := hCq735.out.lt
          have ltq744 : M < wq730.heap.size := hCq736.lt
          have ltq745 : wr.heap.size < wq730.heap.size := hCq738.lt
          refine (c6 _ tk r _ HTK2.out (by have := HN2.out; omega) (IntsAt.own hOq740.out) (by have := HL2.out; omega) hCq735.out.row).mono ?_
          rintro e wq741 ⟨rfl, bq742⟩
          have hOq751 := Lib.hid (own_below hOq740.out bq742)
          have hCq746 := Lib.hid (hCq735.out.below bq742)
          have hCq747 := hCq736.below bq742 hCq736.lt
          have hCq748 := Lib.hid (hCq737.out.below bq742)
          have hCq749 := hCq738.below bq742 hCq738.lt
          have hBq750 := hBq739.trans (bq742.mono hBq739.size)
          clear hCq735 hCq736 hCq737 hCq738 hBq739
          clear hOq740
          clear bq742
          go_wp2_with fail
          have hM9 := Lib.hid hCq747
          have hB9 := Lib.hid hBq750
          go_roundw
          case rel => exact ⟨i + 1, tk, _, by omega, by go_num, hCq746, hM9, hOq751, hCq748, hB9, HTK2, HL2, HN2⟩
          case measure => simp [intOf]; omega
        exfalso; omega
    · have hlen : i = len := by omega
      have hB4 := hB3.out
      clear hB3
      go_wp2_with fail
      go_returns
      exact ⟨rfl, hB4⟩
end Go.Proofs.Ytnfegmcdljejnaa
