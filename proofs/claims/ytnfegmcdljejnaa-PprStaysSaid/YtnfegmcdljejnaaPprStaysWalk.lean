/-
  PprStays: taking a place changes no key of another one that is not gone, and copies know nothing of one another.
-/
import Derived.Test.YtnfegmcdljejnaaPprLaw2
import Derived.Test.YtnfegmcdljejnaaPprCopy
import Derived.Test.YtnfegmcdljejnaaPprAwake
set_option linter.unusedSimpArgs false
set_option linter.unusedVariables false
namespace Go.Proofs.Ytnfegmcdljejnaa
open Go.RowKit

/-- Whether a place was taken. -/
def GoneIs (g : Bool) (q : Nat) (tk : List Nat) : Prop := g = true ↔ q ∈ tk
set_option maxHeartbeats 4000000 in
set_option maxRecDepth 100000 in
theorem walkPprStays {H : Type} {enc : TypeId × Value → H} {w : World} {base : Nat} {spare : Nat → Bool} {held : Bool} {R : Reach} {b0 : Nat} {d : DataW H} {pl : List MemPlace} (a : List UInt8) (ha : a.length = 32) (b : Int) (hwb : (Lit.int .u8 b).wf = true) (v : Value)
    (hv : Value.okWide Try.prog w R b0 40 v) (hd : DataW.Trod enc Try.prog w base spare held 40 v d pl) (p : Int) (hwp : (Lit.int .i64 p).wf = true) :
    Calls Try.prog 7 #[.agg (a.map bv).toArray, .int .u8 b, v, .int .i64 p] w fun e w' => e = .returned (.bool true) ∧ Below w.heap.size w w' := by
  obtain ⟨ao, len, cap, xs, rfl, hm, hT, hxs⟩ := open_ints Try.underlying40 hv hd
  clear hv hd
  unfold maxLen at hm
  have HA := Lib.hid ha
  obtain ⟨hp1, hp2⟩ := bounds_i64 hwp
  obtain ⟨hq1, hq2⟩ := bounds_u8 hwb
  clear hwp hwb
  have hA0 : Blk (w.alloc (.cells (a.map bv).toArray 23)) w.heap.size (a.map bv).toArray 23 := Blk.new _ _ _
  have hb0 : Below w.heap.size w (w.alloc (.cells (a.map bv).toArray 23)) := below_alloc1 _ _
  have HT := Lib.hid hT
  have HT0 := Lib.hid (hT.below hb0)
  have HXS := Lib.hid hxs
  clear hT hxs
  by_cases h24 : 24 < len
  · clear ha
    go_enter Try.func7, Try.ntmps7
    go_wp2_with fail
    generalize w.alloc (.cells (a.map bv).toArray 23) = W0 at hA0 hb0 HT0 ⊢
    have ltq3 : w.heap.size < W0.heap.size := hA0.lt
    refine (awake6_calls _).mono ?_
    rintro e wq1 ⟨rfl, bq2⟩
    have hCq4 := hA0.below bq2 hA0.lt
    have hCq5 := Lib.hid (HT0.out.below bq2)
    have hBq6 := hb0.trans (bq2.mono hb0.size)
    clear hA0 HT0 hb0
    clear bq2
    go_wp2_with fail
    have ltq9 : w.heap.size < wq1.heap.size := hCq4.lt
    refine (awake6_calls _).mono ?_
    rintro e wq7 ⟨rfl, bq8⟩
    have hCq10 := hCq4.below bq8 hCq4.lt
    have hCq11 := Lib.hid (hCq5.out.below bq8)
    have hBq12 := hBq6.trans (bq8.mono hBq6.size)
    clear hCq4 hCq5 hBq6
    clear bq8
    go_wp2_with fail
    go_returns
    exact ⟨rfl, hBq12⟩
  obtain ⟨B, hB⟩ : ∃ B : Nat, 1 + b % 32 = (B : Int) := ⟨(1 + b % 32).toNat, by omega⟩
  have hB1 : 1 ≤ B := by omega
  have hB2 : B ≤ 32 := by omega
  obtain ⟨P, hP⟩ : ∃ P : Nat, P = 2 ^ B := ⟨_, rfl⟩
  have hP1 : 1 ≤ P := by rw [hP]; exact Nat.one_le_two_pow
  have hP2 : P ≤ 4294967296 := by rw [hP]; exact Nat.pow_le_pow_right (n := 2) (by omega) hB2
  have hsh : IntKind.u64.wrap ((2 : Int) ^ B) = (P : Int) := by rw [hP]; exact shl1 B hB2
  obtain ⟨u, hu, hu2⟩ := u64_nat p
  obtain ⟨q, hq⟩ : ∃ q : Nat, q = u % P := ⟨_, rfl⟩
  have hqP : q < P := by rw [hq]; exact Nat.mod_lt _ hP1
  have hmod : (u : Int) % (P : Int) = (q : Int) := by rw [hq]; simp
  have hrn := row_new a B ha
  have hq64 : q < 4294967296 := by omega
  have hwi : withinT B (q : Int) = true := by rw [withinT, ← hP]; exact decide_eq_true ⟨by omega, by omega⟩
  have hmem := fun tk => row_mem (B := B) (tk := tk) ha
  obtain ⟨k, hk⟩ : ∃ k, k = keyT (atD q B a) := ⟨_, rfl⟩
  have HK : Hid (k.length = 32) := by show _ = _; rw [hk]; exact keyT_len _
  obtain ⟨row, hrow⟩ : ∃ f : List Nat → List Sd, f = rowT a B := ⟨_, rfl⟩
  have hok : ∀ tk, (row tk).length ≤ 1000000 → RowOk B (row tk) := fun tk hl => ⟨fun s hs => ⟨(hmem tk s (by rw [← hrow]; exact hs)).1, (hmem tk s (by rw [← hrow]; exact hs)).2.1⟩, hl⟩
  have hl0 : (row []).length = 1 := by rw [hrow, hrn]; rfl
  -- the row behind a look, a taking
  have c1 : ∀ r y tk, q ∉ tk → (row tk).length ≤ 1000000 → RowAt y r B (row tk) → Calls Try.prog 36 #[.pointer (some ⟨r, 0, none⟩), .pointer none, .int .i64 q] y fun e w' => e = .returned (.tuple #[.agg (k.map bv).toArray, .int .i64 0]) ∧ Below y.heap.size y w' := fun r y tk ht hl hy => by
    have := Look_calls r B q _ y hy hB2 (hok tk hl) (by omega) (by omega)
    obtain ⟨-, e2, -⟩ := row_take a B q tk hwi ht
    rw [hrow, e2] at this
    rw [show (q : Int).toNat = q from rfl, ← hk] at this
    exact this
  have c2 : ∀ r y tk, q ∈ tk → (row tk).length ≤ 1000000 → RowAt y r B (row tk) → Calls Try.prog 36 #[.pointer (some ⟨r, 0, none⟩), .pointer none, .int .i64 q] y fun e w' => e = .returned (.tuple #[.agg (zh32.map bv).toArray, .int .i64 10]) ∧ Below y.heap.size y w' := fun r y tk ht hl hy => by
    have := Look_calls r B q _ y hy hB2 (hok tk hl) (by omega) (by omega)
    obtain ⟨-, e2, -⟩ := row_gone a B q tk hwi ht
    rw [hrow, e2] at this
    exact this
  have c3 : ∀ r y tk (x : Int), (∀ z ∈ tk, z < P) → -9223372036854775808 ≤ x → x ≤ 9223372036854775807 → (row tk).length ≤ 1000000 → RowAt y r B (row tk) → ∃ (kk : List UInt8) (ee : Int) (tk' : List Nat), (q ∈ tk' ↔ q ∈ tk ∨ (q : Int) = x) ∧ (row tk').length ≤ (row tk).length + 64 ∧ (∀ z ∈ tk', z < P) ∧
      Calls Try.prog 38 #[.pointer (some ⟨r, 0, none⟩), .pointer none, .int .i64 x] y fun e w' => e = .returned (.tuple #[.agg (kk.map bv).toArray, .int .i64 ee]) ∧ RowAt w' r B (row tk') ∧ y.grownBy w' (some r) := fun r y tk x htk hx1 hx2 hl hy => by
    obtain ⟨tk', e1, e2, e3, e4, _⟩ := row_step a B tk (by rw [← hP]; exact htk) x
    refine ⟨(lookT B x (row tk)).1, (lookT B x (row tk)).2, tk', e2 q (by rw [← hP]; exact hqP), by rw [hrow]; omega, by rw [hP]; exact e4, ?_⟩
    have := Take_calls r B x _ y hy hB2 (hok tk hl) hx1 hx2
    rw [hrow] at this ⊢
    rw [e1] at this
    exact this
  have c4 : ∀ (g : Bool) r y tk, GoneIs g q tk → (row tk).length ≤ 1000000 → RowAt y r B (row tk) → Calls Try.prog 40 #[.pointer (some ⟨r, 0, none⟩), .int .i64 q] y fun e w' => e = .returned (.bool g) ∧ Below y.heap.size y w' := fun g r y tk hg hl hy => by
    have := Gone_calls r B q _ y hy hB2 (fun s hs => ((hok tk hl).1 s hs).1) hl (by omega) (by omega)
    have e : goneT B q (row tk) = g := by
      rw [hrow]
      by_cases ht : q ∈ tk
      · rw [(row_gone a B q tk hwi ht).2.2, hg.2 ht]
      · rw [(row_take a B q tk hwi ht).2.2]
        cases g with
        | true => exact absurd (hg.1 rfl) ht
        | false => rfl
    rw [e] at this
    exact this
  have c5 : ∀ y, Calls Try.prog 35 #[.agg (a.map bv).toArray, .int .i64 B] y fun e w' => ∃ r, e = .returned (.tuple #[.pointer (some ⟨r, 0, none⟩), .int .i64 0]) ∧ y.heap.size ≤ r ∧ RowAt w' r B (row []) ∧ Below y.heap.size y w' := fun y => by
    rw [hrow, hrn]; exact New6_calls a B y ha hB1 hB2
  have hqe : ∀ x, (Op.equalIn 10000 23 (.agg (k.map bv).toArray) (.agg (k.map bv).toArray)).run Try.prog x = .ok true x := fun x => by rw [run_eq_hash x _ _ HK.out HK.out, beq_self_eq_true]
  clear hq hP hrn hwi hmem hk hrow hok ha hqP
  go_enter Try.func7, Try.ntmps7
  go_wp2_with fail
  generalize w.alloc (.cells (a.map bv).toArray 23) = W0 at hA0 hb0 HT0 ⊢
  have ltq15 : w.heap.size < W0.heap.size := hA0.lt
  refine (awake6_calls _).mono ?_
  rintro e wq13 ⟨rfl, bq14⟩
  have hCq16 := hA0.below bq14 hA0.lt
  have hCq17 := Lib.hid (HT0.out.below bq14)
  have hBq18 := hb0.trans (bq14.mono hb0.size)
  clear hA0 HT0 hb0
  clear bq14
  go_wp2_with ((with_reducible show wpList _ _ _ (⟨some 41, _, _, _, _, _⟩ :: _) _ _); refine wpList_load_mid rfl 23 (.tmp 4) rfl (w.heap.size) 0 (by rfl) (a.map bv) _ (blk_rangeP hCq16) Try.underlying23 rfl (by rw [List.length_map, HA.out]; exact Try.sizeHash) ?_)
  have ltq21 : w.heap.size < wq13.heap.size := hCq16.lt
  refine (c5 _).mono ?_
  rintro e wq19 ⟨r, rfl, hr, hR1, bq20⟩
  have hCq22 := hCq16.below bq20 hCq16.lt
  have hCq23 := Lib.hid (hCq17.out.below bq20)
  have hBq24 := hBq18.trans (bq20.mono hBq18.size)
  clear hCq16 hCq17 hBq18
  clear bq20
  have hHq25 := Lib.hid hR1
  clear hR1
  go_wp2_with fail
  have ltq28 : w.heap.size < wq19.heap.size := hCq22.lt
  have ltq29 : r < wq19.heap.size := hHq25.out.lt
  refine (c1 r _ [] (by simp) (by omega) hHq25.out).mono ?_
  rintro e wq26 ⟨rfl, bq27⟩
  have hCq30 := hCq22.below bq27 hCq22.lt
  have hCq31 := Lib.hid (hCq23.out.below bq27)
  have hCq32 := Lib.hid (hHq25.out.below bq27)
  have hBq33 := hBq24.trans (bq27.mono hBq24.size)
  clear hCq22 hCq23 hHq25 hBq24
  clear bq27
  go_wp2_with (first | ((with_reducible show wpList _ _ _ (⟨some 13, _, _, _, _, _⟩ :: _) _ _); refine wpList_allocZ rfl 23 rfl _ Try.zeroHash ?_; intro wq34 hsq35 baq36 hNq37) | ((with_reducible show wpList _ _ _ (⟨none, Op.store _ (.tmp 13) _, _, _, _, _⟩ :: _) _ _); refine wpList_storeBlk rfl 23 (.tmp 13) (.tmp 50) rfl (wq26.heap.size) ((k.map bv).toArray) (by rfl) (by rfl) _ _ hNq37 (by rw [bv_size, HK.out]; exact Try.sizeHash) (by rw [bv_size, HK.out, Z32_size]) (bv_all _) ?_; intro wq38 hKq39 gq40; have bbq41 := below_new baq36 gq40 (Nat.le_refl _) baq36.size; have ltq42 : w.heap.size < wq26.heap.size := hCq30.lt; have ltq43 : r < wq26.heap.size := hCq32.out.lt; have hCq44 := hCq30.below bbq41 hCq30.lt; have hCq45 := Lib.hid (hCq31.out.below bbq41); have hCq46 := Lib.hid (hCq32.out.below bbq41); have hBq47 := hBq33.trans (bbq41.mono hBq33.size); clear hCq30 hCq31 hCq32 hBq33; clear bbq41 baq36 hNq37 gq40 hsq35))
  have ltq50 : w.heap.size < wq38.heap.size := hCq44.lt
  have ltq51 : r < wq38.heap.size := hCq46.out.lt
  have ltq52 : wq26.heap.size < wq38.heap.size := hKq39.lt
  refine (Copy_calls r B _ _ hCq46.out (by omega)).mono ?_
  rintro e wq48 ⟨r2, rfl, hr2, hC, bq49⟩
  have hCq53 := hCq44.below bq49 hCq44.lt
  have hCq54 := Lib.hid (hCq45.out.below bq49)
  have hCq55 := Lib.hid (hCq46.out.below bq49)
  have hCq56 := hKq39.below bq49 hKq39.lt
  have hBq57 := hBq47.trans (bq49.mono hBq47.size)
  clear hCq44 hCq45 hCq46 hKq39 hBq47
  clear bq49
  have hHq58 := Lib.hid hC
  clear hC
  have ltq59 : w.heap.size < wq48.heap.size := hCq53.lt
  have ltq60 : r < wq48.heap.size := hCq55.out.lt
  have ltq61 : wq26.heap.size < wq48.heap.size := hCq56.lt
  have ltq62 : r2 < wq48.heap.size := hHq58.out.lt
  go_wp2_with fail
  have HRR := hCq55
  have HCC := hHq58
  have HKK := Lib.hid hCq56
  have HTT := hCq54
  have HBB := Lib.hid hBq57
  clear hCq55 hHq58 hCq56 hCq54 hBq57 hCq53
  obtain ⟨KA, hKA⟩ : ∃ n, n = wq26.heap.size := ⟨_, rfl⟩
  rw [← hKA] at HKK ⊢
  have hKr : r < KA := by omega
  have hKr2 : KA < r2 := by omega
  have hrw : w.heap.size ≤ r := by omega
  clear hKA
  go_loopw [16, 17] (fun x j wr => ∃ (i : Nat) (g : Bool) (tk : List Nat), i ≤ len ∧ x = .bool g ∧ j = .int .i64 i ∧ Hid (RowAt wr r B (row tk)) ∧ Hid (RowAt wr r2 B (row [])) ∧ Hid (Blk wr KA (k.map bv).toArray 23) ∧ Hid (ArgInts wr ao len xs) ∧ Hid (Below w.heap.size w wr) ∧ Hid (∀ y ∈ tk, y < P) ∧ Hid (GoneIs g q tk) ∧ Hid ((row tk).length ≤ 1 + 64 * i)) (fun _ j _ => len - (intOf j).toNat)
  case atStart => exact ⟨0, false, [], by omega, rfl, rfl, HRR, HCC, HKK, HTT, HBB, Lib.hid (by simp), Lib.hid (by simp [GoneIs]), Lib.hid (by omega)⟩
  case round =>
    obtain ⟨i, g, tk, hi, rfl, rfl, hR, hC2, hK2, hT2, hB3, hTK, hG, hL⟩ := hrel
    clear HRR HCC HKK HTT HBB
    by_cases hlt : i < len
    · obtain ⟨bb, off, x, rfl, hx, hrg⟩ := hT2.out.at i hlt
      obtain ⟨hx1, hx2⟩ := HXS.out x (List.mem_of_getElem? hx)
      have hce : wr.cell? ⟨bb, off + i, none⟩ = some (.int .i64 x) := by have := hrg 0 _ rfl; simpa using this
      obtain ⟨kk, ee, tk', e1, e2, e3, cT⟩ := c3 r wr tk x hTK.out hx1 hx2 (by have := hL.out; omega) hR.out
      have HX := Lib.hid hx
      have E1 := Lib.hid e1
      have E2 := Lib.hid e2
      have E3 := Lib.hid e3
      clear hx e1 e2 e3 hrg
      go_wp2_with fail
      refine cT.mono ?_
      rintro e w5 ⟨rfl, hR5, g5⟩
      have hR6 := Lib.hid hR5
      have hC6 := Lib.hid (hC2.out.otherRow g5 hR.out (by omega))
      have hK6 := Lib.hid (hK2.out.grown g5 (by simp; omega))
      have hT6 := Lib.hid (HT.out.grownR hT2.out g5 hrw)
      have hB6 := Lib.hid (hB3.out.grown g5 hB3.out.size (fun z e => by cases e; exact hrw))
      have hce2 : w5.cell? ⟨bb, off + i, none⟩ = some (.int .i64 x) := by have := (hT6.out.at' i x HX.out) 0 _ rfl; simpa using this
      have hL6 : Hid ((row tk').length ≤ 1 + 64 * (i + 1)) := by show _ ≤ _; have h1 := hL.out; have h2 := E2.out; omega
      clear hR5 g5 hR hC2 hK2 hT2 hB3 hce cT hL E2
      cases g with
      | true =>
        have hG6 : Hid (GoneIs true q tk') := ⟨fun _ => E1.out.2 (.inl (hG.out.1 rfl)), fun _ => rfl⟩
        clear hG E1
        go_wp2_with fail
        go_roundw
        case rel => exact ⟨i + 1, _, tk', by omega, rfl, by go_num, hR6, hC6, hK6, hT6, hB6, E3, hG6, hL6⟩
        case measure => simp [intOf]; omega
      | false =>
        by_cases hxq : x = (q : Int)
        · have hG6 : Hid (GoneIs true q tk') := ⟨fun _ => E1.out.2 (.inr hxq.symm), fun _ => rfl⟩
          clear hG E1
          subst hxq
          go_wp2_with fail
          go_roundw
          case rel => exact ⟨i + 1, true, tk', by omega, by simp, by go_num, hR6, hC6, hK6, hT6, hB6, E3, hG6, hL6⟩
          case measure => simp [intOf]; omega
        · have hG6 : Hid (GoneIs false q tk') := ⟨(fun h => by cases h), fun h => (E1.out.1 h).elim (fun h2 => hG.out.2 h2) (fun h2 => absurd h2.symm hxq)⟩
          have hxd : (x == (q : Int)) = false := by simpa using hxq
          clear hG E1
          go_wp2_with fail
          go_roundw
          case rel => exact ⟨i + 1, false, tk', by omega, by simp [hxd], by go_num, hR6, hC6, hK6, hT6, hB6, E3, hG6, hL6⟩
          case measure => simp [intOf]; omega
    · have hlen : i = len := by omega
      have hLl := hL.out
      have hl1 : (row tk).length ≤ 1000000 := by omega
      have hK3 := hK2.out
      have hB4 := hB3.out
      clear hK2 hB3 hL hLl hT2
      cases g with
  
    | true =>
      have hGq : Hid (q ∈ tk) := hG.out.1 rfl
      have HZ : Hid (zh32.length = 32) := Lib.hid rfl
      go_wp2_with fail
      have ltq100 : r < wr.heap.size := hR.out.lt
      have ltq101 : r2 < wr.heap.size := hC2.out.lt
      have ltq102 : KA < wr.heap.size := hK3.lt
      refine (c2 r _ tk hGq.out hl1 hR.out).mono ?_
      rintro e wq98 ⟨rfl, bq99⟩
      have hCq103 := Lib.hid (hR.out.below bq99)
      have hCq104 := Lib.hid (hC2.out.below bq99)
      have hCq105 := hK3.below bq99 hK3.lt
      have hBq106 := hB4.trans (bq99.mono hB4.size)
      clear hR hC2 hK3 hB4
      clear bq99
      go_wp2_with (first | ((with_reducible show wpList _ _ _ (⟨some 18, _, _, _, _, _⟩ :: _) _ _); refine wpList_allocZ rfl 23 rfl _ Try.zeroHash ?_; intro wq107 hsq108 baq109 hNq110) | ((with_reducible show wpList _ _ _ (⟨none, Op.store _ (.tmp 18) _, _, _, _, _⟩ :: _) _ _); refine wpList_storeBlk rfl 23 (.tmp 18) (.tmp 81) rfl (wq98.heap.size) ((zh32.map bv).toArray) (by rfl) (by rfl) _ _ hNq110 (by rw [bv_size, HZ.out]; exact Try.sizeHash) (by rw [bv_size, HZ.out, Z32_size]) (bv_all _) ?_; intro wq111 hKq112 gq113; have bbq114 := below_new baq109 gq113 (Nat.le_refl _) baq109.size; have ltq115 : r < wq98.heap.size := hCq103.out.lt; have ltq116 : r2 < wq98.heap.size := hCq104.out.lt; have ltq117 : KA < wq98.heap.size := hCq105.lt; have hCq118 := Lib.hid (hCq103.out.below bbq114); have hCq119 := Lib.hid (hCq104.out.below bbq114); have hCq120 := hCq105.below bbq114 hCq105.lt; have hBq121 := hBq106.trans (bbq114.mono hBq106.size); clear hCq103 hCq104 hCq105 hBq106; clear bbq114 baq109 hNq110 gq113 hsq108))
      have ltq124 : r < wq111.heap.size := hCq118.out.lt
      have ltq125 : r2 < wq111.heap.size := hCq119.out.lt
      have ltq126 : KA < wq111.heap.size := hCq120.lt
      have ltq127 : wq98.heap.size < wq111.heap.size := hKq112.lt
      refine (c1 r2 _ [] (by simp) (by omega) hCq119.out).mono ?_
      rintro e wq122 ⟨rfl, bq123⟩
      have hCq128 := Lib.hid (hCq118.out.below bq123)
      have hCq129 := Lib.hid (hCq119.out.below bq123)
      have hCq130 := hCq120.below bq123 hCq120.lt
      have hCq131 := hKq112.below bq123 hKq112.lt
      have hBq132 := hBq121.trans (bq123.mono hBq121.size)
      clear hCq118 hCq119 hCq120 hKq112 hBq121
      clear bq123
      go_wp2_with (first | ((with_reducible show wpList _ _ _ (⟨some 19, _, _, _, _, _⟩ :: _) _ _); refine wpList_allocZ rfl 23 rfl _ Try.zeroHash ?_; intro wq133 hsq134 baq135 hNq136) | ((with_reducible show wpList _ _ _ (⟨none, Op.store _ (.tmp 19) _, _, _, _, _⟩ :: _) _ _); refine wpList_storeBlk rfl 23 (.tmp 19) (.tmp 87) rfl (wq122.heap.size) ((k.map bv).toArray) (by rfl) (by rfl) _ _ hNq136 (by rw [bv_size, HK.out]; exact Try.sizeHash) (by rw [bv_size, HK.out, Z32_size]) (bv_all _) ?_; intro wq137 hKq138 gq139; have bbq140 := below_new baq135 gq139 (Nat.le_refl _) baq135.size; have ltq141 : r < wq122.heap.size := hCq128.out.lt; have ltq142 : r2 < wq122.heap.size := hCq129.out.lt; have ltq143 : KA < wq122.heap.size := hCq130.lt; have ltq144 : wq98.heap.size < wq122.heap.size := hCq131.lt; have hCq145 := Lib.hid (hCq128.out.below bbq140); have hCq146 := Lib.hid (hCq129.out.below bbq140); have hCq147 := hCq130.below bbq140 hCq130.lt; have hCq148 := hCq131.below bbq140 hCq131.lt; have hBq149 := hBq132.trans (bbq140.mono hBq132.size); clear hCq128 hCq129 hCq130 hCq131 hBq132; clear bbq140 baq135 hNq136 gq139 hsq134) | ((with_reducible show wpList _ _ _ (⟨some 92, _, _, _, _, _⟩ :: _) _ _); refine wpList_if (by rfl) (wp_load_mid 23 (.tmp 19) rfl (wq122.heap.size) 0 (by rfl) (k.map bv) _ (blk_rangeP hKq138) Try.underlying23 rfl (by rw [List.length_map, HK.out]; exact Try.sizeHash) ?_)) | ((with_reducible show wpList _ _ _ (⟨some 93, _, _, _, _, _⟩ :: _) _ _); refine wpList_if (by rfl) (wp_load_mid 23 (.tmp 13) rfl (KA) 0 (by rfl) (k.map bv) _ (blk_rangeP hCq147) Try.underlying23 rfl (by rw [List.length_map, HK.out]; exact Try.sizeHash) ?_)))
      have ltq152 : r < wq137.heap.size := hCq145.out.lt
      have ltq153 : r2 < wq137.heap.size := hCq146.out.lt
      have ltq154 : KA < wq137.heap.size := hCq147.lt
      have ltq155 : wq98.heap.size < wq137.heap.size := hCq148.lt
      have ltq156 : wq122.heap.size < wq137.heap.size := hKq138.lt
      refine (Seeds_calls r2 B _ _ hCq146.out (by omega)).mono ?_
      rintro e wq150 ⟨x9, rfl, hx9, bq151⟩
      have hCq157 := Lib.hid (hCq145.out.below bq151)
      have hCq158 := Lib.hid (hCq146.out.below bq151)
      have hCq159 := hCq147.below bq151 hCq147.lt
      have hCq160 := hCq148.below bq151 hCq148.lt
      have hCq161 := hKq138.below bq151 hKq138.lt
      have hBq162 := hBq149.trans (bq151.mono hBq149.size)
      clear hCq145 hCq146 hCq147 hCq148 hKq138 hBq149
      clear bq151
      rw [hl0] at hx9
      obtain ⟨ao9, c9, rfl⟩ := own_slice hx9
      clear hx9
      go_wp2_with fail
      have ltq165 : r < wq150.heap.size := hCq157.out.lt
      have ltq166 : r2 < wq150.heap.size := hCq158.out.lt
      have ltq167 : KA < wq150.heap.size := hCq159.lt
      have ltq168 : wq98.heap.size < wq150.heap.size := hCq160.lt
      have ltq169 : wq122.heap.size < wq150.heap.size := hCq161.lt
      refine (c4 true r _ tk hG.out hl1 hCq157.out).mono ?_
      rintro e wq163 ⟨rfl, bq164⟩
      have hCq170 := Lib.hid (hCq157.out.below bq164)
      have hCq171 := Lib.hid (hCq158.out.below bq164)
      have hCq172 := hCq159.below bq164 hCq159.lt
      have hCq173 := hCq160.below bq164 hCq160.lt
      have hCq174 := hCq161.below bq164 hCq161.lt
      have hBq175 := hBq162.trans (bq164.mono hBq162.size)
      clear hCq157 hCq158 hCq159 hCq160 hCq161 hBq162
      clear bq164
      go_wp2_with fail
      go_returns
      exact ⟨rfl, hBq175⟩
    | false =>
      have hGq : Hid (q ∉ tk) := fun h => by have := hG.out.2 h; cases this
      go_wp2_with fail
      have ltq213 : r < wr.heap.size := hR.out.lt
      have ltq214 : r2 < wr.heap.size := hC2.out.lt
      have ltq215 : KA < wr.heap.size := hK3.lt
      refine (c1 r _ tk hGq.out hl1 hR.out).mono ?_
      rintro e wq211 ⟨rfl, bq212⟩
      have hCq216 := Lib.hid (hR.out.below bq212)
      have hCq217 := Lib.hid (hC2.out.below bq212)
      have hCq218 := hK3.below bq212 hK3.lt
      have hBq219 := hB4.trans (bq212.mono hB4.size)
      clear hR hC2 hK3 hB4
      clear bq212
      go_wp2_with (first | ((with_reducible show wpList _ _ _ (⟨some 18, _, _, _, _, _⟩ :: _) _ _); refine wpList_allocZ rfl 23 rfl _ Try.zeroHash ?_; intro wq220 hsq221 baq222 hNq223) | ((with_reducible show wpList _ _ _ (⟨none, Op.store _ (.tmp 18) _, _, _, _, _⟩ :: _) _ _); refine wpList_storeBlk rfl 23 (.tmp 18) (.tmp 81) rfl (wq211.heap.size) ((k.map bv).toArray) (by rfl) (by rfl) _ _ hNq223 (by rw [bv_size, HK.out]; exact Try.sizeHash) (by rw [bv_size, HK.out, Z32_size]) (bv_all _) ?_; intro wq224 hKq225 gq226; have bbq227 := below_new baq222 gq226 (Nat.le_refl _) baq222.size; have ltq228 : r < wq211.heap.size := hCq216.out.lt; have ltq229 : r2 < wq211.heap.size := hCq217.out.lt; have ltq230 : KA < wq211.heap.size := hCq218.lt; have hCq231 := Lib.hid (hCq216.out.below bbq227); have hCq232 := Lib.hid (hCq217.out.below bbq227); have hCq233 := hCq218.below bbq227 hCq218.lt; have hBq234 := hBq219.trans (bbq227.mono hBq219.size); clear hCq216 hCq217 hCq218 hBq219; clear bbq227 baq222 hNq223 gq226 hsq221))
      have ltq237 : r < wq224.heap.size := hCq231.out.lt
      have ltq238 : r2 < wq224.heap.size := hCq232.out.lt
      have ltq239 : KA < wq224.heap.size := hCq233.lt
      have ltq240 : wq211.heap.size < wq224.heap.size := hKq225.lt
      refine (c1 r2 _ [] (by simp) (by omega) hCq232.out).mono ?_
      rintro e wq235 ⟨rfl, bq236⟩
      have hCq241 := Lib.hid (hCq231.out.below bq236)
      have hCq242 := Lib.hid (hCq232.out.below bq236)
      have hCq243 := hCq233.below bq236 hCq233.lt
      have hCq244 := hKq225.below bq236 hKq225.lt
      have hBq245 := hBq234.trans (bq236.mono hBq234.size)
      clear hCq231 hCq232 hCq233 hKq225 hBq234
      clear bq236
      go_wp2_with (first | ((with_reducible show wpList _ _ _ (⟨some 19, _, _, _, _, _⟩ :: _) _ _); refine wpList_allocZ rfl 23 rfl _ Try.zeroHash ?_; intro wq246 hsq247 baq248 hNq249) | ((with_reducible show wpList _ _ _ (⟨none, Op.store _ (.tmp 19) _, _, _, _, _⟩ :: _) _ _); refine wpList_storeBlk rfl 23 (.tmp 19) (.tmp 87) rfl (wq235.heap.size) ((k.map bv).toArray) (by rfl) (by rfl) _ _ hNq249 (by rw [bv_size, HK.out]; exact Try.sizeHash) (by rw [bv_size, HK.out, Z32_size]) (bv_all _) ?_; intro wq250 hKq251 gq252; have bbq253 := below_new baq248 gq252 (Nat.le_refl _) baq248.size; have ltq254 : r < wq235.heap.size := hCq241.out.lt; have ltq255 : r2 < wq235.heap.size := hCq242.out.lt; have ltq256 : KA < wq235.heap.size := hCq243.lt; have ltq257 : wq211.heap.size < wq235.heap.size := hCq244.lt; have hCq258 := Lib.hid (hCq241.out.below bbq253); have hCq259 := Lib.hid (hCq242.out.below bbq253); have hCq260 := hCq243.below bbq253 hCq243.lt; have hCq261 := hCq244.below bbq253 hCq244.lt; have hBq262 := hBq245.trans (bbq253.mono hBq245.size); clear hCq241 hCq242 hCq243 hCq244 hBq245; clear bbq253 baq248 hNq249 gq252 hsq247) | ((with_reducible show wpList _ _ _ (⟨some 92, _, _, _, _, _⟩ :: _) _ _); refine wpList_if (by rfl) (wp_load_mid 23 (.tmp 19) rfl (wq235.heap.size) 0 (by rfl) (k.map bv) _ (blk_rangeP hKq251) Try.underlying23 rfl (by rw [List.length_map, HK.out]; exact Try.sizeHash) ?_)) | ((with_reducible show wpList _ _ _ (⟨some 93, _, _, _, _, _⟩ :: _) _ _); refine wpList_if (by rfl) (wp_load_mid 23 (.tmp 13) rfl (KA) 0 (by rfl) (k.map bv) _ (blk_rangeP hCq260) Try.underlying23 rfl (by rw [List.length_map, HK.out]; exact Try.sizeHash) ?_)))
      have ltq265 : r < wq250.heap.size := hCq258.out.lt
      have ltq266 : r2 < wq250.heap.size := hCq259.out.lt
      have ltq267 : KA < wq250.heap.size := hCq260.lt
      have ltq268 : wq211.heap.size < wq250.heap.size := hCq261.lt
      have ltq269 : wq235.heap.size < wq250.heap.size := hKq251.lt
      refine (Seeds_calls r2 B _ _ hCq259.out (by omega)).mono ?_
      rintro e wq263 ⟨x9, rfl, hx9, bq264⟩
      have hCq270 := Lib.hid (hCq258.out.below bq264)
      have hCq271 := Lib.hid (hCq259.out.below bq264)
      have hCq272 := hCq260.below bq264 hCq260.lt
      have hCq273 := hCq261.below bq264 hCq261.lt
      have hCq274 := hKq251.below bq264 hKq251.lt
      have hBq275 := hBq262.trans (bq264.mono hBq262.size)
      clear hCq258 hCq259 hCq260 hCq261 hKq251 hBq262
      clear bq264
      rw [hl0] at hx9
      obtain ⟨ao9, c9, rfl⟩ := own_slice hx9
      clear hx9
      go_wp2_with fail
      have ltq278 : r < wq263.heap.size := hCq270.out.lt
      have ltq279 : r2 < wq263.heap.size := hCq271.out.lt
      have ltq280 : KA < wq263.heap.size := hCq272.lt
      have ltq281 : wq211.heap.size < wq263.heap.size := hCq273.lt
      have ltq282 : wq235.heap.size < wq263.heap.size := hCq274.lt
      refine (c4 false r _ tk hG.out hl1 hCq270.out).mono ?_
      rintro e wq276 ⟨rfl, bq277⟩
      have hCq283 := Lib.hid (hCq270.out.below bq277)
      have hCq284 := Lib.hid (hCq271.out.below bq277)
      have hCq285 := hCq272.below bq277 hCq272.lt
      have hCq286 := hCq273.below bq277 hCq273.lt
      have hCq287 := hCq274.below bq277 hCq274.lt
      have hBq288 := hBq275.trans (bq277.mono hBq275.size)
      clear hCq270 hCq271 hCq272 hCq273 hCq274 hBq275
      clear bq277
      go_wp2_with (first | ((with_reducible show wpList _ _ _ (⟨some 115, _, _, _, _, _⟩ :: _) _ _); refine wpList_if (by rfl) (wp_load_mid 23 (.tmp 18) rfl (wq211.heap.size) 0 (by rfl) (k.map bv) _ (blk_rangeP hCq286) Try.underlying23 rfl (by rw [List.length_map, HK.out]; exact Try.sizeHash) ?_)) | ((with_reducible show wpList _ _ _ (⟨some 116, _, _, _, _, _⟩ :: _) _ _); refine wpList_if (by rfl) (wp_load_mid 23 (.tmp 13) rfl (KA) 0 (by rfl) (k.map bv) _ (blk_rangeP hCq285) Try.underlying23 rfl (by rw [List.length_map, HK.out]; exact Try.sizeHash) ?_)))
      go_returns
      exact ⟨rfl, hBq288⟩
end Go.Proofs.Ytnfegmcdljejnaa
