/-
  PprErased: of the seeds that are left follows no key that was taken, but what the document's facts give.
-/
import Derived.Test.YtlomofcnknpciaaPprTwo
import Derived.Test.YtlomofcnknpciaaPprAwake
import Derived.Test.YtlomofcnknpciaaPprSeeds
import Derived.Test.YtlomofcnknpciaaBookHas
import Derived.Test.YtlomofcnknpciaaBookRefFol
import Derived.Test.YtlomofcnknpciaaBookKnown
import Derived.Test.YtlomofcnknpciaaRd
set_option linter.unusedSimpArgs false
set_option linter.unusedVariables false
namespace Go.Proofs.Ytlomofcnknpciaa
open Go.RowKit

theorem IntsAt_take_fold (l : List FactT) (fs : List FactT) (m : Nat) (f : FactT) (h : l[m]? = some f) : (l.take (m + 1)).foldl noteT fs = noteT ((l.take m).foldl noteT fs) f := by
  rw [List.take_add_one, List.foldl_append, h]; rfl
theorem ints_cap {w : World} {base : Nat} {e : TypeId} {size n c : Nat} {ao : Option Addr} {xs : List Value} (h : w.ownsRow base e size (.slice ao n c) n xs) : n ≤ c := by
  rcases h.2 with ⟨h0, h1⟩ | ⟨g, cap, cur, e1, hb, hg, h1, _⟩
  · injection h0 with _ h2 h3; omega
  · injection e1 with _ _ h3; omega
theorem ints_lt {w : World} {g o n c : Nat} {tk : List Nat} (h : IntsA w (.slice (some ⟨g, o, none⟩) n c) tk) : g < w.heap.size := by
  rcases h with ⟨e, _⟩ | ⟨g', o', c', e, h, _⟩
  · cases e
  · injection e with e1 e2 e3
    simp only [Option.some.injEq, Addr.mk.injEq] at e1
    rw [e1.1]; exact h
theorem elems_lt {α : Type} {cells : α → List Value} {size : Nat} {w : World} {g off len : Nat} {xs : List α} (h : Elems cells size w (some ⟨g, off, none⟩) len xs) (h0 : 0 < len) : g < w.heap.size := by
  rcases h.2 with h1 | ⟨b, o, e, hlt, _⟩
  · omega
  · simp only [Option.some.injEq, Addr.mk.injEq] at e
    rw [e.1]; exact hlt
theorem range_hashD {w : World} {g i : Nat} {s : Sd} (h : w.rangeAt g (34 * i) s.cells) : w.rangeAt g (i * 34 + 2) (s.h.map bv) := fun j u hj => by
  have := h (j + 2) u (by rw [Sd.cells]; exact hj)
  rw [show i * 34 + 2 + j = 34 * i + (j + 2) by omega]
  exact this
set_option maxHeartbeats 40000000 in
set_option maxRecDepth 100000 in
theorem walkPprErased {H : Type} {enc : TypeId × Value → H} {w : World} {base : Nat} {spare : Nat → Bool} {held : Bool} {R : Reach} {b0 : Nat} {d : DataW H} {pl : List MemPlace} (a : List UInt8) (ha : a.length = 32) (b : Int) (hwb : (Lit.int .u8 b).wf = true) (v : Value)
    (hv : Value.okWide Try.prog w R b0 24 v) (hd : DataW.Trod enc Try.prog w base spare held 24 v d pl) :
    Calls Try.prog 3 #[.agg (a.map bv).toArray, .int .u8 b, v] w fun e w' => e = .returned (.bool true) ∧ Below w.heap.size w w' := by
  obtain ⟨ao, len, cap, xs, rfl, hm, hT, hxs⟩ := open_ints Try.underlying24 hv hd
  clear hv hd
  unfold maxLen at hm
  have HA := Lib.hid ha
  obtain ⟨hq1, hq2⟩ := bounds_u8 hwb
  clear hwb
  have hA0 : Blk (w.alloc (.cells (a.map bv).toArray 23)) w.heap.size (a.map bv).toArray 23 := Blk.new _ _ _
  have hb0 : Below w.heap.size w (w.alloc (.cells (a.map bv).toArray 23)) := below_alloc1 _ _
  have HT0 := Lib.hid (hT.below hb0)
  have HXS := Lib.hid hxs
  clear hT hxs
  by_cases h24 : 24 < len
  · clear ha
    go_enter Try.func3, Try.ntmps3
    go_wp2_with fail
    generalize w.alloc (.cells (a.map bv).toArray 23) = W0 at hA0 hb0 HT0 ⊢
    have hbW := Below.refl W0.heap.size W0
    have hAw := hA0
    have HA0 := Lib.hid hA0
    have HB0 := Lib.hid hb0
    clear hA0 hb0
    have ltq3 : w.heap.size < W0.heap.size := hAw.lt
    refine (awake6_calls _).mono ?_
    rintro e wq1 ⟨rfl, bq2⟩
    have hCq4 := hAw.below bq2 hAw.lt
    have hBq5 := hbW.trans (bq2.mono (hbW.size))
    clear hAw hbW
    clear bq2
    go_wp2_with fail
    have ltq8 : w.heap.size < wq1.heap.size := hCq4.lt
    refine (awake6_calls _).mono ?_
    rintro e wq6 ⟨rfl, bq7⟩
    have hCq9 := hCq4.below bq7 hCq4.lt
    have hBq10 := hBq5.trans (bq7.mono (hBq5.size))
    clear hCq4 hBq5
    clear bq7
    go_wp2_with fail
    go_returns
    exact ⟨rfl, HB0.out.trans (hBq10.mono HB0.out.size)⟩
  have hlen24 : len ≤ 24 := by omega
  obtain ⟨B, hB⟩ : ∃ B : Nat, 1 + b % 8 = (B : Int) := ⟨(1 + b % 8).toNat, by omega⟩
  have hB1 : 1 ≤ B := by omega
  have hB8 : B ≤ 8 := by omega
  obtain ⟨row, hrow⟩ : ∃ f : List Nat → List Sd, f = rowT a B := ⟨_, rfl⟩
  obtain ⟨FT, hFT⟩ : ∃ f : List Nat → Nat → List FactT, f = factsT a B := ⟨_, rfl⟩
  obtain ⟨ndk, hndk⟩ : ∃ f : List Nat → Nat → List FactT, f = notedK a B := ⟨_, rfl⟩
  obtain ⟨nd, hnd⟩ : ∃ f : List Nat → List FactT, f = notedT a B := ⟨_, rfl⟩
  have hr0 : row [] = [⟨0, 0, a⟩] := by rw [hrow]; exact row_new a B ha
  have hnd0 : nd [] = [] := by rw [hnd]; rfl
  have HND : Hid (∀ tk p, nd (tk ++ [p]) = (FT tk p).foldl noteT (nd tk)) := fun tk p => by rw [hnd, hFT]; exact notedT_snoc a B tk p
  have HNK0 : Hid (∀ tk, ndk tk 0 = []) := fun tk => by rw [hndk]; rfl
  have HNKS : Hid (∀ tk k, ndk tk (k + 1) = (FT (tk.take k) (tk.getD k 0)).foldl noteT (ndk tk k)) := fun tk k => by rw [hndk, hFT]; rfl
  have HNKE : Hid (∀ tk, ndk tk tk.length = nd tk) := fun tk => by rw [hndk, hnd]; rfl
  have HFS : Hid (∀ tk p, ∀ f ∈ FT tk p, FOk f ∧ f.ins.length ≤ 1 ∧ f.outs.length ≤ 2) := fun tk p => by rw [hFT]; exact factsT_small B tk p ha
  have HFL : Hid (∀ tk p, (FT tk p).length ≤ 9) := fun tk p => by rw [hFT]; exact Nat.le_trans (factsK_len a B tk p (B + 1)) (by omega)
  have HNK : Hid (∀ tk k, FsOk (ndk tk k) (9 * k)) := fun tk k => by
    induction k with
    | zero => rw [HNK0.out]; exact FsOk.nil
    | succ k ih =>
      rw [HNKS.out]
      have := HFL.out (tk.take k) (tk.getD k 0)
      exact (ih.fold (HFS.out _ _)).mono (by omega)
  have HNO : Hid (∀ tk, FsOk (nd tk) (9 * tk.length)) := fun tk => by rw [← HNKE.out]; exact HNK.out tk _
  have HR32 : Hid (∀ tk, ∀ s ∈ row tk, s.h.length = 32) := fun tk s hs => by rw [hrow] at hs; exact (row_mem ha s hs).2.2
  have hpow : (2 ^ B : Nat) ≤ 256 := Nat.pow_le_pow_right (n := 2) (by omega) hB8
  have HPOW := Lib.hid hpow
  have HRL : Hid (∀ tk p, p < 2 ^ B → (row (tk ++ [p])).length ≤ (row tk).length + 16) := fun tk p hp => by
    have := row_len a B p tk hp
    rw [hrow]; omega
  have c5 : ∀ y, Calls Try.prog 18 #[.agg (a.map bv).toArray, .int .i64 B] y fun e w' => ∃ r v, e = .returned (.tuple #[.pointer (some ⟨r, 0, none⟩), .int .i64 0]) ∧ y.heap.size ≤ r ∧ Blk w' r #[.int .i64 B, v] 138 ∧ SeedsAt w' v [⟨0, 0, a⟩] ∧ (∀ q, v.ownBlock = some q → y.heap.size ≤ q) ∧ Below y.heap.size y w' := fun y => New6B_calls a B y ha hB1 (by omega)
  have CT : Hid (∀ (A : Nat → Prop) (N Bb r M : Nat) (w0 : World) (tk : List Nat) (ks : List HsT) (tv vk : Value) (bk sm nm dm : Nat) (y : World) (x : Int), PSt A w0 N Bb r M B a (row tk) tk ks tv vk ⟨bk, sm, nm, dm, nd tk, fun _ => none⟩ y → tk.length ≤ 24 → (row tk).length ≤ 1000 → -9223372036854775808 ≤ x → x ≤ 9223372036854775807 →
      ∃ (kk : HsT) (ee : Int) (tk2 : List Nat), kk.length = 32 ∧ ((ee = 0 ∧ tk2 = tk ++ [x.toNat] ∧ 0 ≤ x ∧ x.toNat < 2 ^ B) ∨ (ee ≠ 0 ∧ tk2 = tk)) ∧ Calls Try.prog 19 #[.pointer (some ⟨r, 0, none⟩), .pointer (some ⟨bk, 0, none⟩), .int .i64 x] y fun e w' => ∃ A', e = .returned (.tuple #[.agg (kk.map bv).toArray, .int .i64 ee]) ∧ PSt A' w0 N Bb r M B a (row tk2) tk ks tv vk ⟨bk, sm, nm, dm, nd tk2, fun _ => none⟩ w') := by
    intro A N Bb r M w0 tk ks tv vk bk sm nm dm y x h hl hl2 hx1 hx2
    have hfs := HNO.out tk
    rw [hrow] at h hl2
    have h0 := h.take_calls (n := 9 * tk.length) hfs (by omega) ha (by omega) (by omega) x hx1 hx2
    rw [hrow]
    by_cases hw : withinT B x = true
    · have hw2 : 0 ≤ x ∧ x < ((2 ^ B : Nat) : Int) := by simpa [withinT] using hw
      by_cases hm : x.toNat ∈ tk
      · obtain ⟨e1, e2, _⟩ := row_gone a B x tk hw hm
        refine ⟨zh32, 10, tk, by rfl, .inr ⟨by decide, rfl⟩, h0.mono ?_⟩
        rintro e w' ⟨A', g1, g2, _⟩
        rw [e2] at g1
        rw [e1, lookF_gone a B x tk hm] at g2
        exact ⟨A', g1, g2⟩
      · obtain ⟨e1, e2, _⟩ := row_take a B x tk hw hm
        refine ⟨_, 0, tk ++ [x.toNat], keyT_len (atD x.toNat B a), .inl ⟨rfl, rfl, hw2.1, by omega⟩, h0.mono ?_⟩
        rintro e w' ⟨A', g1, g2, _⟩
        rw [e2] at g1
        rw [e1, lookF_row a B x tk hw hm] at g2
        refine ⟨A', g1, ?_⟩
        rw [HND.out, hFT]
        exact g2
    · have hw' : withinT B x = false := by simpa using hw
      obtain ⟨e1, e2, _⟩ := row_out a B x tk hw'
      refine ⟨zh32, 1, tk, by rfl, .inr ⟨by decide, rfl⟩, h0.mono ?_⟩
      rintro e w' ⟨A', g1, g2, _⟩
      rw [e2] at g1
      rw [e1, lookF_out B x _ hw'] at g2
      exact ⟨A', g1, g2⟩
  have CS : Hid (∀ (tv : Value) (tk : List Nat) (y : World), IntsA y tv tk → tk.length ≤ 1000 → (∀ z ∈ tk, z < 4294967296) → (row tk).length ≤ 1000 → Calls Try.prog 20 #[.agg (rcells a B tv).toArray] y fun e w' => ∃ s, e = .returned s ∧ SeedsAt w' s (row tk) ∧ Below y.heap.size y w') := fun tv tk y h1 h2 h3 h4 => by
    rw [hrow] at h4 ⊢
    exact RSeeds_calls a B tv tk ha (by omega) (by omega) h3 y h1 (by omega)
  have CF : Hid (∀ (tv : Value) (tk : List Nat) (p : Nat) (y : World), IntsA y tv tk → tk.length ≤ 1000 → (∀ z ∈ tk, z < 4294967296) → p < 4294967296 → Calls Try.prog 21 #[.agg (rcells a B tv).toArray, .int .i64 p] y fun e w' => ∃ v', e = .returned v' ∧ RFactsOwn (fun _ => False) w' y.heap.size v' (FT tk p) ∧ Below y.heap.size y w') := fun tv tk p y h1 h2 h3 h4 => by
    rw [hFT]
    exact RFacts_calls a B tv tk p y ha (by omega) h1 (by omega) h3 h4 (fun q h => h.elim)
  have CX : Hid (∀ (r : Nat) (tk : List Nat) (y : World), RowAt y r B (row tk) → (row tk).length ≤ 1000 → Calls Try.prog 24 #[.pointer (some ⟨r, 0, none⟩)] y fun e w' => ∃ v, e = .returned v ∧ HashOwn w' y.heap.size 23 v ((row tk).map Sd.h) ∧ Below y.heap.size y w') := fun r tk y h1 h2 =>
    (Seeds_calls r B (row tk) y h1 (by omega)).mono fun e w' ⟨v, g1, g2, g3⟩ => ⟨v, g1, ⟨fun h hh => by obtain ⟨s, hs, rfl⟩ := List.mem_map.1 hh; exact HR32.out tk s hs, by rw [List.length_map, List.flatMap_map]; exact g2⟩, g3⟩
  have hbu := Try.builtR6 B a ha
  have HBU := Lib.hid hbu
  have HBV : Hid (∀ ao n c, Try.prog.built 33 [(0, .agg (a.map bv).toArray), (1, .int .i64 B), (2, .slice ao n c)] = some (rcells a B (.slice ao n c)).toArray) := fun ao n c => builtR6v B a ha ao n c
  clear hrow hFT hndk hnd ha hpow hbu
  go_enter Try.func3, Try.ntmps3
  go_wp2_with fail
  generalize w.alloc (.cells (a.map bv).toArray 23) = W0 at hA0 hb0 HT0 ⊢
  have hbW := Below.refl W0.heap.size W0
  have hAw := hA0
  have HA0 := Lib.hid hA0
  have HB0 := Lib.hid hb0
  clear hA0 hb0
  have ltq13 : w.heap.size < W0.heap.size := hAw.lt
  refine (awake6_calls _).mono ?_
  rintro e wq11 ⟨rfl, bq12⟩
  have hCq14 := hAw.below bq12 hAw.lt
  have hBq15 := hbW.trans (bq12.mono (hbW.size))
  clear hAw hbW
  clear bq12
  have hy0 := hBq15.size
  go_wp2_with fail
  have ltq18 : w.heap.size < wq11.heap.size := hCq14.lt
  refine (BNew_calls _).mono ?_
  rintro e wq16 ⟨bk, sm, nm, dm, rfl, hbi, bq17⟩
  have hCq19 := hCq14.below bq17 hCq14.lt
  have hBq20 := hBq15.trans (bq17.mono (hBq15.size))
  clear hCq14 hBq15
  clear bq17
  have HBI := Lib.hid hbi
  clear hbi
  have hsi := Lib.hid (Since.refl wq16)
  go_wp2_with ((with_reducible show wpList _ _ _ (⟨some 40, _, _, _, _, _⟩ :: _) _ _); refine wpList_load_mid rfl 23 (.tmp 3) rfl (w.heap.size) 0 (by rfl) (a.map bv) _ (blk_rangeP hCq19) Try.underlying23 rfl (by rw [List.length_map, HA.out]; exact Try.sizeHash) ?_)
  have ltq23 : w.heap.size < wq16.heap.size := hCq19.lt
  refine (c5 _).mono ?_
  rintro e wq21 ⟨r, v, rfl, hr, hrw, hsd, hvq, bq22⟩
  have hCq24 := hCq19.below bq22 hCq19.lt
  have hCq25 := Lib.hid (hsi.out.below bq22)
  have hBq26 := hBq20.trans (bq22.mono (hBq20.size))
  clear hCq19 hsi hBq20
  clear bq22
  have hHq27 := Lib.hid hsd
  clear hsd
  go_wp2_with (first | ((with_reducible show wpList _ _ _ (⟨some 45, _, _, _, _, _⟩ :: _) _ _); refine wpList_load_mid rfl 23 (.tmp 3) rfl (w.heap.size) 0 (by rfl) (a.map bv) _ (blk_rangeP hCq24) Try.underlying23 rfl (by rw [List.length_map, HA.out]; exact Try.sizeHash) ?_) | ((with_reducible show wpList _ _ _ (⟨some 47, _, _, _, _, _⟩ :: _) _ _); refine wpList_buildCells rfl 33 #[(0, .tmp 45), (1, .tmp 46)] rfl ((rcells a B (.slice none 0 0)).toArray) HBU.out ?_) | ((with_reducible show wpList _ _ _ (⟨some 11, _, _, _, _, _⟩ :: _) _ _); refine wpList_allocZ rfl 33 rfl _ Try.zeroR6 ?_; intro wq28 hsq29 baq30 hNq31) | ((with_reducible show wpList _ _ _ (⟨none, Op.store _ (.tmp 11) _, _, _, _, _⟩ :: _) _ _); refine wpList_storeBlk rfl 33 (.tmp 11) (.tmp 47) rfl (wq21.heap.size) ((rcells a B (.slice none 0 0)).toArray) (by rfl) (by rfl) _ _ hNq31 (by rw [List.size_toArray, rcells_len _ _ _ HA.out]; exact Try.sizeR6) (by simp [rcells, HA.out]) (rcells_all _ _ _ _ _) ?_; intro wq32 hKq33 gq34; have bbq35 := below_new baq30 gq34 (Nat.le_refl _) baq30.size; have ltq36 : w.heap.size < wq21.heap.size := hCq24.lt; have ltq37 : r < wq21.heap.size := hrw.lt; have hCq38 := hCq24.below bbq35 hCq24.lt; have hCq39 := Lib.hid (hCq25.out.below bbq35); have hCq40 := hrw.below bbq35 hrw.lt; have hCq41 := Lib.hid (hHq27.out.below bbq35); have hBq42 := hBq26.trans (bbq35.mono (hBq26.size)); clear hCq24 hCq25 hrw hHq27 hBq26; clear bbq35 baq30 hNq31 gq34 hsq29))
  have ltq43 : w.heap.size < wq32.heap.size := hCq38.lt
  have ltq44 : r < wq32.heap.size := hCq40.lt
  have ltq45 : wq21.heap.size < wq32.heap.size := hKq33.lt
  obtain ⟨M, hM⟩ : ∃ n, n = wq21.heap.size := ⟨_, rfl⟩
  have hMM := hKq33
  rw [← hM] at hMM ⊢
  have hyM : wq16.heap.size ≤ M := by have := hCq40.lt; have := hCq39.out.size; omega
  have HST := Lib.hid (PSt.start HBI.out hCq39.out hr hCq40 hCq41.out hvq hyM hMM HA.out hy0 hBq42)
  rw [← hr0] at HST
  clear hCq40 hCq39 hCq41 hKq33 hCq38 hBq42 hMM hyM HBI hvq hr hM hy0 c5 HBU
  generalize hAA : (fun q => q = r ∨ v.ownBlock = some q) = A0 at HST
  clear hAA
  obtain ⟨Bb, hBb⟩ : ∃ n, n = wq11.heap.size := ⟨_, rfl⟩
  rw [← hBb] at HST
  clear hBb
  go_loopw [12, 13] (fun kv j wr => ∃ (i : Nat) (tk : List Nat) (ks : List HsT) (tv : Value) (A : Nat → Prop), i ≤ len ∧ j = .int .i64 i ∧ Hid (PSt A W0 W0.heap.size Bb r M B a (row tk) tk ks tv kv ⟨bk, sm, nm, dm, nd tk, fun _ => none⟩ wr) ∧ Hid (∀ y ∈ tk, y < 2 ^ B) ∧ Hid ((row tk).length ≤ 1 + 16 * i) ∧ Hid (tk.length ≤ i) ∧ Hid (ks.length ≤ i)) (fun _ j _ => len - (intOf j).toNat)
  case atStart => exact ⟨0, [], [], _, A0, by omega, rfl, Lib.hid (by rw [hnd0]; exact HST.out), Lib.hid (by simp), Lib.hid (by rw [hr0]; simp), Lib.hid (by simp), Lib.hid (by simp)⟩
  case round =>
    obtain ⟨i, tk, ks, tv, A, hi, rfl, hS, hTK, hL, hN, hK⟩ := hrel
    clear HST hr0 hnd0
    have hsize := hS.out.bsize
    have hll := hL.out
    have hnn := hN.out
    have hkn := hK.out
    by_cases hlt : i < len
    · obtain ⟨g, off, x, rfl, hx, hrg⟩ := HT0.out.at i hlt
      obtain ⟨hx1, hx2⟩ := HXS.out x (List.mem_of_getElem? hx)
      have hc0 := hrg 0 _ rfl
      rw [Nat.mul_one, Nat.add_zero] at hc0
      have HCE : Hid (CellIs W0 g (off + i) (.int .i64 x)) := ⟨hc0, elems_lt HT0.out (by omega)⟩
      have hce := (HCE.out.below hS.out.bel).1
      obtain ⟨tao, tc, rfl⟩ := own_slice hS.out.ints
      obtain ⟨kk, ee, tk2, hkk, hor, hcall⟩ := CT.out A _ Bb r M _ tk ks _ _ bk sm nm dm _ x hS.out (by omega) (by omega) hx1 hx2
      have HKK := Lib.hid hkk
      clear hx hrg hc0 hkk
      go_wp2_with fail
      refine hcall.mono ?_
      rintro e w5 ⟨A', rfl, hS5⟩
      have HS5 := Lib.hid hS5
      have hb5 := hS5.bel
      clear hcall hS5 hce hS
      rcases hor with ⟨hee, htk2, hx0, hxB⟩ | ⟨hee, htk2⟩
      · subst hee htk2
        go_wp2_with (first | ((with_reducible show wpList _ _ _ (⟨some 14, _, _, _, _, _⟩ :: _) _ _); refine wpList_allocZ rfl 23 rfl _ Try.zeroHash ?_; intro wq46 hsq47 baq48 hNq49) | ((with_reducible show wpList _ _ _ (⟨none, Op.store _ (.tmp 14) _, _, _, _, _⟩ :: _) _ _); refine wpList_storeBlk rfl 23 (.tmp 14) (.tmp 62) rfl (w5.heap.size) ((kk.map bv).toArray) (by rfl) (by rfl) _ _ hNq49 (by rw [bv_size, HKK.out]; exact Try.sizeHash) (by rw [bv_size, HKK.out, Z32_size]) (bv_all _) ?_; intro wq50 hKq51 gq52; have bbq53 := below_new baq48 gq52 (Nat.le_refl _) baq48.size; have hCq54 := Lib.hid (HS5.out.below bbq53); have hBq55 := hb5.trans (bbq53.mono (hb5.size)); clear HS5 hb5; clear bbq53 baq48 hNq49 gq52 hsq47) | ((with_reducible show wpList _ _ _ (⟨some 67, _, _, _, _, _⟩ :: _) _ _); refine wpList_load_mid rfl 23 (.tmp 14) rfl (w5.heap.size) 0 (by rfl) (kk.map bv) _ (blk_rangeP hKq51) Try.underlying23 rfl (by rw [List.length_map, HKK.out]; exact Try.sizeHash) ?_) | ((with_reducible show wpList _ _ _ (⟨some 68, _, _, _, _, _⟩ :: _) _ _); refine wpList_bsH rfl 34 23 (.tmp 67) rfl kk HKK.out (by rfl) Try.underlying34 Try.infoHash2 ?_; intro qq56 wq57 eqq58 szq59 bbq60 hNq61; have ltq62 : w5.heap.size < wq50.heap.size := hKq51.lt; have hCq63 := Lib.hid (hCq54.out.below bbq60); have hCq64 := hKq51.below bbq60 hKq51.lt; have hBq65 := hBq55.trans (bbq60.mono (hBq55.size)); clear hCq54 hKq51 hBq55; clear bbq60 eqq58 szq59) | ((with_reducible show wpList _ _ _ (⟨some 69, _, _, _, _, _⟩ :: _) _ _); refine wpList_append_hsP rfl (.tmp 66) (.tmp 68) 34 rfl W0.heap.size 23 Try.underlying34 ⟨rfl, Try.infoHash3⟩ _ ks [kk] (by rfl) hCq63.out.keys _ (by rfl) (HashesAt.one hNq61 HKK.out (by omega)) (by simp; omega) hCq63.out.bsize ?_; intro vk6 w6 hk6 g6 hq6))
        have hS6 := hCq63.out.addKey hk6 g6 hq6
        generalize hA6 : (fun q => A' q ∨ vk6.ownBlock = some q) = A6 at hS6
        have HS6 := Lib.hid hS6
        have hM6 := hS6.m
        have hb6 := hS6.bel
        have HKL : Hid ((ks ++ [kk]).length ≤ i + 1) := by show _ ≤ _; simp; omega
        clear hA6 hk6 g6 hq6 hCq63 hNq61 hBq65 hS6 hCq64
        refine wp_region_held_drew (S := fun x => Below W0.heap.size W0 x) (by kernel_rfl) (below_drewN hb6 1) (fun hSq66 => ?_)
        have hHq67 := Lib.hid (HS6.out.drew)
        refine wpAnyH_take (i := 0) (v := .pointer (some ⟨M, 33, none⟩)) rfl (by kernel_rfl) (by kernel_rfl) (by kernel_rfl) (fun _ _ _ h => h) (Or.inl ⟨by rfl, fun x hx => by go_simp⟩) hSq66 ?_
        simp only [Act.put, List.getElem_toArray, List.getElem_cons_zero, List.getElem_cons_succ, List.setIfInBounds_toArray, List.set_cons_zero, List.set_cons_succ]
        refine wpAnyH_take (i := 2) (v := .slice (some ⟨g, off, none⟩) len cap) rfl (by kernel_rfl) (by kernel_rfl) (by kernel_rfl) (fun _ _ _ h => h) (Or.inl ⟨by rfl, fun x hx => by go_simp⟩) hSq66 ?_
        simp only [Act.put, List.getElem_toArray, List.getElem_cons_zero, List.getElem_cons_succ, List.setIfInBounds_toArray, List.set_cons_zero, List.set_cons_succ]
        refine wpAnyH_take (i := 3) (v := .int .i64 i) rfl (by kernel_rfl) (by kernel_rfl) (by kernel_rfl) (fun _ _ _ h => h) (Or.inl ⟨by rfl, fun x hx => by go_simp⟩) hSq66 ?_
        simp only [Act.put, List.getElem_toArray, List.getElem_cons_zero, List.getElem_cons_succ, List.setIfInBounds_toArray, List.set_cons_zero, List.set_cons_succ]
        refine wpAnyH_take (i := 4) (v := .pointer (some ⟨g, off + i, none⟩)) rfl (by kernel_rfl) (by kernel_rfl) (by kernel_rfl) (fun _ _ _ h => h) (Or.inl ⟨by rfl, fun x hx => by go_simp⟩) hSq66 ?_
        simp only [Act.put, List.getElem_toArray, List.getElem_cons_zero, List.getElem_cons_succ, List.setIfInBounds_toArray, List.set_cons_zero, List.set_cons_succ]
        refine wpAnyH_take (i := 5) (v := .int .i64 x) rfl (by kernel_rfl) (by kernel_rfl) (by kernel_rfl) (fun _ _ _ h => h) (Or.inl ⟨by rfl, fun x hx => by have hc := (HCE.out.below hx).1; go_simp⟩) hSq66 ?_
        simp only [Act.put, List.getElem_toArray, List.getElem_cons_zero, List.getElem_cons_succ, List.setIfInBounds_toArray, List.set_cons_zero, List.set_cons_succ]
        refine wpAnyH_ready (rs := [1, 6]) (by kernel_rfl) (by simp) ?_
        refine AllReadyH.cons rfl (fun K hK => ?_) ?_
        · rw [if_pos (by rfl)]
          refine wp_load1 24 (.tmp 70) rfl M 33 (by rfl) _ _ (hHq67.out.m.cell 33 _ (rcells_taken a B _ HA.out)) Try.underlying24 rfl ?_
          refine hK.out _ _ hSq66 (fun hSq68 => ?_)
          clear hK K hSq66
          refine wpAnyH_ready (rs := [6]) (by kernel_rfl) (by simp) ?_
          refine AllReadyH.cons rfl (fun K hK => ?_) AllReadyH.nil
          rw [if_pos (by rfl)]
          refine wp_bsInt 24 (.tmp 75) rfl x (by rfl) Try.underlying24 Try.infoInt2 ?_
          have bq70 := below_alloc1 (World.drew w6) (.cells #[.int .i64 x] 3)
          have hHq71 := Lib.hid (hHq67.out.below bq70)
          have HNBq72 := Lib.hid (Blk.new (World.drew w6) #[.int .i64 x] 3)
          refine hK.out _ _ (hSq68.trans (bq70.mono (hSq68.size))) (fun hSq69 => ?_)
          clear hK K hSq68 bq70
          refine wpAnyH_ready (rs := [7]) (by kernel_rfl) (by simp) ?_
          refine AllReadyH.cons rfl (fun K hK => ?_) AllReadyH.nil
          rw [if_pos (by rfl)]
          refine wp_append_placeP (.tmp 71) (.tmp 76) rfl W0.heap.size _ tk (by rfl) hHq71.out.ints ((World.drew w6).heap.size) 1 x.toNat (by rfl) (by rw [show ((x.toNat : Nat) : Int) = x by omega]; exact HNBq72.out.cell 0 _ rfl) (by omega) hSq69.size ?_
          intro vq73 wq74 hoq75 gq76 hqq77
          have HO8 := Lib.hid hoq75
          have HG8 := Lib.hid gq76
          have HQ8 := Lib.hid hqq77
          refine hK.out _ _ (hSq69.grown gq76 hSq69.size (fun q e => (hHq71.out.ints.lt q e).1)) (fun hSq78 => ?_)
          clear hK K hSq69 hoq75 gq76 hqq77 HNBq72
          refine wpAnyH_take (i := 8) (v := .pointer (some ⟨M, 33, none⟩)) rfl (by kernel_rfl) (by kernel_rfl) (by kernel_rfl) (fun _ _ _ h => h) (Or.inl ⟨by rfl, fun x hx => by go_simp⟩) hSq78 ?_
          simp only [Act.put, List.getElem_toArray, List.getElem_cons_zero, List.getElem_cons_succ, List.setIfInBounds_toArray, List.set_cons_zero, List.set_cons_succ]
          refine wpAnyH_ready (rs := [9]) (by kernel_rfl) (by simp) ?_
          refine AllReadyH.cons rfl (fun K hK => ?_) AllReadyH.nil
          rw [if_pos (by rfl)]
          refine wp_store1 24 (.tmp 78) (.tmp 77) rfl M 33 vq73 (by rfl) (by rfl) _ _ (hHq71.out.m.grown HG8.out (fun e => own_ne hHq71.out.ints hHq71.out.m (by decide) e.symm)) (by simp [rcells, HA.out]) Try.sizeInts (own_cells HO8.out) (own_onecell HO8.out) ?_
          intro wq79 hbq80 gq81
          rw [rcells_set _ _ _ _ HA.out] at hbq80
          have HS9 := Lib.hid (hHq71.out.addTaken HO8.out HG8.out HQ8.out hbq80 gq81)
          refine hK.out _ _ (hSq78.grown gq81 hSq78.size (fun q e => by cases e; exact HS9.out.bm)) (fun hSq82 => ?_)
          clear hK K hSq78 hbq80 gq81 hHq71 HO8 HG8 HQ8
          refine wpAnyH_done (by kernel_rfl) ?_ _
          generalize hA9 : (fun q => A6 q ∨ vq73.ownBlock = some q) = A9 at HS9
          clear hA9 hSq82
          go_wp2_with fail
          go_roundw
          case rel => exact ⟨i + 1, tk ++ [x.toNat], ks ++ [kk], _, A9, by omega, by go_num, HS9, Lib.hid (fun y hy => (List.mem_append.1 hy).elim (hTK.out y) (fun h => by rw [List.mem_singleton.1 h]; exact hxB)), Lib.hid (by have := HRL.out tk x.toNat hxB; omega), Lib.hid (by simp; omega), HKL⟩
          case measure => simp [intOf]; omega
        refine AllReadyH.cons rfl (fun K hK => ?_) AllReadyH.nil
        rw [if_pos (by rfl)]
        refine wp_bsInt 24 (.tmp 75) rfl x (by rfl) Try.underlying24 Try.infoInt2 ?_
        have bq84 := below_alloc1 (World.drew w6) (.cells #[.int .i64 x] 3)
        have hHq85 := Lib.hid (hHq67.out.below bq84)
        have HNBq86 := Lib.hid (Blk.new (World.drew w6) #[.int .i64 x] 3)
        refine hK.out _ _ (hSq66.trans (bq84.mono (hSq66.size))) (fun hSq83 => ?_)
        clear hK K hSq66 bq84
        refine wpAnyH_ready (rs := [1]) (by kernel_rfl) (by simp) ?_
        refine AllReadyH.cons rfl (fun K hK => ?_) AllReadyH.nil
        rw [if_pos (by rfl)]
        refine wp_load1 24 (.tmp 70) rfl M 33 (by rfl) _ _ (hHq85.out.m.cell 33 _ (rcells_taken a B _ HA.out)) Try.underlying24 rfl ?_
        refine hK.out _ _ hSq83 (fun hSq87 => ?_)
        clear hK K hSq83
        refine wpAnyH_ready (rs := [7]) (by kernel_rfl) (by simp) ?_
        refine AllReadyH.cons rfl (fun K hK => ?_) AllReadyH.nil
        rw [if_pos (by rfl)]
        refine wp_append_placeP (.tmp 71) (.tmp 76) rfl W0.heap.size _ tk (by rfl) hHq85.out.ints ((World.drew w6).heap.size) 1 x.toNat (by rfl) (by rw [show ((x.toNat : Nat) : Int) = x by omega]; exact HNBq86.out.cell 0 _ rfl) (by omega) hSq87.size ?_
        intro vq88 wq89 hoq90 gq91 hqq92
        have HO8 := Lib.hid hoq90
        have HG8 := Lib.hid gq91
        have HQ8 := Lib.hid hqq92
        refine hK.out _ _ (hSq87.grown gq91 hSq87.size (fun q e => (hHq85.out.ints.lt q e).1)) (fun hSq93 => ?_)
        clear hK K hSq87 hoq90 gq91 hqq92 HNBq86
        refine wpAnyH_take (i := 8) (v := .pointer (some ⟨M, 33, none⟩)) rfl (by kernel_rfl) (by kernel_rfl) (by kernel_rfl) (fun _ _ _ h => h) (Or.inl ⟨by rfl, fun x hx => by go_simp⟩) hSq93 ?_
        simp only [Act.put, List.getElem_toArray, List.getElem_cons_zero, List.getElem_cons_succ, List.setIfInBounds_toArray, List.set_cons_zero, List.set_cons_succ]
        refine wpAnyH_ready (rs := [9]) (by kernel_rfl) (by simp) ?_
        refine AllReadyH.cons rfl (fun K hK => ?_) AllReadyH.nil
        rw [if_pos (by rfl)]
        refine wp_store1 24 (.tmp 78) (.tmp 77) rfl M 33 vq88 (by rfl) (by rfl) _ _ (hHq85.out.m.grown HG8.out (fun e => own_ne hHq85.out.ints hHq85.out.m (by decide) e.symm)) (by simp [rcells, HA.out]) Try.sizeInts (own_cells HO8.out) (own_onecell HO8.out) ?_
        intro wq94 hbq95 gq96
        rw [rcells_set _ _ _ _ HA.out] at hbq95
        have HS9 := Lib.hid (hHq85.out.addTaken HO8.out HG8.out HQ8.out hbq95 gq96)
        refine hK.out _ _ (hSq93.grown gq96 hSq93.size (fun q e => by cases e; exact HS9.out.bm)) (fun hSq97 => ?_)
        clear hK K hSq93 hbq95 gq96 hHq85 HO8 HG8 HQ8
        refine wpAnyH_done (by kernel_rfl) ?_ _
        generalize hA9 : (fun q => A6 q ∨ vq88.ownBlock = some q) = A9 at HS9
        clear hA9 hSq97
        go_wp2_with fail
        go_roundw
        case rel => exact ⟨i + 1, tk ++ [x.toNat], ks ++ [kk], _, A9, by omega, by go_num, HS9, Lib.hid (fun y hy => (List.mem_append.1 hy).elim (hTK.out y) (fun h => by rw [List.mem_singleton.1 h]; exact hxB)), Lib.hid (by have := HRL.out tk x.toNat hxB; omega), Lib.hid (by simp; omega), HKL⟩
        case measure => simp [intOf]; omega
      · subst htk2
        clear hx1 hx2
        go_wp2_with (first | ((with_reducible show wpList _ _ _ (⟨some 14, _, _, _, _, _⟩ :: _) _ _); refine wpList_allocZ rfl 23 rfl _ Try.zeroHash ?_; intro wa hsa ba hna) | ((with_reducible show wpList _ _ _ (⟨none, Op.store _ (.tmp 14) _, _, _, _, _⟩ :: _) _ _); refine wpList_storeBlk rfl 23 (.tmp 14) (.tmp 62) rfl (w5.heap.size) ((kk.map bv).toArray) (by rfl) (by rfl) _ _ hna (by rw [bv_size, HKK.out]; exact Try.sizeHash) (by rw [bv_size, HKK.out, Z32_size]) (bv_all _) ?_; intro wb hKb gb; have bb9 := below_new ba gb (Nat.le_refl _) ba.size; have HS9 := Lib.hid (HS5.out.below bb9); clear bb9 ba hna gb hsa hKb HS5 hb5))
        go_roundw
        case rel => exact ⟨i + 1, tk2, ks, _, A', by omega, by go_num, HS9, hTK, Lib.hid (by omega), Lib.hid (by omega), Lib.hid (by omega)⟩
        case measure => simp [intOf]; omega
    · obtain rfl : i = len := by omega
      have HTB : Hid (∀ z ∈ tk, z < 4294967296) := fun z hz => by have := hTK.out z hz; have := HPOW.out; omega
      have hbS := hS.out.bel
      have hmS := hS.out.m
      clear hTK CT HRL
      obtain ⟨tao, tc, rfl⟩ := own_slice hS.out.ints
      go_wp2_with ((with_reducible show wpList _ _ _ (⟨some 79, _, _, _, _, _⟩ :: _) _ _); refine wpList_load_mid rfl 33 (.tmp 11) rfl (M) 0 (by rfl) (rcells a B (.slice tao tk.length tc)) _ (blk_rangeP hmS) Try.underlying33 rfl (by rw [rcells_len _ _ _ HA.out]; exact Try.sizeR6) ?_)
      have ltq100 : M < wr.heap.size := hmS.lt
      refine (CS.out _ _ _ hS.out.intsA (by omega) HTB.out (by omega)).mono ?_
      rintro e wq98 ⟨lv, rfl, hlv, bq99⟩
      have hCq101 := Lib.hid (hS.out.below bq99)
      have hCq102 := hmS.below bq99 hmS.lt
      have hBq103 := hbS.trans (bq99.mono (hbS.size))
      clear hS hmS hbS
      clear bq99
      have hHq104 := Lib.hid hlv
      clear hlv
      go_wp2_with fail
      obtain ⟨hs, hhs⟩ : ∃ l, l = (row tk).map Sd.h := ⟨_, rfl⟩
      have HHS := Lib.hid hhs
      have hsl : hs.length = (row tk).length := by rw [hhs, List.length_map]
      clear hhs
      obtain ⟨lao, lc, rfl⟩ : ∃ ao c, lv = .slice ao hs.length c := by obtain ⟨ao, c, e, _⟩ := hHq104.out.slice; exact ⟨ao, c, by rw [hsl]; exact e⟩
      have hsb : hs.length ≤ 1000 := by rw [hsl]; omega
      have HSL : Hid (hs.length = (row tk).length) := hsl
      clear hsl
      have HZ := hCq101
      have HLV := hHq104
      have hZM := HZ.out.m
      clear hCq102 hBq103 CS
      obtain ⟨z0, hz0⟩ : ∃ z, z = wq98 := ⟨_, rfl⟩
      rw [← hz0] at HZ HLV hZM
      have hbz : Below z0.heap.size z0 wq98 := by rw [hz0]; exact Below.refl _ _
      have HBZ := Lib.hid hbz
      have HSZ : Hid (W0.heap.size ≤ z0.heap.size) := HZ.out.bsize
      clear hbz
      go_loopw [17, 18] (fun fv j wr2 => ∃ (k : Nat) (fw : Value), fv = fw ∧ k ≤ tk.length ∧ j = .int .i64 k ∧ Hid (RFactsOwn (fun _ => False) wr2 z0.heap.size fw (ndk tk k)) ∧ Hid (Below z0.heap.size z0 wr2)) (fun _ j _ => tk.length - (intOf j).toNat)
      case atStart => exact ⟨0, _, rfl, by omega, rfl, Lib.hid (by rw [HNK0.out]; exact RFactsOwn.nil _ _ _), HBZ⟩
      case round =>
        obtain ⟨k, fw, rfl, hk, rfl, hF, hB2⟩ := hrel
        obtain ⟨wr2, rfl⟩ : ∃ z, z = wr := ⟨_, rfl⟩
        clear HBZ
        have hMw := hZM.below hB2.out hZM.lt
        have hcM := hMw.cell 33 _ (rcells_taken a B _ HA.out)
        by_cases hkl : k < tk.length
        · obtain ⟨p, hp⟩ : ∃ p, tk[k]? = some p := ⟨_, List.getElem?_eq_getElem hkl⟩
          obtain ⟨tg, too, rfl, hcp⟩ := HZ.out.intsA.cell k p hp
          have hpb := HTB.out p (List.mem_of_getElem? hp)
          obtain ⟨fl, hfl⟩ : ∃ l, l = FT (tk.take k) p := ⟨_, rfl⟩
          have HNS : Hid (ndk tk (k + 1) = fl.foldl noteT (ndk tk k)) := by
            show _ = _
            rw [HNKS.out, List.getD_eq_getElem?_getD, hp, hfl]; rfl
          have hfl9 : fl.length ≤ 9 := by rw [hfl]; exact HFL.out _ _
          have HFOK : Hid (∀ m, FsOk ((fl.take m).foldl noteT (ndk tk k)) (9 * k + m)) := fun m => ((HNK.out tk k).fold (fun f hf => HFS.out (tk.take k) p f (by rw [← hfl]; exact List.mem_of_mem_take hf))).mono (by rw [List.length_take]; omega)
          have HFK : Hid (∀ f ∈ fl, FOk f) := fun f hf => (HFS.out (tk.take k) p f (by rw [← hfl]; exact hf)).1
          have HIK : Hid (IntsA z0 (.slice (some ⟨tg, too, none⟩) k tc) (tk.take k)) := HZ.out.intsA.take k hk (by intro e; rw [e] at hkl; simp at hkl)
          have HCP : Hid (CellIs z0 tg (too + k) (.int .i64 (p : Int))) := ⟨hcp, ints_lt HZ.out.intsA⟩
          have cF : ∀ y, wr2.heap.size = y.heap.size → IntsA y (.slice (some ⟨tg, too, none⟩) k tc) (tk.take k) → Calls Try.prog 21 #[.agg (rcells a B (.slice (some ⟨tg, too, none⟩) k tc)).toArray, .int .i64 p] y fun e w' => ∃ v', e = .returned v' ∧ RFactsOwn (fun _ => False) w' wr2.heap.size v' fl ∧ Below y.heap.size y w' := fun y hy h => by
            rw [hfl, hy]
            exact CF.out _ _ p y h (by rw [List.length_take]; omega) (fun z hz => HTB.out z (List.mem_of_mem_take hz)) hpb
          have hcap : k ≤ tc := by
            have := ints_cap HZ.out.ints
            omega
          have hkk2 : k ≤ tk.length := hk
          have hAw := HA0.out.below (HZ.out.bel) HA0.out.lt
          have hAw2 := hAw.below hB2.out hAw.lt
          have hBw2 := hB2.out
          clear hp hcp hfl hAw
          go_wp2_with fail
          refine wp_region_held_drew (S := fun x => Blk x (w.heap.size) (a.map bv).toArray 23 ∧ Blk x (M) (rcells a B (.slice (some ⟨tg, too, none⟩) tk.length tc)).toArray 33 ∧ Below z0.heap.size z0 x) (by kernel_rfl) ⟨hAw2.drew, hMw.drew, below_drewN hBw2 1⟩ (fun hSq105 => ?_)
          have hHq106 := Lib.hid (hF.out.drew)
          refine wpAnyH_take (i := 0) rfl (by kernel_rfl) (by kernel_rfl) (by kernel_rfl) (fun _ _ _ h => h) (yieldsIf_load_mid (by rfl) 23 (.tmp 3) rfl (w.heap.size) 0 (by rfl) (a.map bv) _ (fun x hx => blk_rangeP hx.1) Try.underlying23 rfl (by rw [List.length_map, HA.out]; exact Try.sizeHash)) hSq105 ?_
          simp only [Act.put, List.getElem_toArray, List.getElem_cons_zero, List.getElem_cons_succ, List.setIfInBounds_toArray, List.set_cons_zero, List.set_cons_succ]
          refine wpAnyH_take (i := 1) (v := .int .i64 B) rfl (by kernel_rfl) (by kernel_rfl) (by kernel_rfl) (fun _ _ _ h => h) (Or.inl ⟨by rfl, fun x hx => by go_simp⟩) hSq105 ?_
          simp only [Act.put, List.getElem_toArray, List.getElem_cons_zero, List.getElem_cons_succ, List.setIfInBounds_toArray, List.set_cons_zero, List.set_cons_succ]
          refine wpAnyH_take (i := 2) (v := .pointer (some ⟨M, 33, none⟩)) rfl (by kernel_rfl) (by kernel_rfl) (by kernel_rfl) (fun _ _ _ h => h) (Or.inl ⟨by rfl, fun x hx => by go_simp⟩) hSq105 ?_
          simp only [Act.put, List.getElem_toArray, List.getElem_cons_zero, List.getElem_cons_succ, List.setIfInBounds_toArray, List.set_cons_zero, List.set_cons_succ]
          refine wpAnyH_take (i := 3) (v := .slice (some ⟨tg, too, none⟩) tk.length tc) rfl (by kernel_rfl) (by kernel_rfl) (by kernel_rfl) (fun _ _ _ h => h) (Or.inl ⟨by rfl, fun x hx => by have hc := hx.2.1.cell 33 _ (rcells_taken a B _ HA.out); go_simp⟩) hSq105 ?_
          simp only [Act.put, List.getElem_toArray, List.getElem_cons_zero, List.getElem_cons_succ, List.setIfInBounds_toArray, List.set_cons_zero, List.set_cons_succ]
          refine wpAnyH_take (i := 4) (v := .int .i64 k) rfl (by kernel_rfl) (by kernel_rfl) (by kernel_rfl) (fun _ _ _ h => h) (Or.inl ⟨by rfl, fun x hx => by go_simp⟩) hSq105 ?_
          simp only [Act.put, List.getElem_toArray, List.getElem_cons_zero, List.getElem_cons_succ, List.setIfInBounds_toArray, List.set_cons_zero, List.set_cons_succ]
          refine wpAnyH_take (i := 5) (v := .slice (some ⟨tg, too, none⟩) k tc) rfl (by kernel_rfl) (by kernel_rfl) (by kernel_rfl) (fun _ _ _ h => h) (Or.inl ⟨by rfl, fun x hx => by go_simp⟩) hSq105 ?_
          simp only [Act.put, List.getElem_toArray, List.getElem_cons_zero, List.getElem_cons_succ, List.setIfInBounds_toArray, List.set_cons_zero, List.set_cons_succ]
          refine wpAnyH_take (i := 6) rfl (by kernel_rfl) (by kernel_rfl) (by kernel_rfl) (fun _ _ _ h => h) (yieldsIf_build (by rfl) 33 #[(0, .tmp 88), (1, .tmp 89), (2, .tmp 93)] rfl (rcells a B (.slice (some ⟨tg, too, none⟩) k tc)).toArray (HBV.out _ _ _)) hSq105 ?_
          simp only [Act.put, List.getElem_toArray, List.getElem_cons_zero, List.getElem_cons_succ, List.setIfInBounds_toArray, List.set_cons_zero, List.set_cons_succ]
          refine wpAnyH_take (i := 7) (v := .pointer (some ⟨M, 33, none⟩)) rfl (by kernel_rfl) (by kernel_rfl) (by kernel_rfl) (fun _ _ _ h => h) (Or.inl ⟨by rfl, fun x hx => by go_simp⟩) hSq105 ?_
          simp only [Act.put, List.getElem_toArray, List.getElem_cons_zero, List.getElem_cons_succ, List.setIfInBounds_toArray, List.set_cons_zero, List.set_cons_succ]
          refine wpAnyH_take (i := 8) (v := .slice (some ⟨tg, too, none⟩) tk.length tc) rfl (by kernel_rfl) (by kernel_rfl) (by kernel_rfl) (fun _ _ _ h => h) (Or.inl ⟨by rfl, fun x hx => by have hc := hx.2.1.cell 33 _ (rcells_taken a B _ HA.out); go_simp⟩) hSq105 ?_
          simp only [Act.put, List.getElem_toArray, List.getElem_cons_zero, List.getElem_cons_succ, List.setIfInBounds_toArray, List.set_cons_zero, List.set_cons_succ]
          refine wpAnyH_take (i := 9) (v := .int .i64 k) rfl (by kernel_rfl) (by kernel_rfl) (by kernel_rfl) (fun _ _ _ h => h) (Or.inl ⟨by rfl, fun x hx => by go_simp⟩) hSq105 ?_
          simp only [Act.put, List.getElem_toArray, List.getElem_cons_zero, List.getElem_cons_succ, List.setIfInBounds_toArray, List.set_cons_zero, List.set_cons_succ]
          refine wpAnyH_take (i := 10) (v := .pointer (some ⟨tg, too + k, none⟩)) rfl (by kernel_rfl) (by kernel_rfl) (by kernel_rfl) (fun _ _ _ h => h) (Or.inl ⟨by rfl, fun x hx => by go_simp⟩) hSq105 ?_
          simp only [Act.put, List.getElem_toArray, List.getElem_cons_zero, List.getElem_cons_succ, List.setIfInBounds_toArray, List.set_cons_zero, List.set_cons_succ]
          refine wpAnyH_take (i := 11) (v := .int .i64 p) rfl (by kernel_rfl) (by kernel_rfl) (by kernel_rfl) (fun _ _ _ h => h) (Or.inl ⟨by rfl, fun x hx => by have hc := (HCP.out.below hx.2.2).1; go_simp⟩) hSq105 ?_
          simp only [Act.put, List.getElem_toArray, List.getElem_cons_zero, List.getElem_cons_succ, List.setIfInBounds_toArray, List.set_cons_zero, List.set_cons_succ]
          refine wpAnyH_ready (rs := [12]) (by kernel_rfl) (by simp) ?_
          refine AllReadyH.cons rfl (fun K hK => ?_) AllReadyH.nil
          go_simp
          go_wp2_with (go_at_call 21; refine (cF (World.drew wr2) rfl (HIK.out.below hSq105.2.2)).mono ?_; rintro e yq107 ⟨vv, rfl, hvv, bq108⟩; have HVV := Lib.hid hvv; clear hvv)
          have hHq109 := Lib.hid (hHq106.out.below bq108)
          refine hK.out _ _ ⟨hSq105.1.below bq108 hSq105.1.lt, hSq105.2.1.below bq108 hSq105.2.1.lt, hSq105.2.2.trans (bq108.mono (hSq105.2.2.size))⟩ (fun hSq110 => ?_)
          clear hK K hSq105 bq108
          refine wpAnyH_ready (rs := [13]) (by kernel_rfl) (by simp) ?_
          refine AllReadyH.cons rfl (fun K hK => ?_) AllReadyH.nil
          go_simp
          refine hK.out _ _ hSq110 (fun hSq111 => ?_)
          clear hK K hSq110
          refine wpAnyH_done (by kernel_rfl) ?_ _
          have hb3 := hSq111.2.2
          clear hSq111 hAw2 hMw hcM cF HIK HCP
          go_wp2_with fail
          have hvq := HVV.out.lt
          obtain ⟨vao, vc, rfl⟩ := HVV.out.slice4
          have HVQ := Lib.hid hvq
          have HF3 : Hid (RFactsOwn (fun q => (Value.slice vao fl.length vc).ownBlock = some q) yq107 z0.heap.size u17 (ndk tk k)) := by
            obtain ⟨cs, h1, h2, h3, h4⟩ := hHq109.out
            refine ⟨cs, h1, h2, fun q hq ha => ?_, h4⟩
            have h5 := (HVQ.out q ha).1
            have h6 := (hF.out.lt q hq).2
            omega
          have HB3 := Lib.hid hb3
          clear hvq hb3 hHq109 hF
          go_loopw [17, 20] (fun fv j wr3 => ∃ (m : Nat) (fw3 : Value), fv = fw3 ∧ m ≤ fl.length ∧ j = .int .i64 m ∧ Hid (RFactsOwn (fun q => (Value.slice vao fl.length vc).ownBlock = some q) wr3 z0.heap.size fw3 ((fl.take m).foldl noteT (ndk tk k))) ∧ Hid (RFactsOwn (fun _ => False) wr3 wr2.heap.size (.slice vao fl.length vc) fl) ∧ Hid (Below z0.heap.size z0 wr3)) (fun _ j _ => fl.length - (intOf j).toNat)
          case atStart => exact ⟨0, _, rfl, by omega, rfl, HF3, HVV, HB3⟩
          case round =>
            obtain ⟨m, fw3, rfl, hm2, rfl, hF3, hV3, hB3⟩ := hrel
            obtain ⟨wr3, rfl⟩ : ∃ z, z = wr := ⟨_, rfl⟩
            clear HF3 HVV HB3
            by_cases hml : m < fl.length
            · obtain ⟨f, hf⟩ : ∃ f, fl[m]? = some f := ⟨_, List.getElem?_eq_getElem hml⟩
              obtain ⟨g4, c4, xx, zz, e4, hl4, hrg4, hx4, hz4⟩ := hV3.out.item m f hf
              have hfok := HFK.out f (List.mem_of_getElem? hf)
              injection e4 with e5 e6 e7
              subst e5
              have HX4 := Lib.hid (hx4.weak (b2 := z0.heap.size) hB2.out.size)
              have HZ4 := Lib.hid (hz4.weak (b2 := z0.heap.size) hB2.out.size)
              have HNF : Hid ((fl.take (m + 1)).foldl noteT (ndk tk k) = noteT ((fl.take m).foldl noteT (ndk tk k)) f) := IntsAt_take_fold _ _ m f hf
              have hFm := HFOK.out m
              have hFl := hFm.len
              have nH4 : ¬ ((22 : TypeId) = 45) := by decide
              clear hf hx4 hz4 e6 e7
              go_wp2_with ((with_reducible show wpList _ _ _ (⟨some 112, _, _, _, _, _⟩ :: _) _ _); refine wpList_load_mid rfl 45 (.tmp 111) rfl g4 (m * 2) (by rfl) [xx, zz] _ hrg4 Try.underlying45 rfl Try.sizeRF ?_)
              refine (RefNote_calls (A := fun q => (Value.slice (some ⟨g4, 0, none⟩) fl.length vc).ownBlock = some q) _ xx zz f _ z0.heap.size _ hF3.out HX4.out HZ4.out hfok hFm.ok (by omega) hB3.out.size (fun q hq => (hV3.out.lt q hq).2)).mono ?_
              rintro e w7 ⟨fw4, rfl, hF4, hfr4, hB4⟩
              have HF4 := Lib.hid hF4
              have HV4 := Lib.hid (hV3.out.agr hfr4 (fun q h => h) nH4)
              have HB4 := Lib.hid (hB3.out.trans hB4)
              clear hF4 hfr4 hB4 hF3 hV3 hB3 HX4 HZ4 hrg4
              go_wp2_with fail
              go_roundw
              case rel => exact ⟨m + 1, _, rfl, by omega, by go_num, Lib.hid (by rw [HNF.out]; exact HF4.out), HV4, HB4⟩
              case measure => simp [intOf]; omega
            · obtain rfl : m = fl.length := by omega
              have HF5 : Hid (RFactsOwn (fun _ => False) wr3 z0.heap.size u17 (ndk tk (k + 1))) := by
                have := hF3.out.narrow (A' := fun _ => False) (fun q h => h.elim)
                rw [List.take_length] at this
                show RFactsOwn _ _ _ _ _
                rw [HNS.out]; exact this
              clear hF3 hV3
              go_wp2_with fail
              go_roundw
              case rel => exact ⟨k + 1, _, rfl, by omega, by go_num, HF5, hB3⟩
              case measure => simp [intOf]; omega
        · obtain rfl : k = tk.length := by omega
          rw [HNKE.out] at hF
          have HSZ1 := Lib.hid hB2.out.size
          have HLV1 := Lib.hid (HLV.out.below hB2.out)
          have HZ1 := Lib.hid (HZ.out.below hB2.out)
          clear HNK HNKS HNKE HFS HFL CF HBV HNK0 HLV HZ hZM
          go_wp2_with fail
          clear hcM hMw
          have hbz1 := Lib.hid (Below.refl wr2.heap.size wr2)
          go_loopw [21, 22] (fun uv j wr4 => ∃ (m : Nat) (uw : Value), uv = uw ∧ m ≤ hs.length ∧ j = .int .i64 m ∧ Hid (HashOwn wr4 wr2.heap.size 22 uw (hs.take m)) ∧ Hid (Below wr2.heap.size wr2 wr4)) (fun _ j _ => hs.length - (intOf j).toNat)
          case atStart => exact ⟨0, _, rfl, by omega, rfl, Lib.hid (HashOwn.nil _ _ _), hbz1⟩
          case round =>
            obtain ⟨m, uw, rfl, hm3, rfl, hU, hB4⟩ := hrel
            obtain ⟨wr4, rfl⟩ : ∃ z, z = wr := ⟨_, rfl⟩
            clear hbz1
            by_cases hml : m < hs.length
            · obtain ⟨sd, hsd⟩ : ∃ s, (row tk)[m]? = some s := ⟨_, List.getElem?_eq_getElem (by have := HSL.out; omega)⟩
              have hsh : hs[m]? = some sd.h := by rw [HHS.out, List.getElem?_map, hsd]; rfl
              have HSD : Hid (sd.h.length = 32) := HR32.out tk sd (List.mem_of_getElem? hsd)
              have hlv4 := HLV1.out.below hB4.out
              obtain ⟨lg, rfl⟩ : ∃ g, lao = some ⟨g, 0, none⟩ := by
                rcases hlv4.2 with ⟨_, e⟩ | ⟨g, c, e, _⟩
                · rw [e] at hsd; simp at hsd
                · injection e with e1 e2 e3; exact ⟨g, e1⟩
              have hrg := range_hashD (hlv4.range m sd hsd)
              have HTN : Hid (hs.take (m + 1) = hs.take m ++ [sd.h]) := by show _ = _; rw [List.take_add_one, hsh]; rfl
              have hbw4 := hB4.out
              have HUL : Hid ((hs.take m).length ≤ 1000) := by show _ ≤ _; rw [List.length_take]; have := HSL.out; omega
              clear hsd hsh hlv4
              go_wp2_with (first | ((with_reducible show wpList _ _ _ (⟨some 127, _, _, _, _, _⟩ :: _) _ _); refine wpList_load_mid rfl 22 (.tmp 126) rfl lg (m * 34 + 2) (by rfl) (sd.h.map bv) _ hrg Try.underlying22 rfl (by rw [List.length_map, HSD.out]; exact Try.sizeA32) ?_) | ((with_reducible show wpList _ _ _ (⟨some 128, _, _, _, _, _⟩ :: _) _ _); refine wpList_bsH rfl 43 22 (.tmp 127) rfl sd.h HSD.out (by rfl) Try.underlying43 Try.infoH2 ?_; intro qb wb eb sb bb nb; have hU2 := Lib.hid (hU.out.below bb); have hB5 := hbw4.trans (bb.mono hbw4.size); clear hU bb hbw4 hrg) | ((with_reducible show wpList _ _ _ (⟨some 129, _, _, _, _, _⟩ :: _) _ _); refine wpList_append_hsP rfl (.tmp 122) (.tmp 128) 43 rfl wr2.heap.size 22 Try.underlying43 ⟨rfl, Try.infoH3⟩ _ (hs.take m) [sd.h] (by rfl) hU2.out _ (by rfl) (HashesAt.one nb HSD.out (by omega)) (by have := HUL.out; rw [List.length_singleton]; omega) hB5.size ?_; intro v8 w8 hk8 g8 hq8))
              have HU8 := Lib.hid hk8
              have HB8 := Lib.hid (hB5.grown g8 hB5.size (fun q e => (hU2.out.lt q e).1))
              clear hk8 g8 hq8 hB5 hU2 nb eb sb hB4
              go_wp2_with fail
              go_roundw
              case rel => exact ⟨m + 1, _, rfl, by omega, by go_num, Lib.hid (by rw [HTN.out]; exact HU8.out), HB8⟩
              case measure => simp [intOf]; omega
            · obtain rfl : m = hs.length := by omega
              rw [List.take_length] at hU
              have HF6 := Lib.hid (hF.out.below hB4.out).at
              have HS6 := Lib.hid (HZ1.out.below hB4.out)
              have hnl := HNO.out tk
              have huv := hnl.univLe (a := hs) (by have := HSL.out; omega) (by omega)
              have hfl := hnl.len
              have hfi := hnl.ins
              have hbS6 := HS6.out.bel
              clear hF HZ1
              go_wp2_with fail
              refine (RefFollows_calls _ _ (nd tk) hs _ HF6.out hU.out.at hnl.ok huv (by omega)).mono ?_
              rintro e w9 ⟨v9, R9, rfl, hR9, hrise, hmem, b9⟩
              have HR9 := Lib.hid hR9.at
              have HMEM := Lib.hid hmem
              have HS9 := Lib.hid (HS6.out.below b9)
              have hR9l : R9.length ≤ 500000 := Nat.le_trans (nodup_len hrise.nodup fun x hx => ((hmem x).1 hx).univ) huv
              have HUV := Lib.hid huv
              clear hR9 hmem hrise b9 HS6 HF6 hU hbS6 huv
              go_wp2_with fail
              refine (CX.out r tk _ HS9.out.rowAt (by omega)).mono ?_
              rintro e w10 ⟨v10, rfl, hX10, b10⟩
              have HX10 : Hid (HashesAt w10 v10 hs) := by show HashesAt _ _ _; rw [HHS.out]; exact hX10.at
              have HR10 := Lib.hid (HR9.out.below b10)
              have HS10 := Lib.hid (HS9.out.below b10)
              obtain ⟨xao, xc, rfl, _⟩ := HX10.out.slice
              clear hX10 b10 HR9 HS9 CX
              go_wp2_with fail
              have hb11 := Lib.hid (Below.refl w10.heap.size w10)
              obtain ⟨kao, kc, rfl⟩ := HS10.out.keys.slice
              obtain ⟨fao, fc, rfl, _⟩ := HR10.out.slice
              go_loopw [25] (fun j wr5 => ∃ (m : Nat), m ≤ ks.length ∧ j = .int .i64 m ∧ Hid (Below w10.heap.size w10 wr5)) (fun j _ => ks.length - (intOf j).toNat)
              case atStart => exact ⟨0, by omega, rfl, hb11⟩
              case round =>
                obtain ⟨m, hmk, rfl, hB5⟩ := hrel
                obtain ⟨wr5, rfl⟩ : ∃ z, z = wr := ⟨_, rfl⟩
                clear hb11
                by_cases hml : m < ks.length
                · obtain ⟨q, hq⟩ : ∃ q, ks[m]? = some q := ⟨_, List.getElem?_eq_getElem hml⟩
                  have hkat := HS10.out.keys.at
                  obtain ⟨kg, ko, rfl, _⟩ := hkat.range m q hq
                  have HQ : Hid (q.length = 32) := HS10.out.keys.1 q (List.mem_of_getElem? hq)
                  have HKR : Hid (∀ x, Below w10.heap.size w10 x → x.rangeAt kg (ko + m * 32) (q.map bv)) := fun x hx => (hkat.below hx).range' m q hq
                  obtain ⟨D, hD⟩ : ∃ D, D = decide (q ∈ R9) := ⟨_, rfl⟩
                  have hD2 : D = true ↔ Fol (nd tk) hs q := by rw [hD, decide_eq_true_iff]; exact HMEM.out q
                  have hrd : BookRd w10 bk (nd tk) := (show BookIs _ _ _ _ _ _ _ _ _ ∧ _ from HS10.out.bk).1.rd
                  have HRD := Lib.hid hrd
                  have cK : ∀ y, Below w10.heap.size w10 y → Calls Try.prog 25 #[.pointer (some ⟨bk, 0, none⟩), .agg (q.map bv).toArray, .slice xao hs.length xc] y fun e w' => e = .returned (.bool D) ∧ Below y.heap.size y w' := fun y hy =>
                    Knows_calls _ _ q hs (nd tk) y HQ.out (fun w' hw' => known_calls _ hs bk (nd tk) w' ((HX10.out.below hy).below hw') ((HRD.out.below hy).below hw') HUV.out (by omega) (by omega)) D hD2
                  have cH : ∀ y, Below w10.heap.size w10 y → Calls Try.prog 26 #[.slice fao R9.length fc, .agg (q.map bv).toArray] y fun e w' => e = .returned (.bool D) ∧ Below y.heap.size y w' := fun y hy => by
                    rw [hD]; exact Has_calls _ R9 q HQ.out y (HR10.out.below hy) (by omega)
                  have hb12 := hB5.out
                  clear hq hkat hD hD2 hrd hB5
                  go_wp2_with fail
                  refine wp_region_held_drew (S := fun x => Below w10.heap.size w10 x) (by kernel_rfl) (below_drewN hb12 1) (fun hSq112 => ?_)
                  refine wpAnyH_take (i := 0) (v := .pointer (some ⟨bk, 0, none⟩)) rfl (by kernel_rfl) (by kernel_rfl) (by kernel_rfl) (fun _ _ _ h => h) (Or.inl ⟨by rfl, fun x hx => by go_simp⟩) hSq112 ?_
                  simp only [Act.put, List.getElem_toArray, List.getElem_cons_zero, List.getElem_cons_succ, List.setIfInBounds_toArray, List.set_cons_zero, List.set_cons_succ]
                  refine wpAnyH_take (i := 1) (v := .slice (some ⟨kg, ko, none⟩) ks.length kc) rfl (by kernel_rfl) (by kernel_rfl) (by kernel_rfl) (fun _ _ _ h => h) (Or.inl ⟨by rfl, fun x hx => by go_simp⟩) hSq112 ?_
                  simp only [Act.put, List.getElem_toArray, List.getElem_cons_zero, List.getElem_cons_succ, List.setIfInBounds_toArray, List.set_cons_zero, List.set_cons_succ]
                  refine wpAnyH_take (i := 2) (v := .int .i64 m) rfl (by kernel_rfl) (by kernel_rfl) (by kernel_rfl) (fun _ _ _ h => h) (Or.inl ⟨by rfl, fun x hx => by go_simp⟩) hSq112 ?_
                  simp only [Act.put, List.getElem_toArray, List.getElem_cons_zero, List.getElem_cons_succ, List.setIfInBounds_toArray, List.set_cons_zero, List.set_cons_succ]
                  refine wpAnyH_take (i := 3) (v := .pointer (some ⟨kg, ko + m * 32, none⟩)) rfl (by kernel_rfl) (by kernel_rfl) (by kernel_rfl) (fun _ _ _ h => h) (Or.inl ⟨by rfl, fun x hx => by go_simp⟩) hSq112 ?_
                  simp only [Act.put, List.getElem_toArray, List.getElem_cons_zero, List.getElem_cons_succ, List.setIfInBounds_toArray, List.set_cons_zero, List.set_cons_succ]
                  refine wpAnyH_take (i := 4) rfl (by kernel_rfl) (by kernel_rfl) (by kernel_rfl) (fun _ _ _ h => h) (yieldsIf_load_mid (by rfl) 23 (.tmp 144) rfl (kg) (ko + m * 32) (by rfl) (q.map bv) _ (fun x hx => HKR.out x hx) Try.underlying23 rfl (by rw [List.length_map, HQ.out]; exact Try.sizeHash)) hSq112 ?_
                  simp only [Act.put, List.getElem_toArray, List.getElem_cons_zero, List.getElem_cons_succ, List.setIfInBounds_toArray, List.set_cons_zero, List.set_cons_succ]
                  refine wpAnyH_take (i := 5) (v := .slice xao hs.length xc) rfl (by kernel_rfl) (by kernel_rfl) (by kernel_rfl) (fun _ _ _ h => h) (Or.inl ⟨by rfl, fun x hx => by go_simp⟩) hSq112 ?_
                  simp only [Act.put, List.getElem_toArray, List.getElem_cons_zero, List.getElem_cons_succ, List.setIfInBounds_toArray, List.set_cons_zero, List.set_cons_succ]
                  refine wpAnyH_take (i := 7) (v := .slice fao R9.length fc) rfl (by kernel_rfl) (by kernel_rfl) (by kernel_rfl) (fun _ _ _ h => h) (Or.inl ⟨by rfl, fun x hx => by go_simp⟩) hSq112 ?_
                  simp only [Act.put, List.getElem_toArray, List.getElem_cons_zero, List.getElem_cons_succ, List.setIfInBounds_toArray, List.set_cons_zero, List.set_cons_succ]
                  refine wpAnyH_take (i := 8) (v := .slice (some ⟨kg, ko, none⟩) ks.length kc) rfl (by kernel_rfl) (by kernel_rfl) (by kernel_rfl) (fun _ _ _ h => h) (Or.inl ⟨by rfl, fun x hx => by go_simp⟩) hSq112 ?_
                  simp only [Act.put, List.getElem_toArray, List.getElem_cons_zero, List.getElem_cons_succ, List.setIfInBounds_toArray, List.set_cons_zero, List.set_cons_succ]
                  refine wpAnyH_take (i := 9) (v := .int .i64 m) rfl (by kernel_rfl) (by kernel_rfl) (by kernel_rfl) (fun _ _ _ h => h) (Or.inl ⟨by rfl, fun x hx => by go_simp⟩) hSq112 ?_
                  simp only [Act.put, List.getElem_toArray, List.getElem_cons_zero, List.getElem_cons_succ, List.setIfInBounds_toArray, List.set_cons_zero, List.set_cons_succ]
                  refine wpAnyH_take (i := 10) (v := .pointer (some ⟨kg, ko + m * 32, none⟩)) rfl (by kernel_rfl) (by kernel_rfl) (by kernel_rfl) (fun _ _ _ h => h) (Or.inl ⟨by rfl, fun x hx => by go_simp⟩) hSq112 ?_
                  simp only [Act.put, List.getElem_toArray, List.getElem_cons_zero, List.getElem_cons_succ, List.setIfInBounds_toArray, List.set_cons_zero, List.set_cons_succ]
                  refine wpAnyH_take (i := 11) rfl (by kernel_rfl) (by kernel_rfl) (by kernel_rfl) (fun _ _ _ h => h) (yieldsIf_load_mid (by rfl) 23 (.tmp 151) rfl (kg) (ko + m * 32) (by rfl) (q.map bv) _ (fun x hx => HKR.out x hx) Try.underlying23 rfl (by rw [List.length_map, HQ.out]; exact Try.sizeHash)) hSq112 ?_
                  simp only [Act.put, List.getElem_toArray, List.getElem_cons_zero, List.getElem_cons_succ, List.setIfInBounds_toArray, List.set_cons_zero, List.set_cons_succ]
                  refine wpAnyH_ready (rs := [6]) (by kernel_rfl) (by simp) ?_
                  refine AllReadyH.cons rfl (fun K hK => ?_) AllReadyH.nil
                  go_simp
                  go_wp2_with (go_at_call 25; refine (cK _ hSq112).mono ?_; rintro e yq113 ⟨rfl, bq114⟩)
                  refine hK.out _ _ (hSq112.trans (bq114.mono (hSq112.size))) (fun hSq115 => ?_)
                  clear hK K hSq112 bq114
                  refine wpAnyH_ready (rs := [12]) (by kernel_rfl) (by simp) ?_
                  refine AllReadyH.cons rfl (fun K hK => ?_) AllReadyH.nil
                  go_simp
                  go_wp2_with (go_at_call 26; refine (cH _ hSq115).mono ?_; rintro e yq116 ⟨rfl, bq117⟩)
                  refine hK.out _ _ (hSq115.trans (bq117.mono (hSq115.size))) (fun hSq118 => ?_)
                  clear hK K hSq115 bq117
                  refine wpAnyH_take (i := 13) (v := .bool false) rfl (by kernel_rfl) (by kernel_rfl) (by kernel_rfl) (fun _ _ _ h => h) (Or.inl ⟨by rfl, fun x hx => by go_simp⟩) hSq118 ?_
                  simp only [Act.put, List.getElem_toArray, List.getElem_cons_zero, List.getElem_cons_succ, List.setIfInBounds_toArray, List.set_cons_zero, List.set_cons_succ]
                  refine wpAnyH_done (by kernel_rfl) ?_ _
                  have HB7 := Lib.hid hSq118
                  clear hSq118 cK cH
                  go_wp2_with fail
                  go_roundw
                  case rel => exact ⟨m + 1, by omega, by go_num, HB7⟩
                  case measure => simp [intOf]; omega
                · have hbe := HS10.out.bel.trans (hB5.out.mono HS10.out.bsize)
                  have hfin := HB0.out.trans (hbe.mono HB0.out.size)
                  clear hB5
                  go_wp2_with fail
                  go_returns
                  exact ⟨rfl, hfin⟩
end Go.Proofs.Ytlomofcnknpciaa
