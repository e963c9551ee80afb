/-
  PprNotes: what looking and taking note is what the document says: of any secrets just that follows.
-/
import Derived.Test.YtlomofcnknpciaaPprTwo
import Derived.Test.YtlomofcnknpciaaPprAwake
import Derived.Test.YtlomofcnknpciaaBookRefFol
import Derived.Test.YtlomofcnknpciaaBookKnown
import Derived.Test.YtlomofcnknpciaaBookOpen
import Derived.Test.YtlomofcnknpciaaRd
set_option linter.unusedSimpArgs false
set_option linter.unusedVariables false
namespace Go.Proofs.Ytlomofcnknpciaa
open Go.RowKit

theorem IntsAt_take_fold (l : List FactT) (fs : List FactT) (m : Nat) (f : FactT) (h : l[m]? = some f) : (l.take (m + 1)).foldl noteT fs = noteT ((l.take m).foldl noteT fs) f := by
  rw [List.take_add_one, List.foldl_append, h]; rfl
theorem ints_cap {w : World} {base : Nat} {e : TypeId} {size n c : Nat} {ao : Option Addr} {xs : List Value} (h : w.ownsRow base e size (.slice ao n c) n xs) : n ≤ c := by
  rcases h.2 with ⟨h0, h1⟩ | ⟨g, cap, cur, e1, hb, hg, h1, _⟩
  · injection h0 with _ h2 h3; omega
  · injection e1 with _ _ h3; omega
theorem ints_lt {w : World} {g o n c : Nat} {tk : List Nat} (h : IntsA w (.slice (some ⟨g, o, none⟩) n c) tk) : g < w.heap.size := by
  rcases h with ⟨e, _⟩ | ⟨g', o', c', e, h, _⟩
  · cases e
  · injection e with e1 e2 e3
    simp only [Option.some.injEq, Addr.mk.injEq] at e1
    rw [e1.1]; exact h
theorem elems_lt {α : Type} {cells : α → List Value} {size : Nat} {w : World} {g off len : Nat} {xs : List α} (h : Elems cells size w (some ⟨g, off, none⟩) len xs) (h0 : 0 < len) : g < w.heap.size := by
  rcases h.2 with h1 | ⟨b, o, e, hlt, _⟩
  · omega
  · simp only [Option.some.injEq, Addr.mk.injEq] at e
    rw [e.1]; exact hlt
theorem range_hashD {w : World} {g i : Nat} {s : Sd} (h : w.rangeAt g (34 * i) s.cells) : w.rangeAt g (i * 34 + 2) (s.h.map bv) := fun j u hj => by
  have := h (j + 2) u (by rw [Sd.cells]; exact hj)
  rw [show i * 34 + 2 + j = 34 * i + (j + 2) by omega]
  exact this
theorem callsLt {w : World} {g off len : Nat} {xs : List CallA} (h : Calls6 w (some ⟨g, off, none⟩) len xs) (h0 : 0 < len) : g < w.heap.size := elems_lt h h0
set_option maxHeartbeats 40000000 in
set_option maxRecDepth 100000 in
theorem walkPprNotes {H : Type} {enc : TypeId × Value → H} {w : World} {base : Nat} {spare : Nat → Bool} {held : Bool} {R : Reach} {b0 : Nat} {d : DataW H} {pl : List MemPlace} (a : List UInt8) (ha : a.length = 32) (b : Int) (hwb : (Lit.int .u8 b).wf = true) (v : Value)
    (hv : Value.okWide Try.prog w R b0 93 v) (hd : DataW.Trod enc Try.prog w base spare held 93 v d pl) (v3 : Value) (L : List HsT) (hL : HashesAt w v3 L) (hLm : L.length ≤ maxLen) :
    Calls Try.prog 11 #[.agg (a.map bv).toArray, .int .u8 b, v, v3] w fun e w' => e = .returned (.bool true) ∧ Below w.heap.size w w' := by
  obtain ⟨ao, len, cap, xs, rfl, hm, hE, hxs⟩ := open_elems (cells := CallA.cells) (size := 2) (ok := fun c => -9223372036854775808 ≤ c.p ∧ c.p ≤ 9223372036854775807) Try.underlying93 Try.cellsCall (fun _ => ⟨by simp [CallA.cells], by simp [CallA.cells]⟩) (fun l m y hl => trod_call hl) hv hd
  clear hv hd
  unfold maxLen at hm hLm
  obtain ⟨fao, fc, rfl, hfc⟩ := hL.slice
  obtain ⟨fn, hfn⟩ : ∃ n, n = L.length := ⟨_, rfl⟩
  rw [← hfn] at hL hLm hfc ⊢
  have HFN := Lib.hid hfn
  have HA := Lib.hid ha
  obtain ⟨hq1, hq2⟩ := bounds_u8 hwb
  clear hwb hfn
  have hA0 : Blk (w.alloc (.cells (a.map bv).toArray 23)) w.heap.size (a.map bv).toArray 23 := Blk.new _ _ _
  have hb0 : Below w.heap.size w (w.alloc (.cells (a.map bv).toArray 23)) := below_alloc1 _ _
  have HE0 := Lib.hid (hE.below hb0)
  have HL0 := Lib.hid (hL.below hb0)
  have HXS := Lib.hid hxs
  clear hE hxs hL
  by_cases h24n : 24 < len
  · clear ha
    go_enter Try.func11, Try.ntmps11
    go_wp2_with fail
    generalize w.alloc (.cells (a.map bv).toArray 23) = W0 at hA0 hb0 HE0 HL0 ⊢
    have hbW := Below.refl W0.heap.size W0
    have hAw := hA0
    have HA0 := Lib.hid hA0
    have HB0 := Lib.hid hb0
    clear hA0 hb0
    have ltq3 : w.heap.size < W0.heap.size := hAw.lt
    refine (awake6_calls _).mono ?_
    rintro e wq1 ⟨rfl, bq2⟩
    have hCq4 := hAw.below bq2 hAw.lt
    have hBq5 := hbW.trans (bq2.mono (hbW.size))
    clear hAw hbW
    clear bq2
    go_wp2_with fail
    have ltq8 : w.heap.size < wq1.heap.size := hCq4.lt
    refine (awake6_calls _).mono ?_
    rintro e wq6 ⟨rfl, bq7⟩
    have hCq9 := hCq4.below bq7 hCq4.lt
    have hBq10 := hBq5.trans (bq7.mono (hBq5.size))
    clear hCq4 hBq5
    clear bq7
    go_wp2_with fail
    go_returns
    exact ⟨rfl, HB0.out.trans (hBq10.mono HB0.out.size)⟩
  by_cases h24n : 24 < fn
  · clear ha
    go_enter Try.func11, Try.ntmps11
    go_wp2_with fail
    generalize w.alloc (.cells (a.map bv).toArray 23) = W0 at hA0 hb0 HE0 HL0 ⊢
    have hbW := Below.refl W0.heap.size W0
    have hAw := hA0
    have HA0 := Lib.hid hA0
    have HB0 := Lib.hid hb0
    clear hA0 hb0
    have ltq13 : w.heap.size < W0.heap.size := hAw.lt
    refine (awake6_calls _).mono ?_
    rintro e wq11 ⟨rfl, bq12⟩
    have hCq14 := hAw.below bq12 hAw.lt
    have hBq15 := hbW.trans (bq12.mono (hbW.size))
    clear hAw hbW
    clear bq12
    go_wp2_with fail
    have ltq18 : w.heap.size < wq11.heap.size := hCq14.lt
    refine (awake6_calls _).mono ?_
    rintro e wq16 ⟨rfl, bq17⟩
    have hCq19 := hCq14.below bq17 hCq14.lt
    have hBq20 := hBq15.trans (bq17.mono (hBq15.size))
    clear hCq14 hBq15
    clear bq17
    go_wp2_with fail
    go_returns
    exact ⟨rfl, HB0.out.trans (hBq20.mono HB0.out.size)⟩
  have hlen24 : len ≤ 24 := by omega
  have hfn24 : fn ≤ 24 := by omega
  obtain ⟨B, hB⟩ : ∃ B : Nat, 1 + b % 8 = (B : Int) := ⟨(1 + b % 8).toNat, by omega⟩
  have hB1 : 1 ≤ B := by omega
  have hB8 : B ≤ 8 := by omega
  obtain ⟨row, hrow⟩ : ∃ f : List Nat → List Sd, f = rowT a B := ⟨_, rfl⟩
  obtain ⟨FT, hFT⟩ : ∃ f : List Nat → Nat → List FactT, f = factsT a B := ⟨_, rfl⟩
  have hr0 : row [] = [⟨0, 0, a⟩] := by rw [hrow]; exact row_new a B ha
  have HFS : Hid (∀ tk p, ∀ f ∈ FT tk p, FOk f ∧ f.ins.length ≤ 1 ∧ f.outs.length ≤ 2) := fun tk p => by rw [hFT]; exact factsT_small B tk p ha
  have HFL : Hid (∀ tk p, (FT tk p).length ≤ 9) := fun tk p => by rw [hFT]; exact Nat.le_trans (factsK_len a B tk p (B + 1)) (by omega)
  have hpow : (2 ^ B : Nat) ≤ 256 := Nat.pow_le_pow_right (n := 2) (by omega) hB8
  have HPOW := Lib.hid hpow
  have HRL : Hid (∀ tk p, p < 2 ^ B → (row (tk ++ [p])).length ≤ (row tk).length + 16) := fun tk p hp => by
    have := row_len a B p tk hp
    rw [hrow]; omega
  have c5 : ∀ y, Calls Try.prog 18 #[.agg (a.map bv).toArray, .int .i64 B] y fun e w' => ∃ r v, e = .returned (.tuple #[.pointer (some ⟨r, 0, none⟩), .int .i64 0]) ∧ y.heap.size ≤ r ∧ Blk w' r #[.int .i64 B, v] 138 ∧ SeedsAt w' v [⟨0, 0, a⟩] ∧ (∀ q, v.ownBlock = some q → y.heap.size ≤ q) ∧ Below y.heap.size y w' := fun y => New6B_calls a B y ha hB1 (by omega)
  -- the calls by whether the place is there and was taken
  have CW : Hid (∀ (v : Value) (x : Int) (y : World), Calls Try.prog 47 #[.agg (rcells a B v).toArray, .int .i64 x] y fun e w' => e = .returned (.bool (withinT B x)) ∧ Below y.heap.size y w') := fun v x y => RWithin_calls a B v x y ha (by omega)
  have CG : Hid (∀ (v : Value) (tk : List Nat) (x : Int) (y : World), IntsA y v tk → tk.length ≤ 1000 → Calls Try.prog 48 #[.agg (rcells a B v).toArray, .int .i64 x] y fun e w' => e = .returned (.bool (takenT tk x)) ∧ Below y.heap.size y w') := fun v tk x y h1 h2 => RGone_calls a B v tk x y ha h1 (by omega)
  have CF : Hid (∀ (A : Nat → Prop) (tv : Value) (tk : List Nat) (p : Nat) (y : World), IntsA y tv tk → tk.length ≤ 1000 → (∀ z ∈ tk, z < 4294967296) → p < 4294967296 → (∀ q, A q → q < y.heap.size) → Calls Try.prog 21 #[.agg (rcells a B tv).toArray, .int .i64 p] y fun e w' => ∃ v', e = .returned v' ∧ RFactsOwn A w' y.heap.size v' (FT tk p) ∧ Below y.heap.size y w') := fun A tv tk p y h1 h2 h3 h4 h5 => by
    rw [hFT]
    exact RFacts_calls a B tv tk p y ha (by omega) h1 (by omega) h3 h4 h5
  have CL : Hid (∀ (A : Nat → Prop) (N Bb r M : Nat) (w0 : World) (tk : List Nat) (tv : Value) (bk sm nm dm n : Nat) (fs fs2 : List FactT) (y : World) (x : Int), PSt A w0 N Bb r M B a (row tk) tk [] tv (.slice none 0 0) ⟨bk, sm, nm, dm, fs, fun _ => none⟩ y → FsOk fs n → n ≤ 90000 → (row tk).length ≤ 1000 → -9223372036854775808 ≤ x → x ≤ 9223372036854775807 →
      ((withinT B x = true ∧ x.toNat ∉ tk ∧ fs2 = (FT tk x.toNat).foldl noteT fs) ∨ ((withinT B x = false ∨ x.toNat ∈ tk) ∧ fs2 = fs)) → Calls Try.prog 49 #[.pointer (some ⟨r, 0, none⟩), .pointer (some ⟨bk, 0, none⟩), .int .i64 x] y fun e w' => ∃ kk ee, e = .returned (.tuple #[kk, ee]) ∧ PSt A w0 N Bb r M B a (row tk) tk [] tv (.slice none 0 0) ⟨bk, sm, nm, dm, fs2, fun _ => none⟩ w' ∧ BkFrm A (some ⟨bk, sm, nm, dm, fs, fun _ => none⟩) y w') := by
    intro A N Bb r M w0 tk tv bk sm nm dm n fs fs2 y x h hfs hn hl2 hx1 hx2 hor
    rw [hrow] at h hl2 ⊢
    have h0 := h.look_calls (n := n) hfs hn ha (by omega) (by omega) x hx1 hx2
    have e : (lookF B x (rowT a B tk)).foldl noteT fs = fs2 := by
      rcases hor with ⟨h1, h2, h3⟩ | ⟨h1 | h1, h3⟩
      · rw [h3, lookF_row a B x tk h1 h2, hFT]
      · rw [h3, lookF_out B x _ h1]; rfl
      · rw [h3, lookF_gone a B x tk h1]; rfl
    rw [e] at h0
    exact h0.mono fun e w' ⟨g1, g2, g3⟩ => ⟨_, _, g1, g2, g3⟩
  have CT : Hid (∀ (A : Nat → Prop) (N Bb r M : Nat) (w0 : World) (tk : List Nat) (tv : Value) (bk sm nm dm n : Nat) (fs fs2 : List FactT) (tk2 : List Nat) (y : World) (x : Int), PSt A w0 N Bb r M B a (row tk) tk [] tv (.slice none 0 0) ⟨bk, sm, nm, dm, fs, fun _ => none⟩ y → FsOk fs n → n ≤ 90000 → (row tk).length ≤ 1000 → -9223372036854775808 ≤ x → x ≤ 9223372036854775807 →
      ((withinT B x = true ∧ x.toNat ∉ tk ∧ fs2 = (FT tk x.toNat).foldl noteT fs ∧ tk2 = tk ++ [x.toNat]) ∨ ((withinT B x = false ∨ (withinT B x = true ∧ x.toNat ∈ tk)) ∧ fs2 = fs ∧ tk2 = tk)) → Calls Try.prog 19 #[.pointer (some ⟨r, 0, none⟩), .pointer (some ⟨bk, 0, none⟩), .int .i64 x] y fun e w' => ∃ kk ee A', e = .returned (.tuple #[kk, ee]) ∧ PSt A' w0 N Bb r M B a (row tk2) tk [] tv (.slice none 0 0) ⟨bk, sm, nm, dm, fs2, fun _ => none⟩ w' ∧ TakeFrm A (some ⟨bk, sm, nm, dm, fs, fun _ => none⟩) Bb r y w' ∧ (∀ q, A q → A' q) ∧ (∀ q, A' q → A q ∨ y.heap.size ≤ q)) := by
    intro A N Bb r M w0 tk tv bk sm nm dm n fs fs2 tk2 y x h hfs hn hl2 hx1 hx2 hor
    rw [hrow] at h hl2 ⊢
    have h0 := h.take_calls (n := n) hfs hn ha (by omega) (by omega) x hx1 hx2
    have e : (lookF B x (rowT a B tk)).foldl noteT fs = fs2 ∧ takeT B x (rowT a B tk) = rowT a B tk2 := by
      rcases hor with ⟨h1, h2, h3, h4⟩ | ⟨h1 | ⟨h0, h1⟩, h3, h4⟩
      · exact ⟨by rw [h3, lookF_row a B x tk h1 h2, hFT], by rw [h4, (row_take a B x tk h1 h2).1]⟩
      · exact ⟨by rw [h3, lookF_out B x _ h1]; rfl, by rw [h4, (row_out a B x tk h1).1]⟩
      · exact ⟨by rw [h3, lookF_gone a B x tk h1]; rfl, by rw [h4, (row_gone a B x tk h0 h1).1]⟩
    rw [e.1, e.2] at h0
    exact h0.mono fun e w' ⟨A', g1, g2, g3, g4, g5⟩ => ⟨_, _, A', g1, g2, g3, g4, g5⟩
  have hbu := Try.builtR6 B a ha
  have HBU := Lib.hid hbu
  clear hrow hFT ha hpow hbu
  go_enter Try.func11, Try.ntmps11
  go_wp2_with fail
  generalize w.alloc (.cells (a.map bv).toArray 23) = W0 at hA0 hb0 HE0 HL0 ⊢
  have hbW := Below.refl W0.heap.size W0
  have hAw := hA0
  have HA0 := Lib.hid hA0
  have HB0 := Lib.hid hb0
  clear hA0 hb0
  have ltq23 : w.heap.size < W0.heap.size := hAw.lt
  refine (awake6_calls _).mono ?_
  rintro e wq21 ⟨rfl, bq22⟩
  have hCq24 := hAw.below bq22 hAw.lt
  have hBq25 := hbW.trans (bq22.mono (hbW.size))
  clear hAw hbW
  clear bq22
  have hy0 := hBq25.size
  go_wp2_with fail
  have ltq28 : w.heap.size < wq21.heap.size := hCq24.lt
  refine (BNew_calls _).mono ?_
  rintro e wq26 ⟨bk, sm, nm, dm, rfl, hbi, bq27⟩
  have hCq29 := hCq24.below bq27 hCq24.lt
  have hBq30 := hBq25.trans (bq27.mono (hBq25.size))
  clear hCq24 hBq25
  clear bq27
  have HBI := Lib.hid hbi
  clear hbi
  have hsi := Lib.hid (Since.refl wq26)
  go_wp2_with ((with_reducible show wpList _ _ _ (⟨some 43, _, _, _, _, _⟩ :: _) _ _); refine wpList_load_mid rfl 23 (.tmp 4) rfl (w.heap.size) 0 (by rfl) (a.map bv) _ (blk_rangeP hCq29) Try.underlying23 rfl (by rw [List.length_map, HA.out]; exact Try.sizeHash) ?_)
  have ltq33 : w.heap.size < wq26.heap.size := hCq29.lt
  refine (c5 _).mono ?_
  rintro e wq31 ⟨r, v, rfl, hr, hrw, hsd, hvq, bq32⟩
  have hCq34 := hCq29.below bq32 hCq29.lt
  have hCq35 := Lib.hid (hsi.out.below bq32)
  have hBq36 := hBq30.trans (bq32.mono (hBq30.size))
  clear hCq29 hsi hBq30
  clear bq32
  have hHq37 := Lib.hid hsd
  clear hsd
  go_wp2_with (first | ((with_reducible show wpList _ _ _ (⟨some 48, _, _, _, _, _⟩ :: _) _ _); refine wpList_load_mid rfl 23 (.tmp 4) rfl (w.heap.size) 0 (by rfl) (a.map bv) _ (blk_rangeP hCq34) Try.underlying23 rfl (by rw [List.length_map, HA.out]; exact Try.sizeHash) ?_) | ((with_reducible show wpList _ _ _ (⟨some 50, _, _, _, _, _⟩ :: _) _ _); refine wpList_buildCells rfl 33 #[(0, .tmp 48), (1, .tmp 49)] rfl ((rcells a B (.slice none 0 0)).toArray) HBU.out ?_) | ((with_reducible show wpList _ _ _ (⟨some 13, _, _, _, _, _⟩ :: _) _ _); refine wpList_allocZ rfl 33 rfl _ Try.zeroR6 ?_; intro wq38 hsq39 baq40 hNq41) | ((with_reducible show wpList _ _ _ (⟨none, Op.store _ (.tmp 13) _, _, _, _, _⟩ :: _) _ _); refine wpList_storeBlk rfl 33 (.tmp 13) (.tmp 50) rfl (wq31.heap.size) ((rcells a B (.slice none 0 0)).toArray) (by rfl) (by rfl) _ _ hNq41 (by rw [List.size_toArray, rcells_len _ _ _ HA.out]; exact Try.sizeR6) (by simp [rcells, HA.out]) (rcells_all _ _ _ _ _) ?_; intro wq42 hKq43 gq44; have bbq45 := below_new baq40 gq44 (Nat.le_refl _) baq40.size; have ltq46 : w.heap.size < wq31.heap.size := hCq34.lt; have ltq47 : r < wq31.heap.size := hrw.lt; have hCq48 := hCq34.below bbq45 hCq34.lt; have hCq49 := Lib.hid (hCq35.out.below bbq45); have hCq50 := hrw.below bbq45 hrw.lt; have hCq51 := Lib.hid (hHq37.out.below bbq45); have hBq52 := hBq36.trans (bbq45.mono (hBq36.size)); clear hCq34 hCq35 hrw hHq37 hBq36; clear bbq45 baq40 hNq41 gq44 hsq39))
  have ltq53 : w.heap.size < wq42.heap.size := hCq48.lt
  have ltq54 : r < wq42.heap.size := hCq50.lt
  have ltq55 : wq31.heap.size < wq42.heap.size := hKq43.lt
  obtain ⟨M, hM⟩ : ∃ n, n = wq31.heap.size := ⟨_, rfl⟩
  have hMM := hKq43
  rw [← hM] at hMM ⊢
  have hyM : wq26.heap.size ≤ M := by have := hCq50.lt; have := hCq49.out.size; omega
  have HST := Lib.hid (PSt.start HBI.out hCq49.out hr hCq50 hCq51.out hvq hyM hMM HA.out hy0 hBq52)
  rw [← hr0] at HST
  clear hCq50 hCq49 hCq51 hKq43 hCq48 hBq52 hMM hyM HBI hvq hr hM hy0 c5 HBU
  generalize hAA : (fun q => q = r ∨ v.ownBlock = some q) = A0 at HST
  clear hAA
  obtain ⟨Bb, hBb⟩ : ∃ n, n = wq21.heap.size := ⟨_, rfl⟩
  rw [← hBb] at HST
  clear hBb
  go_loopw [14, 15] (fun fv j wr => ∃ (i : Nat) (tk : List Nat) (tv : Value) (A : Nat → Prop) (fs : List FactT) (fw : Value), fv = fw ∧ i ≤ len ∧ j = .int .i64 i ∧ Hid (PSt A W0 W0.heap.size Bb r M B a (row tk) tk [] tv (.slice none 0 0) ⟨bk, sm, nm, dm, fs, fun _ => none⟩ wr) ∧ Hid (RFactsOwn A wr W0.heap.size fw fs) ∧ Hid (FsOk fs (9 * i)) ∧ Hid (∀ y ∈ tk, y < 2 ^ B) ∧ Hid ((row tk).length ≤ 1 + 16 * i) ∧ Hid (tk.length ≤ i)) (fun _ j _ => len - (intOf j).toNat)
  case atStart => exact ⟨0, [], _, A0, [], _, rfl, by omega, rfl, HST, Lib.hid (RFactsOwn.nil _ _ _), Lib.hid FsOk.nil, Lib.hid (by simp), Lib.hid (by rw [hr0]; simp), Lib.hid (by simp)⟩
  case round =>
    obtain ⟨i, tk, tv, A, fs, fw, rfl, hi, rfl, hS, hF, hFO, hTK, hL, hN⟩ := hrel
    clear HST hr0
    have hsize := hS.out.bsize
    have hll := hL.out
    have hnn := hN.out
    by_cases hlt : i < len
    · obtain ⟨bb, off, ca, rfl, hx, hrg⟩ := HE0.out.at i hlt
      obtain ⟨hx1, hx2⟩ := HXS.out ca (List.mem_of_getElem? hx)
      obtain ⟨dd, x⟩ := ca
      have hx1 : -9223372036854775808 ≤ x := hx1
      have hx2 : x ≤ 9223372036854775807 := hx2
      have E0 : ∀ y, Below W0.heap.size W0 y → y.cell? ⟨bb, off + i * 2, none⟩ = some (.int .u8 (dd.toNat : Int)) ∧ y.cell? ⟨bb, off + i * 2 + 1, none⟩ = some (.int .i64 x) := fun y hy => by
        have h0 := (HE0.out.below hy).at' i ⟨dd, x⟩ hx
        exact ⟨h0 0 _ rfl, h0 1 _ rfl⟩
      have EE := Lib.hid E0
      have hd : dd.toNat < 256 := dd.toNat_lt
      obtain ⟨tao, tc, rfl⟩ := own_slice hS.out.ints
      have HTB : Hid (∀ z ∈ tk, z < 4294967296) := fun z hz => by have := hTK.out z hz; have := HPOW.out; omega
      clear hx hrg E0
      by_cases hw : withinT B x = false
      · have HFO2 := hFO
        by_cases hdp : dd.toNat % 2 = 0
        · skip
          have hM1 := hS.out.m
          have hB4 := hS.out.bel
          obtain ⟨hce1, hce2⟩ := EE.out _ hB4
          go_wp2_with ((with_reducible show wpList _ _ _ (⟨some 62, _, _, _, _, _⟩ :: _) _ _); refine wpList_load_mid rfl 33 (.tmp 13) rfl (M) 0 (by rfl) (rcells a B (.slice tao tk.length tc)) _ (blk_rangeP hM1) Try.underlying33 rfl (by rw [rcells_len _ _ _ HA.out]; exact Try.sizeR6) ?_)
          clear hce1 hce2
          have ltq58 : M < wr.heap.size := hM1.lt
          refine (CW.out _ _ _).mono ?_
          rintro e wq56 ⟨rfl, bq57⟩
          have hCq59 := Lib.hid (hS.out.below bq57)
          have hCq60 := Lib.hid (hF.out.below bq57)
          have hCq61 := hM1.below bq57 hM1.lt
          have hBq62 := hB4.trans (bq57.mono (hB4.size))
          clear hS hF hM1 hB4
          clear bq57
          rw [hw]
          have HFO := hFO
          clear hFO
          have hdm : ((dd.toNat : Nat) : Int) % 2 = 0 := by omega
          obtain ⟨hce1, hce2⟩ := EE.out _ hBq62
          go_wp2_with fail
          clear hce1 hce2
          refine (CL.out A _ Bb r M _ tk _ bk sm nm dm (9 * i) fs fs _ x hCq59.out HFO.out (by omega) (by omega) hx1 hx2 (.inr ⟨.inl hw, rfl⟩)).mono ?_
          rintro e wq63 ⟨kk, ee, rfl, hS5, hf5⟩
          have HS5 := Lib.hid hS5
          have HF5 := Lib.hid (hCq60.out.frm hf5 (by unfold NT; decide) (by unfold NT; decide))
          clear hS5 hf5 hCq59 hCq60 hBq62 hCq61
          go_wp2_with fail
          go_roundw
          case rel => exact ⟨i + 1, tk, _, A, fs, _, rfl, by omega, by go_num, HS5, HF5, Lib.hid (HFO2.out.mono (by omega)), hTK, Lib.hid (by omega), Lib.hid (by omega)⟩
          case measure => simp [intOf]; omega
        · skip
          have hM1 := hS.out.m
          have hB4 := hS.out.bel
          obtain ⟨hce1, hce2⟩ := EE.out _ hB4
          go_wp2_with ((with_reducible show wpList _ _ _ (⟨some 62, _, _, _, _, _⟩ :: _) _ _); refine wpList_load_mid rfl 33 (.tmp 13) rfl (M) 0 (by rfl) (rcells a B (.slice tao tk.length tc)) _ (blk_rangeP hM1) Try.underlying33 rfl (by rw [rcells_len _ _ _ HA.out]; exact Try.sizeR6) ?_)
          clear hce1 hce2
          have ltq66 : M < wr.heap.size := hM1.lt
          refine (CW.out _ _ _).mono ?_
          rintro e wq64 ⟨rfl, bq65⟩
          have hCq67 := Lib.hid (hS.out.below bq65)
          have hCq68 := Lib.hid (hF.out.below bq65)
          have hCq69 := hM1.below bq65 hM1.lt
          have hBq70 := hB4.trans (bq65.mono (hB4.size))
          clear hS hF hM1 hB4
          clear bq65
          rw [hw]
          have HFO := hFO
          clear hFO
          have hdm : ((dd.toNat : Nat) : Int) % 2 = 1 := by omega
          obtain ⟨hce1, hce2⟩ := EE.out _ hBq70
          go_wp2_with fail
          clear hce1 hce2
          refine (CT.out A _ Bb r M _ tk _ bk sm nm dm (9 * i) fs fs tk _ x hCq67.out HFO.out (by omega) (by omega) hx1 hx2 (.inr ⟨.inl hw, rfl, rfl⟩)).mono ?_
          rintro e wq71 ⟨kk, ee, A', rfl, hS5, hf5, hA1, hA2⟩
          obtain ⟨vr5, hvr5, _⟩ := hCq67.out.rowAt
          have HF5 := Lib.hid ((hCq68.out.widen hA2).frm (hf5.frm hvr5) (by unfold NT; decide) (by unfold NT; decide))
          have HS5 := Lib.hid hS5
          have hM5 := hS5.m
          have hb5 := hS5.bel
          clear hS5 hf5 hA1 hA2 hvr5 hCq67 hCq68 hBq70 hCq69
          go_wp2_with ((with_reducible show wpList _ _ _ (⟨some 104, _, _, _, _, _⟩ :: _) _ _); refine wpList_load_mid rfl 33 (.tmp 13) rfl (M) 0 (by rfl) (rcells a B (.slice tao tk.length tc)) _ (blk_rangeP hM5) Try.underlying33 rfl (by rw [rcells_len _ _ _ HA.out]; exact Try.sizeR6) ?_)
          have ltq74 : M < wq71.heap.size := hM5.lt
          refine (CW.out _ _ _).mono ?_
          rintro e wq72 ⟨rfl, bq73⟩
          have hCq75 := Lib.hid (HS5.out.below bq73)
          have hCq76 := Lib.hid (HF5.out.below bq73)
          have hCq77 := hM5.below bq73 hM5.lt
          have hBq78 := hb5.trans (bq73.mono (hb5.size))
          clear HS5 HF5 hM5 hb5
          clear bq73
          rw [hw]
          go_wp2_with fail
          go_roundw
          case rel => exact ⟨i + 1, tk, _, A', fs, _, rfl, by omega, by go_num, hCq75, hCq76, Lib.hid (HFO2.out.mono (by omega)), hTK, Lib.hid (by omega), Lib.hid (by omega)⟩
          case measure => simp [intOf]; omega
      have hw : withinT B x = true := by simpa using hw
      have hw2 : 0 ≤ x ∧ x < ((2 ^ B : Nat) : Int) := by simpa [withinT] using hw
      have hxB : x.toNat < 2 ^ B := by omega
      by_cases hm2 : x.toNat ∈ tk
      · have hg : takenT tk x = true := by rw [takenT, List.any_eq_true]; exact ⟨_, hm2, by simp; omega⟩
        have HFO2 := hFO
        clear hw2
        by_cases hdp : dd.toNat % 2 = 0
        · skip
          have hM1 := hS.out.m
          have hB4 := hS.out.bel
          obtain ⟨hce1, hce2⟩ := EE.out _ hB4
          go_wp2_with ((with_reducible show wpList _ _ _ (⟨some 62, _, _, _, _, _⟩ :: _) _ _); refine wpList_load_mid rfl 33 (.tmp 13) rfl (M) 0 (by rfl) (rcells a B (.slice tao tk.length tc)) _ (blk_rangeP hM1) Try.underlying33 rfl (by rw [rcells_len _ _ _ HA.out]; exact Try.sizeR6) ?_)
          clear hce1 hce2
          have ltq81 : M < wr.heap.size := hM1.lt
          refine (CW.out _ _ _).mono ?_
          rintro e wq79 ⟨rfl, bq80⟩
          have hCq82 := Lib.hid (hS.out.below bq80)
          have hCq83 := Lib.hid (hF.out.below bq80)
          have hCq84 := hM1.below bq80 hM1.lt
          have hBq85 := hB4.trans (bq80.mono (hB4.size))
          clear hS hF hM1 hB4
          clear bq80
          rw [hw]
          go_wp2_with ((with_reducible show wpList _ _ _ (⟨some 66, _, _, _, _, _⟩ :: _) _ _); refine wpList_if (by rfl) (wp_load_mid 33 (.tmp 13) rfl (M) 0 (by rfl) (rcells a B (.slice tao tk.length tc)) _ (blk_rangeP hCq84) Try.underlying33 rfl (by rw [rcells_len _ _ _ HA.out]; exact Try.sizeR6) ?_))
          have ltq88 : M < wq79.heap.size := hCq84.lt
          refine (CG.out _ tk _ _ hCq82.out.intsA (by omega)).mono ?_
          rintro e wq86 ⟨rfl, bq87⟩
          have hCq89 := Lib.hid (hCq82.out.below bq87)
          have hCq90 := Lib.hid (hCq83.out.below bq87)
          have hCq91 := hCq84.below bq87 hCq84.lt
          have hBq92 := hBq85.trans (bq87.mono (hBq85.size))
          clear hCq82 hCq83 hCq84 hBq85
          clear bq87
          rw [hg]
          have HFO := hFO
          clear hFO
          have hdm : ((dd.toNat : Nat) : Int) % 2 = 0 := by omega
          obtain ⟨hce1, hce2⟩ := EE.out _ hBq92
          go_wp2_with fail
          clear hce1 hce2
          refine (CL.out A _ Bb r M _ tk _ bk sm nm dm (9 * i) fs fs _ x hCq89.out HFO.out (by omega) (by omega) hx1 hx2 (.inr ⟨.inr hm2, rfl⟩)).mono ?_
          rintro e wq93 ⟨kk, ee, rfl, hS5, hf5⟩
          have HS5 := Lib.hid hS5
          have HF5 := Lib.hid (hCq90.out.frm hf5 (by unfold NT; decide) (by unfold NT; decide))
          clear hS5 hf5 hCq89 hCq90 hBq92 hCq91
          go_wp2_with fail
          go_roundw
          case rel => exact ⟨i + 1, tk, _, A, fs, _, rfl, by omega, by go_num, HS5, HF5, Lib.hid (HFO2.out.mono (by omega)), hTK, Lib.hid (by omega), Lib.hid (by omega)⟩
          case measure => simp [intOf]; omega
        · skip
          have hM1 := hS.out.m
          have hB4 := hS.out.bel
          obtain ⟨hce1, hce2⟩ := EE.out _ hB4
          go_wp2_with ((with_reducible show wpList _ _ _ (⟨some 62, _, _, _, _, _⟩ :: _) _ _); refine wpList_load_mid rfl 33 (.tmp 13) rfl (M) 0 (by rfl) (rcells a B (.slice tao tk.length tc)) _ (blk_rangeP hM1) Try.underlying33 rfl (by rw [rcells_len _ _ _ HA.out]; exact Try.sizeR6) ?_)
          clear hce1 hce2
          have ltq96 : M < wr.heap.size := hM1.lt
          refine (CW.out _ _ _).mono ?_
          rintro e wq94 ⟨rfl, bq95⟩
          have hCq97 := Lib.hid (hS.out.below bq95)
          have hCq98 := Lib.hid (hF.out.below bq95)
          have hCq99 := hM1.below bq95 hM1.lt
          have hBq100 := hB4.trans (bq95.mono (hB4.size))
          clear hS hF hM1 hB4
          clear bq95
          rw [hw]
          go_wp2_with ((with_reducible show wpList _ _ _ (⟨some 66, _, _, _, _, _⟩ :: _) _ _); refine wpList_if (by rfl) (wp_load_mid 33 (.tmp 13) rfl (M) 0 (by rfl) (rcells a B (.slice tao tk.length tc)) _ (blk_rangeP hCq99) Try.underlying33 rfl (by rw [rcells_len _ _ _ HA.out]; exact Try.sizeR6) ?_))
          have ltq103 : M < wq94.heap.size := hCq99.lt
          refine (CG.out _ tk _ _ hCq97.out.intsA (by omega)).mono ?_
          rintro e wq101 ⟨rfl, bq102⟩
          have hCq104 := Lib.hid (hCq97.out.below bq102)
          have hCq105 := Lib.hid (hCq98.out.below bq102)
          have hCq106 := hCq99.below bq102 hCq99.lt
          have hBq107 := hBq100.trans (bq102.mono (hBq100.size))
          clear hCq97 hCq98 hCq99 hBq100
          clear bq102
          rw [hg]
          have HFO := hFO
          clear hFO
          have hdm : ((dd.toNat : Nat) : Int) % 2 = 1 := by omega
          obtain ⟨hce1, hce2⟩ := EE.out _ hBq107
          go_wp2_with fail
          clear hce1 hce2
          refine (CT.out A _ Bb r M _ tk _ bk sm nm dm (9 * i) fs fs tk _ x hCq104.out HFO.out (by omega) (by omega) hx1 hx2 (.inr ⟨.inr ⟨hw, hm2⟩, rfl, rfl⟩)).mono ?_
          rintro e wq108 ⟨kk, ee, A', rfl, hS5, hf5, hA1, hA2⟩
          obtain ⟨vr5, hvr5, _⟩ := hCq104.out.rowAt
          have HF5 := Lib.hid ((hCq105.out.widen hA2).frm (hf5.frm hvr5) (by unfold NT; decide) (by unfold NT; decide))
          have HS5 := Lib.hid hS5
          have hM5 := hS5.m
          have hb5 := hS5.bel
          clear hS5 hf5 hA1 hA2 hvr5 hCq104 hCq105 hBq107 hCq106
          go_wp2_with ((with_reducible show wpList _ _ _ (⟨some 104, _, _, _, _, _⟩ :: _) _ _); refine wpList_load_mid rfl 33 (.tmp 13) rfl (M) 0 (by rfl) (rcells a B (.slice tao tk.length tc)) _ (blk_rangeP hM5) Try.underlying33 rfl (by rw [rcells_len _ _ _ HA.out]; exact Try.sizeR6) ?_)
          have ltq111 : M < wq108.heap.size := hM5.lt
          refine (CW.out _ _ _).mono ?_
          rintro e wq109 ⟨rfl, bq110⟩
          have hCq112 := Lib.hid (HS5.out.below bq110)
          have hCq113 := Lib.hid (HF5.out.below bq110)
          have hCq114 := hM5.below bq110 hM5.lt
          have hBq115 := hb5.trans (bq110.mono (hb5.size))
          clear HS5 HF5 hM5 hb5
          clear bq110
          rw [hw]
          go_wp2_with ((with_reducible show wpList _ _ _ (⟨some 108, _, _, _, _, _⟩ :: _) _ _); refine wpList_if (by rfl) (wp_load_mid 33 (.tmp 13) rfl (M) 0 (by rfl) (rcells a B (.slice tao tk.length tc)) _ (blk_rangeP hCq114) Try.underlying33 rfl (by rw [rcells_len _ _ _ HA.out]; exact Try.sizeR6) ?_))
          have ltq118 : M < wq109.heap.size := hCq114.lt
          refine (CG.out _ tk _ _ hCq112.out.intsA (by omega)).mono ?_
          rintro e wq116 ⟨rfl, bq117⟩
          have hCq119 := Lib.hid (hCq112.out.below bq117)
          have hCq120 := Lib.hid (hCq113.out.below bq117)
          have hCq121 := hCq114.below bq117 hCq114.lt
          have hBq122 := hBq115.trans (bq117.mono (hBq115.size))
          clear hCq112 hCq113 hCq114 hBq115
          clear bq117
          rw [hg]
          go_wp2_with fail
          go_roundw
          case rel => exact ⟨i + 1, tk, _, A', fs, _, rfl, by omega, by go_num, hCq119, hCq120, Lib.hid (HFO2.out.mono (by omega)), hTK, Lib.hid (by omega), Lib.hid (by omega)⟩
          case measure => simp [intOf]; omega
      · have hg : takenT tk x = false := by
          rw [takenT, List.any_eq_false]
          intro z hz
          simp
          intro e
          exact hm2 (by rw [← e]; simpa using hz)
        have hM1 := hS.out.m
        have hB4 := hS.out.bel
        obtain ⟨hce1, hce2⟩ := EE.out _ hB4
        go_wp2_with ((with_reducible show wpList _ _ _ (⟨some 62, _, _, _, _, _⟩ :: _) _ _); refine wpList_load_mid rfl 33 (.tmp 13) rfl (M) 0 (by rfl) (rcells a B (.slice tao tk.length tc)) _ (blk_rangeP hM1) Try.underlying33 rfl (by rw [rcells_len _ _ _ HA.out]; exact Try.sizeR6) ?_)
        clear hce1 hce2
        have ltq125 : M < wr.heap.size := hM1.lt
        refine (CW.out _ _ _).mono ?_
        rintro e wq123 ⟨rfl, bq124⟩
        have hCq126 := Lib.hid (hS.out.below bq124)
        have hCq127 := Lib.hid (hF.out.below bq124)
        have hCq128 := hM1.below bq124 hM1.lt
        have hBq129 := hB4.trans (bq124.mono (hB4.size))
        clear hS hF hM1 hB4
        clear bq124
        rw [hw]
        go_wp2_with ((with_reducible show wpList _ _ _ (⟨some 66, _, _, _, _, _⟩ :: _) _ _); refine wpList_if (by rfl) (wp_load_mid 33 (.tmp 13) rfl (M) 0 (by rfl) (rcells a B (.slice tao tk.length tc)) _ (blk_rangeP hCq128) Try.underlying33 rfl (by rw [rcells_len _ _ _ HA.out]; exact Try.sizeR6) ?_))
        have ltq132 : M < wq123.heap.size := hCq128.lt
        refine (CG.out _ tk _ _ hCq126.out.intsA (by omega)).mono ?_
        rintro e wq130 ⟨rfl, bq131⟩
        have hCq133 := Lib.hid (hCq126.out.below bq131)
        have hCq134 := Lib.hid (hCq127.out.below bq131)
        have hCq135 := hCq128.below bq131 hCq128.lt
        have hBq136 := hBq129.trans (bq131.mono (hBq129.size))
        clear hCq126 hCq127 hCq128 hBq129
        clear bq131
        rw [hg]
        obtain ⟨fl, hfl⟩ : ∃ l, l = FT tk x.toNat := ⟨_, rfl⟩
        obtain ⟨hx0, hx3⟩ := hw2
        clear hx3
        have HXX : Hid ((x.toNat : Int) = x) := by show _ = _; omega
        have hpb : x.toNat < 4294967296 := by have := HPOW.out; omega
        have cF : ∀ y, IntsA y (.slice tao tk.length tc) tk → Calls Try.prog 21 #[.agg (rcells a B (.slice tao tk.length tc)).toArray, .int .i64 x] y fun e w' => ∃ v', e = .returned v' ∧ RFactsOwn (fun _ => False) w' y.heap.size v' fl ∧ Below y.heap.size y w' := fun y hy => by
          have := CF.out (fun _ => False) _ tk x.toNat y hy (by omega) HTB.out hpb (fun q h => h.elim)
          rw [HXX.out] at this
          rw [hfl]; exact this
        go_wp2_with ((with_reducible show wpList _ _ _ (⟨some 71, _, _, _, _, _⟩ :: _) _ _); refine wpList_load_mid rfl 33 (.tmp 13) rfl (M) 0 (by rfl) (rcells a B (.slice tao tk.length tc)) _ (blk_rangeP hCq135) Try.underlying33 rfl (by rw [rcells_len _ _ _ HA.out]; exact Try.sizeR6) ?_)
        have hFlt := hCq134.out.lt
        have hSb := hCq133.out.bsize
        have ltq139 : M < wq130.heap.size := hCq135.lt
        refine (cF _ hCq133.out.intsA).mono ?_
        rintro e wq137 ⟨vv, rfl, hvv, bq138⟩
        have hCq140 := Lib.hid (hCq133.out.below bq138)
        have hCq141 := Lib.hid (hCq134.out.below bq138)
        have hCq142 := hCq135.below bq138 hCq135.lt
        have hBq143 := hBq136.trans (bq138.mono (hBq136.size))
        clear hCq133 hCq134 hCq135 hBq136
        clear bq138
        have hHq144 := Lib.hid hvv
        clear hvv
        have hvq := hHq144.out.lt
        obtain ⟨vao, vc, rfl⟩ := hHq144.out.slice4
        have HF6 : Hid (RFactsOwn (fun q => A q ∨ (Value.slice vao fl.length vc).ownBlock = some q) wq137 W0.heap.size u14 fs) := by
          obtain ⟨cs, h1, h2, h3, h4⟩ := hCq141.out
          refine ⟨cs, h1, h2, fun q hq ha => ha.elim (h3 q hq) (fun ha => ?_), h4⟩
          have h5 := (hvq q ha).1
          have h6 := (hFlt q hq).2
          omega
        have HSW := Lib.hid hSb
        clear hvq hFlt hSb hCq141 hCq142 hBq143 cF
        have hfl9 : fl.length ≤ 9 := by rw [hfl]; exact HFL.out _ _
        have HFK : Hid (∀ f ∈ fl, FOk f) := fun f hf => (HFS.out tk x.toNat f (by rw [← hfl]; exact hf)).1
        have HFOK : Hid (∀ m, FsOk ((fl.take m).foldl noteT fs) (9 * i + m)) := fun m => (hFO.out.fold (fun f hf => HFS.out tk x.toNat f (by rw [← hfl]; exact List.mem_of_mem_take hf))).mono (by rw [List.length_take]; omega)
        have HFO2 : Hid (FsOk (fl.foldl noteT fs) (9 * i + 9)) := by have := HFOK.out fl.length; rw [List.take_length] at this; exact this.mono (by omega)
        have HFLE := Lib.hid hfl
        clear hfl
        go_wp2_with fail
        go_loopw [14, 18] (fun fv j wr3 => ∃ (m : Nat) (fw3 : Value), fv = fw3 ∧ m ≤ fl.length ∧ j = .int .i64 m ∧ Hid (PSt A W0 W0.heap.size Bb r M B a (row tk) tk [] (.slice tao tk.length tc) (.slice none 0 0) ⟨bk, sm, nm, dm, fs, fun _ => none⟩ wr3) ∧ Hid (RFactsOwn (fun q => A q ∨ (Value.slice vao fl.length vc).ownBlock = some q) wr3 W0.heap.size fw3 ((fl.take m).foldl noteT fs)) ∧ Hid (RFactsOwn (fun _ => False) wr3 wq130.heap.size (.slice vao fl.length vc) fl)) (fun _ j _ => fl.length - (intOf j).toNat)
        case atStart => exact ⟨0, _, rfl, by omega, rfl, hCq140, HF6, hHq144⟩
        case round =>
          obtain ⟨m, fw3, rfl, hm3, rfl, hS3, hF3, hV3⟩ := hrel
          obtain ⟨wr3, rfl⟩ : ∃ z, z = wr := ⟨_, rfl⟩
          clear hCq140 HF6 hHq144
          by_cases hml : m < fl.length
          · obtain ⟨f, hf⟩ : ∃ f, fl[m]? = some f := ⟨_, List.getElem?_eq_getElem hml⟩
            obtain ⟨g4, c4, xx, zz, e4, hl4, hrg4, hx4, hz4⟩ := hV3.out.item m f hf
            have hfok := HFK.out f (List.mem_of_getElem? hf)
            injection e4 with e5 e6 e7
            subst e5
            have HX4 := Lib.hid (hx4.weak (b2 := W0.heap.size) HSW.out)
            have HZ4 := Lib.hid (hz4.weak (b2 := W0.heap.size) HSW.out)
            have HNF : Hid ((fl.take (m + 1)).foldl noteT fs = noteT ((fl.take m).foldl noteT fs) f) := IntsAt_take_fold _ _ m f hf
            have hFm := HFOK.out m
            have hFl := hFm.len
            have nH4 : ¬ ((22 : TypeId) = 45) := by decide
            clear hf hx4 hz4 e6 e7
            go_wp2_with ((with_reducible show wpList _ _ _ (⟨some 85, _, _, _, _, _⟩ :: _) _ _); refine wpList_load_mid rfl 45 (.tmp 84) rfl g4 (m * 2) (by rfl) [xx, zz] _ hrg4 Try.underlying45 rfl Try.sizeRF ?_)
            refine (RefNote_calls (A := fun q => A q ∨ (Value.slice (some ⟨g4, 0, none⟩) fl.length vc).ownBlock = some q) _ xx zz f _ W0.heap.size _ hF3.out HX4.out HZ4.out hfok hFm.ok (by omega) hS3.out.bsize (fun q hq => hq.elim (hS3.out.aw q) (fun hq => (hV3.out.lt q hq).2))).mono ?_
            rintro e w7 ⟨fw4, rfl, hF4, hfr4, hB4⟩
            have HF4 := Lib.hid hF4
            have HV4 := Lib.hid (hV3.out.agr hfr4 (fun q h => .inr h) nH4)
            have HS4 := Lib.hid (hS3.out.frm (hfr4.narrow (fun q h => .inl h)) hB4 (by decide) (hS3.out.bk.frm hfr4 ⟨by decide, by decide, by decide, by decide⟩))
            clear hF4 hfr4 hB4 hF3 hV3 hS3 HX4 HZ4 hrg4
            go_wp2_with fail
            go_roundw
            case rel => exact ⟨m + 1, _, rfl, by omega, by go_num, HS4, Lib.hid (by rw [HNF.out]; exact HF4.out), HV4⟩
            case measure => simp [intOf]; omega
          · obtain rfl : m = fl.length := by omega
            have HF7 := Lib.hid (hF3.out.narrow (A' := A) (fun q h => .inl h))
            rw [List.take_length] at HF7
            have hbS7 := hS3.out.bel
            have hM7 := hS3.out.m
            clear hF3 hV3 HFOK HFK
            by_cases hdp : dd.toNat % 2 = 0
            · skip
              have HFO := hFO
              clear hFO
              have hdm : ((dd.toNat : Nat) : Int) % 2 = 0 := by omega
              obtain ⟨hce1, hce2⟩ := EE.out _ hbS7
              go_wp2_with fail
              clear hce1 hce2
              refine (CL.out A _ Bb r M _ tk _ bk sm nm dm (9 * i) fs (fl.foldl noteT fs) _ x hS3.out HFO.out (by omega) (by omega) hx1 hx2 (.inl ⟨hw, hm2, by rw [HFLE.out]⟩)).mono ?_
              rintro e wq145 ⟨kk, ee, rfl, hS5, hf5⟩
              have HS5 := Lib.hid hS5
              have HF5 := Lib.hid (HF7.out.frm hf5 (by unfold NT; decide) (by unfold NT; decide))
              clear hS5 hf5 hS3 HF7 hbS7 hM7
              go_wp2_with fail
              go_roundw
              case rel => exact ⟨i + 1, tk, _, A, (fl.foldl noteT fs), _, rfl, by omega, by go_num, HS5, HF5, Lib.hid (HFO2.out.mono (by omega)), hTK, Lib.hid (by omega), Lib.hid (by omega)⟩
              case measure => simp [intOf]; omega
            · skip
              have HFO := hFO
              clear hFO
              have hdm : ((dd.toNat : Nat) : Int) % 2 = 1 := by omega
              obtain ⟨hce1, hce2⟩ := EE.out _ hbS7
              go_wp2_with fail
              clear hce1 hce2
              refine (CT.out A _ Bb r M _ tk _ bk sm nm dm (9 * i) fs (fl.foldl noteT fs) (tk ++ [x.toNat]) _ x hS3.out HFO.out (by omega) (by omega) hx1 hx2 (.inl ⟨hw, hm2, by rw [HFLE.out], rfl⟩)).mono ?_
              rintro e wq146 ⟨kk, ee, A', rfl, hS5, hf5, hA1, hA2⟩
              obtain ⟨vr5, hvr5, _⟩ := hS3.out.rowAt
              have HF5 := Lib.hid ((HF7.out.widen hA2).frm (hf5.frm hvr5) (by unfold NT; decide) (by unfold NT; decide))
              have HS5 := Lib.hid hS5
              have hM5 := hS5.m
              have hb5 := hS5.bel
              clear hS5 hf5 hA1 hA2 hvr5 hS3 HF7 hbS7 hM7
              go_wp2_with ((with_reducible show wpList _ _ _ (⟨some 104, _, _, _, _, _⟩ :: _) _ _); refine wpList_load_mid rfl 33 (.tmp 13) rfl (M) 0 (by rfl) (rcells a B (.slice tao tk.length tc)) _ (blk_rangeP hM5) Try.underlying33 rfl (by rw [rcells_len _ _ _ HA.out]; exact Try.sizeR6) ?_)
              have ltq149 : M < wq146.heap.size := hM5.lt
              refine (CW.out _ _ _).mono ?_
              rintro e wq147 ⟨rfl, bq148⟩
              have hCq150 := Lib.hid (HS5.out.below bq148)
              have hCq151 := Lib.hid (HF5.out.below bq148)
              have hCq152 := hM5.below bq148 hM5.lt
              have hBq153 := hb5.trans (bq148.mono (hb5.size))
              clear HS5 HF5 hM5 hb5
              clear bq148
              rw [hw]
              go_wp2_with ((with_reducible show wpList _ _ _ (⟨some 108, _, _, _, _, _⟩ :: _) _ _); refine wpList_if (by rfl) (wp_load_mid 33 (.tmp 13) rfl (M) 0 (by rfl) (rcells a B (.slice tao tk.length tc)) _ (blk_rangeP hCq152) Try.underlying33 rfl (by rw [rcells_len _ _ _ HA.out]; exact Try.sizeR6) ?_))
              have ltq156 : M < wq147.heap.size := hCq152.lt
              refine (CG.out _ tk _ _ hCq150.out.intsA (by omega)).mono ?_
              rintro e wq154 ⟨rfl, bq155⟩
              have hCq157 := Lib.hid (hCq150.out.below bq155)
              have hCq158 := Lib.hid (hCq151.out.below bq155)
              have hCq159 := hCq152.below bq155 hCq152.lt
              have hBq160 := hBq153.trans (bq155.mono (hBq153.size))
              clear hCq150 hCq151 hCq152 hBq153
              clear bq155
              rw [hg]
              have hc33 := hCq159.cell 33 _ (rcells_taken a B _ HA.out)
              have hsz33 := hBq160.size
              go_wp2_with (first | ((with_reducible show wpList _ _ _ (⟨some 117, _, _, _, _, _⟩ :: _) _ _); refine wpList_append_place rfl (.tmp 114) (.tmp 116) rfl W0.heap.size _ tk (by rfl) (hCq157.out.ints.alloc _) wq154.heap.size 1 x.toNat (by rfl) (by rw [show ((x.toNat : Nat) : Int) = x by omega]; exact (Blk.new _ _ _).cell 0 _ rfl) (by omega) (by simp; omega) ?_; intro v8 w8 ho8 g8 hq8; clear hc33; have hM8 := (hCq159.alloc (.cells #[.int .i64 x] 3)).grown g8 (fun e => own_ne hCq157.out.ints hCq159 (by decide) e.symm)) | ((with_reducible show wpList _ _ _ (⟨none, Op.store _ (.tmp 118) _, _, _, _, _⟩ :: _) _ _); refine wpList_store1 rfl 24 (.tmp 118) (.tmp 117) rfl M 33 v8 (by rfl) (by rfl) _ _ hM8 (by simp [rcells, HA.out]) Try.sizeInts (own_cells ho8) (own_onecell ho8) ?_; intro wS hS9 gS; rw [rcells_set _ _ _ _ HA.out] at hS9))
              have hbx := below_alloc1 wq154 (.cells #[.int .i64 x] 3)
              have hSx := hCq157.out.below hbx
              have HS9 := Lib.hid (hSx.addTaken ho8 g8 hq8 hS9 gS)
              have hFx := hCq158.out.below hbx
              have hA9 : ∀ q, (A' q ∨ v8.ownBlock = some q) → A' q ∨ (World.alloc wq154 (.cells #[.int .i64 x] 3)).heap.size ≤ q := fun q h => h.elim .inl (fun e => (hq8 q e).imp (hSx.atv q) id)
              have HF9 := Lib.hid (((hFx.widen hA9).frm (Frm.grownOwn (A := fun _ => False) (T := fun t => t = 3) (M := fun _ => False) hSx.ints g8 rfl (fun q h1 h2 => h2)) (by decide) (by decide)).frm (Frm.grownBlk (A := fun _ => False) (T := fun t => t = 33) (M := fun _ => False) hM8 gS rfl id) (by decide) (by decide))
              generalize hA10 : (fun q => A' q ∨ v8.ownBlock = some q) = A9 at HS9 HF9
              clear hA9 hA10 hbx hSx hFx ho8 g8 hq8 hS9 gS hM8 hCq157 hCq158 hCq159 hBq160
              go_roundw
              case rel => exact ⟨i + 1, tk ++ [x.toNat], _, A9, (fl.foldl noteT fs), _, rfl, by omega, by go_num, HS9, HF9, Lib.hid (HFO2.out.mono (by omega)), Lib.hid (fun y hy => (List.mem_append.1 hy).elim (hTK.out y) (fun h => by rw [List.mem_singleton.1 h]; exact hxB)), Lib.hid (by have := HRL.out tk x.toNat hxB; omega), Lib.hid (by simp; omega)⟩
              case measure => simp [intOf]; omega
    · obtain rfl : i = len := by omega
      have hbS := hS.out.bel
      have hA1 := HA0.out.below hbS HA0.out.lt
      have HL1 := Lib.hid (HL0.out.below hbS)
      obtain ⟨z0, rfl⟩ : ∃ z, z = wr := ⟨_, rfl⟩
      have HFF := hF
      have HSS := hS
      have HFOO := hFO.out
      have hbz := Below.refl z0.heap.size z0
      clear hF hS hTK CT CL CF CG CW HRL hbS
      go_wp2_with (first | ((with_reducible show wpList _ _ _ (⟨some 119, _, _, _, _, _⟩ :: _) _ _); refine wpList_load_mid rfl 23 (.tmp 4) rfl (w.heap.size) 0 (by rfl) (a.map bv) _ (blk_rangeP hA1) Try.underlying23 rfl (by rw [List.length_map, HA.out]; exact Try.sizeHash) ?_) | ((with_reducible show wpList _ _ _ (⟨some 120, _, _, _, _, _⟩ :: _) _ _); refine wpList_bsH rfl 43 22 (.tmp 119) rfl a HA.out (by rfl) Try.underlying43 Try.infoH2 ?_; intro qa wa ea sa ba na; have hA2 := hA1.below ba hA1.lt; have hlq : z0.heap.size ≤ qa := Nat.le_of_eq ea.symm; have hU := Lib.hid (HashOwn.oneB na HA.out hlq); have hBa := hbz.trans (ba.mono (Nat.le_refl _)); clear ba na ea sa hA1 hbz))
      have HBa := Lib.hid hBa
      clear hBa hA2
      go_loopw [19, 20] (fun uv j wr4 => ∃ (m : Nat) (uw : Value), uv = uw ∧ m ≤ fn ∧ j = .int .i64 m ∧ Hid (HashOwn wr4 z0.heap.size 22 uw (a :: L.take m)) ∧ Hid (Below z0.heap.size z0 wr4)) (fun _ j _ => fn - (intOf j).toNat)
      case atStart => exact ⟨0, _, rfl, by omega, rfl, hU, HBa⟩
      case round =>
        obtain ⟨m, uw, rfl, hm3, rfl, hU4, hB4⟩ := hrel
        obtain ⟨wr4, rfl⟩ : ∃ z, z = wr := ⟨_, rfl⟩
        clear hU HBa
        by_cases hml : m < fn
        · obtain ⟨q, hq⟩ : ∃ q, L[m]? = some q := ⟨_, List.getElem?_eq_getElem (by rw [← HFN.out]; exact hml)⟩
          have hL4 := HL1.out.below hB4.out
          obtain ⟨lg, lo, rfl, hrg⟩ := hL4.range m q hq
          have HQ : Hid (q.length = 32) := hL4.1 q (List.mem_of_getElem? hq)
          have HTN : Hid (a :: L.take (m + 1) = (a :: L.take m) ++ [q]) := by show _ = _; rw [List.take_add_one, hq]; rfl
          have HUL : Hid ((a :: L.take m).length ≤ 1000) := by show _ ≤ _; rw [List.length_cons, List.length_take]; omega
          have hbw4 := hB4.out
          clear hq hL4
          go_wp2_with (first | ((with_reducible show wpList _ _ _ (⟨some 131, _, _, _, _, _⟩ :: _) _ _); refine wpList_load_mid rfl 23 (.tmp 130) rfl lg (lo + m * 32) (by rfl) (q.map bv) _ hrg Try.underlying23 rfl (by rw [List.length_map, HQ.out]; exact Try.sizeHash) ?_) | ((with_reducible show wpList _ _ _ (⟨some 132, _, _, _, _, _⟩ :: _) _ _); refine wpList_bsH rfl 43 22 (.tmp 131) rfl q HQ.out (by rfl) Try.underlying43 Try.infoH2 ?_; intro qb wb eb sb bb2 nb; have hU2 := Lib.hid (hU4.out.below bb2); have hB5 := hbw4.trans (bb2.mono hbw4.size); clear hU4 bb2 hbw4 hrg) | ((with_reducible show wpList _ _ _ (⟨some 133, _, _, _, _, _⟩ :: _) _ _); refine wpList_append_hsP rfl (.tmp 127) (.tmp 132) 43 rfl z0.heap.size 22 Try.underlying43 ⟨rfl, Try.infoH3⟩ _ (a :: L.take m) [q] (by rfl) hU2.out _ (by rfl) (HashesAt.one nb HQ.out (by omega)) (by have := HUL.out; rw [List.length_singleton]; omega) hB5.size ?_; intro v8 w8 hk8 g8 hq8))
          have HU8 := Lib.hid hk8
          have HB8 := Lib.hid (hB5.grown g8 hB5.size (fun q e => (hU2.out.lt q e).1))
          clear hk8 g8 hq8 hB5 hU2 nb eb sb hB4
          go_wp2_with fail
          go_roundw
          case rel => exact ⟨m + 1, _, rfl, by omega, by go_num, Lib.hid (by rw [HTN.out]; exact HU8.out), HB8⟩
          case measure => simp [intOf]; omega
        · obtain rfl : m = fn := by omega
          have HLT : Hid (L.take m = L) := List.take_of_length_le (by have h := HFN.out; omega)
          rw [HLT.out] at hU4
          have HLL : Hid ((a :: L).length ≤ 25) := by show _ ≤ _; rw [List.length_cons, ← HFN.out]; omega
          have hF4 := Lib.hid (HFF.out.below hB4.out)
          have hS4 := Lib.hid (HSS.out.below hB4.out)
          have hA4 := HA0.out.below hS4.out.bel HA0.out.lt
          have hL4 := Lib.hid (HL1.out.below hB4.out)
          have hU4' := Lib.hid hU4.out.at
          have hbz4 := Below.refl wr4.heap.size wr4
          clear HFF HSS HL1 hU4 hB4
          have HFk := hF4
          have HSk := hS4
          have HUk := hU4'
          go_wp2_with (first | ((with_reducible show wpList _ _ _ (⟨some 135, _, _, _, _, _⟩ :: _) _ _); refine wpList_load_mid rfl 23 (.tmp 4) rfl (w.heap.size) 0 (by rfl) (a.map bv) _ (blk_rangeP hA4) Try.underlying23 rfl (by rw [List.length_map, HA.out]; exact Try.sizeHash) ?_) | ((with_reducible show wpList _ _ _ (⟨some 136, _, _, _, _, _⟩ :: _) _ _); refine wpList_bsH rfl 34 23 (.tmp 135) rfl a HA.out (by rfl) Try.underlying34 Try.infoHash2 ?_; intro qx wx ex sx bx nx; have hI1 := Lib.hid (HashOwn.oneB nx HA.out (Nat.le_of_eq ex.symm)); have hL5 := Lib.hid (hL4.out.below bx); have hbx5 := hbz4.trans (bx.mono (Nat.le_refl _)); clear bx nx ex sx hA4) | ((with_reducible show wpList _ _ _ (⟨some 138, _, _, _, _, _⟩ :: _) _ _); refine wpList_append_hsP rfl (.tmp 136) (.tmp 137) 34 rfl wr4.heap.size 23 Try.underlying34 ⟨rfl, Try.infoHash3⟩ _ [a] L (by rfl) hI1.out _ (by rfl) hL5.out (by have := HLL.out; rw [List.length_singleton]; rw [List.length_cons] at this; omega) hbx5.size ?_; intro v9 w9 hk9 g9 hq9))
          have hb9 : Below wr4.heap.size wr4 w9 := hbx5.grown g9 hbx5.size (fun q e => (hI1.out.lt q e).1)
          have HX9 : Hid (HashesAt w9 v9 (a :: L)) := hk9.at
          clear hk9 g9 hq9 hI1 hL5 hbx5
          have HF9 := Lib.hid (HFk.out.below hb9)
          have HS9 := Lib.hid (HSk.out.below hb9)
          have HU9 := Lib.hid (HUk.out.below hb9)
          have huv := HFOO.univLe (a := a :: L) (by have := HLL.out; omega) (by omega)
          have HUV := Lib.hid huv
          have hfl9 := HFOO.len
          have hfi9 := HFOO.ins
          have hrd : BookRd w9 bk fs := (show BookIs _ _ _ _ _ _ _ _ _ ∧ _ from HS9.out.bk).1.rd
          have HRD := Lib.hid hrd
          clear HFk HSk HUk hb9 huv hrd hF4 hS4 hL4 hU4' hbz4
          go_wp2_with fail
          refine (Follows_gen _ v9 (a :: L) fs _ (known_calls _ (a :: L) bk fs _ HX9.out HRD.out HUV.out (by omega) (by omega))).mono ?_
          rintro e w10 ⟨v10, R, rfl, hR, hRi, hRm, hRl, b10⟩
          have HR10 := Lib.hid hR
          have HRI := Lib.hid hRi
          have HRM := Lib.hid hRm
          have HF10 := Lib.hid (HF9.out.below b10).at
          have HS10 := Lib.hid (HS9.out.below b10)
          have HU10 := Lib.hid (HU9.out.below b10)
          have HFW := Lib.hid (HF9.out.below b10)
          clear hR hRi hRm b10 HF9 HS9 HU9 HRD HX9
          go_wp2_with fail
          refine (RefFollows_calls _ _ fs (a :: L) _ HF10.out HU10.out HFOO.ok HUV.out (by omega)).mono ?_
          rintro e w11 ⟨v11, R2, rfl, hR2, hR2i, hR2m, b11⟩
          obtain rfl : R = R2 := rises_ext HRI.out hR2i HR10.out.1 hR2.1 (fun x => (HRM.out x).trans (hR2m x).symm)
          have HR11 := Lib.hid (HR10.out.below b11)
          have HY11 := Lib.hid hR2.at
          have HS11 := Lib.hid (HS10.out.below b11)
          have HFW11 := Lib.hid (HFW.out.below b11)
          have hbis := (show BookIs _ _ _ _ _ _ _ _ _ ∧ _ from HS11.out.bk).1
          have HBIS := Lib.hid hbis
          obtain ⟨fvo, fvc, rfl⟩ := HFW11.out.slice4
          obtain ⟨xao, xc, rfl, _⟩ := HR11.out.slice
          obtain ⟨yao, yc, rfl, _⟩ := HY11.out.slice
          clear hR2 hR2i hR2m b11 HR10 HS10 HU10 HF10 HFW hbis
          go_wp2_with fail
          refine (Len_calls _ _ _ _ _ fs _ _ HBIS.out).mono ?_
          rintro e ww ⟨rfl, hww⟩
          have hww2 := hww.symm
          clear hww
          subst hww2
          clear HBIS
          go_wp2_with fail
          have hb12 := Lib.hid (Below.refl w11.heap.size w11)
          go_loopw [23] (fun j wr5 => ∃ (m : Nat), m ≤ R.length ∧ j = .int .i64 m ∧ Hid (Below w11.heap.size w11 wr5)) (fun j _ => R.length - (intOf j).toNat)
          case atStart => exact ⟨0, by omega, rfl, hb12⟩
          case round =>
            obtain ⟨m, hmk, rfl, hB5⟩ := hrel
            obtain ⟨wr5, rfl⟩ : ∃ z, z = wr := ⟨_, rfl⟩
            clear hb12
            by_cases hml : m < R.length
            · obtain ⟨q, hq⟩ : ∃ q, R[m]? = some q := ⟨_, List.getElem?_eq_getElem hml⟩
              obtain ⟨kg, ko, rfl, _⟩ := HR11.out.range m q hq
              obtain ⟨yg, yo, rfl, _⟩ := HY11.out.range m q hq
              have HQ : Hid (q.length = 32) := HR11.out.1 q (List.mem_of_getElem? hq)
              have HKR : Hid (∀ x, Below w11.heap.size w11 x → x.rangeAt kg (ko + m * 32) (q.map bv)) := fun x hx => (HR11.out.below hx).range' m q hq
              have HYR : Hid (∀ x, Below w11.heap.size w11 x → x.rangeAt yg (yo + m * 32) (q.map bv)) := fun x hx => (HY11.out.below hx).range' m q hq
              have hqe : ∀ x, (Op.equalIn 10000 23 (.agg (q.map bv).toArray) (.agg (q.map bv).toArray)).run Try.prog x = .ok true x := fun x => by rw [run_eq_hash x _ _ HQ.out HQ.out, beq_self_eq_true]
              have hb13 := hB5.out
              clear hq hB5
              go_wp2_with fail
              refine wp_region_held_drew (S := fun x => Below w11.heap.size w11 x) (by kernel_rfl) (below_drewN hb13 1) (fun hSq161 => ?_)
              refine wpAnyH_take (i := 0) (v := .slice (some ⟨kg, ko, none⟩) R.length xc) rfl (by kernel_rfl) (by kernel_rfl) (by kernel_rfl) (fun _ _ _ h => h) (Or.inl ⟨by rfl, fun x hx => by go_simp⟩) hSq161 ?_
              simp only [Act.put, List.getElem_toArray, List.getElem_cons_zero, List.getElem_cons_succ, List.setIfInBounds_toArray, List.set_cons_zero, List.set_cons_succ]
              refine wpAnyH_take (i := 1) (v := .int .i64 m) rfl (by kernel_rfl) (by kernel_rfl) (by kernel_rfl) (fun _ _ _ h => h) (Or.inl ⟨by rfl, fun x hx => by go_simp⟩) hSq161 ?_
              simp only [Act.put, List.getElem_toArray, List.getElem_cons_zero, List.getElem_cons_succ, List.setIfInBounds_toArray, List.set_cons_zero, List.set_cons_succ]
              refine wpAnyH_take (i := 2) (v := .pointer (some ⟨kg, ko + m * 32, none⟩)) rfl (by kernel_rfl) (by kernel_rfl) (by kernel_rfl) (fun _ _ _ h => h) (Or.inl ⟨by rfl, fun x hx => by go_simp⟩) hSq161 ?_
              simp only [Act.put, List.getElem_toArray, List.getElem_cons_zero, List.getElem_cons_succ, List.setIfInBounds_toArray, List.set_cons_zero, List.set_cons_succ]
              refine wpAnyH_take (i := 3) rfl (by kernel_rfl) (by kernel_rfl) (by kernel_rfl) (fun _ _ _ h => h) (yieldsIf_load_mid (by rfl) 23 (.tmp 163) rfl (kg) (ko + m * 32) (by rfl) (q.map bv) _ (fun x hx => HKR.out x hx) Try.underlying23 rfl (by rw [List.length_map, HQ.out]; exact Try.sizeHash)) hSq161 ?_
              simp only [Act.put, List.getElem_toArray, List.getElem_cons_zero, List.getElem_cons_succ, List.setIfInBounds_toArray, List.set_cons_zero, List.set_cons_succ]
              refine wpAnyH_take (i := 4) (v := .slice (some ⟨yg, yo, none⟩) R.length yc) rfl (by kernel_rfl) (by kernel_rfl) (by kernel_rfl) (fun _ _ _ h => h) (Or.inl ⟨by rfl, fun x hx => by go_simp⟩) hSq161 ?_
              simp only [Act.put, List.getElem_toArray, List.getElem_cons_zero, List.getElem_cons_succ, List.setIfInBounds_toArray, List.set_cons_zero, List.set_cons_succ]
              refine wpAnyH_take (i := 5) (v := .int .i64 m) rfl (by kernel_rfl) (by kernel_rfl) (by kernel_rfl) (fun _ _ _ h => h) (Or.inl ⟨by rfl, fun x hx => by go_simp⟩) hSq161 ?_
              simp only [Act.put, List.getElem_toArray, List.getElem_cons_zero, List.getElem_cons_succ, List.setIfInBounds_toArray, List.set_cons_zero, List.set_cons_succ]
              refine wpAnyH_take (i := 6) (v := .pointer (some ⟨yg, yo + m * 32, none⟩)) rfl (by kernel_rfl) (by kernel_rfl) (by kernel_rfl) (fun _ _ _ h => h) (Or.inl ⟨by rfl, fun x hx => by go_simp⟩) hSq161 ?_
              simp only [Act.put, List.getElem_toArray, List.getElem_cons_zero, List.getElem_cons_succ, List.setIfInBounds_toArray, List.set_cons_zero, List.set_cons_succ]
              refine wpAnyH_take (i := 7) rfl (by kernel_rfl) (by kernel_rfl) (by kernel_rfl) (fun _ _ _ h => h) (yieldsIf_load_mid (by rfl) 22 (.tmp 167) rfl (yg) (yo + m * 32) (by rfl) (q.map bv) _ (fun x hx => HYR.out x hx) Try.underlying22 rfl (by rw [List.length_map, HQ.out]; exact Try.sizeA32)) hSq161 ?_
              simp only [Act.put, List.getElem_toArray, List.getElem_cons_zero, List.getElem_cons_succ, List.setIfInBounds_toArray, List.set_cons_zero, List.set_cons_succ]
              refine wpAnyH_take (i := 8) (v := .bool false) rfl (by kernel_rfl) (by kernel_rfl) (by kernel_rfl) (fun _ _ _ h => h) (Or.inl ⟨by rfl, fun x hx => by go_simp⟩) hSq161 ?_
              simp only [Act.put, List.getElem_toArray, List.getElem_cons_zero, List.getElem_cons_succ, List.setIfInBounds_toArray, List.set_cons_zero, List.set_cons_succ]
              refine wpAnyH_done (by kernel_rfl) ?_ _
              have HB7 := Lib.hid hSq161
              clear hSq161 hqe
              go_wp2_with fail
              go_roundw
              case rel => exact ⟨m + 1, by omega, by go_num, HB7⟩
              case measure => simp [intOf]; omega
            · have hbe := HS11.out.bel.trans (hB5.out.mono HS11.out.bsize)
              have hfin := HB0.out.trans (hbe.mono HB0.out.size)
              clear hB5
              go_wp2_with fail
              go_returns
              exact ⟨rfl, hfin⟩
end Go.Proofs.Ytlomofcnknpciaa
