/-
  glean.Unpack.
-/
import Derived.Test.YtlomofcnknpciaaGleanSev
import Derived.WalkLawsBesides
import Derived.Lib.BufferWrite
import Derived.Laws.ResultCell
import Derived.Outline
import Derived.Handy
import Derived.Deep.RegionHeld
set_option linter.unusedSimpArgs false
set_option linter.unusedVariables false
namespace Go.Proofs.Ytlomofcnknpciaa
open Go.RowKit

theorem ret_cellTmpG {P : Program} {fn : Func} {R : Ending → World → Prop} {a : Act} {w : World} {p u : Tmp} {ty : TypeId} (hf : fn.results = #[.cell p ty, .tmp u]) (g : Nat) (t : TypeId) (cs : Array Value) (d : TypeDesc)
    (hp : a.tmps.getD p undef = .pointer (some ⟨g, 0, none⟩)) (hg : Blk w g cs t)
    (hu : P.underlying ty = some d) (hd : (match d with | .struct _ | .array _ _ => true | _ => false) = true) (hi : (P.info? ty).map (·.size) = some cs.size)
    (hdf : a.defers = []) (hR : R (.returned (.tuple #[.agg cs, a.tmps.getD u undef])) w) : bodyPost P fn R .ret a w := by
  refine bodyPost_ret (v := .tuple #[.agg cs, a.tmps.getD u undef]) ?_ hdf hR
  rw [results_cell_tmp hf, hp]
  simp [asAddr, run_loadVar_row w g t ty cs (0, 0) d hg hu hd hi, Result.andThen]
theorem unB_0 (s : RSt) : unB 0 s = (⟨0, [], [], []⟩, rFail 3 s) := if_pos rfl
theorem unB_45 {k : Int} {s : RSt} (h : k = 4 ∨ k = 5) : unB k s = (⟨k, [], (readN rHash (rNum 256 s).1.toNat (rNum 256 s).2).1, []⟩, (readN rHash (rNum 256 s).1.toNat (rNum 256 s).2).2) := by
  unfold unB
  rw [if_neg (by omega), if_pos h]
theorem unB_6 (s : RSt) : unB 6 s = (⟨6, [], [], (readN rTx (rNum 64 s).1.toNat (rNum 64 s).2).1⟩, (readN rTx (rNum 64 s).1.toNat (rNum 64 s).2).2) := by
  unfold unB
  rw [if_neg (by omega), if_neg (by omega), if_pos rfl]
theorem unB_123 {k : Int} {s : RSt} (h : 1 ≤ k ∧ k ≤ 3) : unB k s = (⟨k, (rTx s).1, [], []⟩, (rTx s).2) := by
  unfold unB
  rw [if_neg (by omega), if_neg (by omega), if_neg (by omega)]
abbrev pkZ : Array Value := #[.int .i64 0, .string ⟨#[]⟩, .slice none 0 0, .slice none 0 0]
theorem Try.zeroPk : (Try.prog.info? 109).bind (·.zero) = some (.agg pkZ) := by kernel_rfl
theorem Try.zeroRPk : (Try.prog.info? 107).bind (·.zero) = some (.agg pkZ) := by kernel_rfl
theorem Try.sizePk : (Try.prog.info? 109).map (·.size) = some 4 := by kernel_rfl
theorem Try.sizeRPk : (Try.prog.info? 107).map (·.size) = some 4 := by kernel_rfl
theorem Try.builtPk (k : Int) : Try.prog.built 109 [(0, .int .i64 k)] = some #[.int .i64 k, .string ⟨#[]⟩, .slice none 0 0, .slice none 0 0] := by kernel_rfl
theorem Try.builtPk0 : Try.prog.built 109 [] = some pkZ := by kernel_rfl
theorem Try.builtRPk0 : Try.prog.built 107 [] = some pkZ := by kernel_rfl
theorem pk_all (k : Int) (s : List UInt8) (a b : Value) (ha : a.oneCell' = true) (hb : b.oneCell' = true) : (#[.int .i64 k, .string (str s), a, b] : Array Value).all (·.oneCell') = true := by
  simp [ha, hb]; exact ⟨rfl, rfl⟩
/-- What reading a packet answers. -/
def UnRes (bs : List UInt8) (w : World) (e : Ending) (w' : World) : Prop := ∃ iv tv, e = .returned (.tuple #[.agg #[.int .i64 (unT bs).1.k, .string (str (unT bs).1.s), iv, tv], .int .i64 (unT bs).2]) ∧ HashesAt w' iv (unT bs).1.ids ∧ TxAt w' tv (unT bs).1.ts ∧ Below w.heap.size w w'
theorem UnRes.mk {bs : List UInt8} {w w' : World} {p : Pk} {e : Int} {iv tv : Value} (h : unT bs = (p, e)) (h1 : HashesAt w' iv p.ids) (h2 : TxAt w' tv p.ts) (h3 : Below w.heap.size w w') : UnRes bs w (.returned (.tuple #[.agg #[.int .i64 p.k, .string (str p.s), iv, tv], .int .i64 e])) w' := by
  unfold UnRes
  rw [h]
  exact ⟨iv, tv, rfl, h1, h2, h3⟩
theorem hashes_nil (w : World) : HashesAt w (.slice none 0 0) [] := ⟨fun h hh => (by cases hh), .inl ⟨rfl, none, rfl⟩⟩
theorem tx_nil (w : World) : TxAt w (.slice none 0 0) [] := .inl ⟨rfl, none, 0, rfl⟩
theorem unT_bad {bs : List UInt8} {p : Pk} {s : RSt} (h : unK bs = (p, s)) (he : rEnd s ≠ 0) : unT bs = (pk0, rEnd s) := by unfold unT; rw [h]; exact if_pos he
theorem unT_wrong {bs : List UInt8} {p : Pk} {s : RSt} (h : unK bs = (p, s)) (he : rEnd s = 0) (hr : ¬ RightP p) : unT bs = (pk0, 3) := by
  unfold unT; rw [h]
  show (if rEnd s ≠ 0 then _ else _) = _
  rw [if_neg (by simp [he])]
  exact if_neg hr
theorem unT_right {bs : List UInt8} {p : Pk} {s : RSt} (h : unK bs = (p, s)) (he : rEnd s = 0) (hr : RightP p) : unT bs = (p, 0) := by
  unfold unT; rw [h]
  show (if rEnd s ≠ 0 then _ else _) = _
  rw [if_neg (by simp [he])]
  exact if_pos hr
theorem hashes_grownG {w w' : World} {v : Value} {l : List HsT} {g : Nat} (h : HashesAt w v l) (gr : w.grownBy w' (some g)) (hne : ∀ q o n c, v = .slice (some ⟨q, o, none⟩) n c → q ≠ g) : HashesAt w' v l := by
  refine ⟨h.1, ?_⟩
  rcases h.2 with h0 | ⟨q, o, c, e, hc, hlt, hcell⟩
  · exact .inl h0
  · exact .inr ⟨q, o, c, e, hc, Nat.lt_of_lt_of_le hlt gr.size, fun j u hj => gr.cell (hcell j u hj) (fun e2 => hne q o _ _ e (by injection e2))⟩
theorem tx_grownG {w w' : World} {v : Value} {l : List (List UInt8)} {g : Nat} (h : TxAt w v l) (gr : w.grownBy w' (some g)) (hne : ∀ q o n c, v = .slice (some ⟨q, o, none⟩) n c → q ≠ g) : TxAt w' v l := by
  rcases h with h0 | ⟨q, o, c, e, hlt, hcell⟩
  · exact .inl h0
  · exact .inr ⟨q, o, c, e, Nat.lt_of_lt_of_le hlt gr.size, fun j u hj => gr.cell (hcell j u hj) (fun e2 => hne q o _ _ e (by injection e2))⟩
theorem ne_nil (g : Nat) : ∀ q o n c, (Value.slice none 0 0) = .slice (some ⟨q, o, none⟩) n c → q ≠ g := fun q o n c e => by cases e
theorem ne_own {w : World} {base g s n0 : Nat} {t : TypeId} {v : Value} {xs : List Value} (h : w.ownsRow base t s v n0 xs) (hg : g < base) : ∀ q o n c, v = .slice (some ⟨q, o, none⟩) n c → q ≠ g := fun q o n c e => by
  rcases h.2 with ⟨h0, _⟩ | ⟨g', cap, cur, h0, hb, _⟩
  · rw [e] at h0; cases h0
  · rw [e] at h0
    injection h0 with h1
    simp only [Option.some.injEq, Addr.mk.injEq] at h1
    omega
theorem own_oneG {w : World} {base s n0 : Nat} {t : TypeId} {v : Value} {xs : List Value} (h : w.ownsRow base t s v n0 xs) : v.oneCell' = true := by
  rcases h.2 with ⟨h0, _⟩ | ⟨g', cap, cur, h0, hb, _⟩ <;> (rw [h0]; rfl)
set_option maxHeartbeats 16000000 in
set_option maxRecDepth 100000 in
theorem GUnpack_calls (bs : List UInt8) (w : World) (hbs : bs.length ≤ 1000000) : Calls Try.prog 60 #[.string (str bs)] w (UnRes bs w) := by
  obtain ⟨k, hk⟩ : ∃ k, k = (rNum 6 (bs, 0)).1 := ⟨_, rfl⟩
  obtain ⟨s1, hs1⟩ : ∃ s, s = (rNum 6 (bs, 0)).2 := ⟨_, rfl⟩
  have HK : Hid (unK bs = unB k s1) := by show _ = _; rw [hk, hs1]; rfl
  have hkA : 0 ≤ k := by rw [hk]; exact rNum_nonneg 6 (bs, 0)
  have hkB : k ≤ 6 := by rw [hk]; exact rNum_le 6 (by omega) (bs, 0)
  have hs9 : s1.1.length ≤ 1000000 := by rw [hs1]; exact Nat.le_trans (rNum_len 6 (bs, 0)) hbs
  have cN : ∀ (b : Nat) (y : World), ReaderIs y b (bs, 0) → Calls Try.prog 118 #[.pointer (some ⟨b, 0, none⟩), .int .i64 6] y fun e w' => e = .returned (.int .i64 k) ∧ ReaderIs w' b s1 ∧ y.grownBy w' (some b) := fun b y hy => by
    rw [hk, hs1]; exact RNum_calls b (bs, 0) 6 y hy (by show bs.length ≤ _; omega)
  clear hk hs1
  go_enter Try.func60, Try.ntmps60
  go_wp2_with ((with_reducible show wpList _ _ _ (⟨some 2, _, _, _, _, _⟩ :: _) _ _); refine wpList_allocZ rfl 109 rfl _ Try.zeroPk ?_; intro wa sa ba na)
  refine (From_calls bs _).mono ?_
  rintro e wb ⟨rfl, hb, bb⟩
  obtain ⟨b, hbb⟩ : ∃ b, b = wa.heap.size := ⟨_, rfl⟩
  rw [← hbb] at hb bb ⊢
  have hRb : w.heap.size < b := by omega
  have hP0 := na.below bb hRb
  have hBb := ba.trans (bb.mono (by omega))
  have hlb := reader_lt hb
  clear na ba bb sa hbb
  obtain ⟨q, hqq⟩ : ∃ q, q = wb.heap.size := ⟨_, rfl⟩
  obtain ⟨wc, hwc⟩ : ∃ z, z = wb.alloc (.cells #[.pointer (some ⟨b, 0, none⟩)] 187) := ⟨_, rfl⟩
  have hQ : Blk wc q #[.pointer (some ⟨b, 0, none⟩)] 187 := by rw [hwc, hqq]; exact Blk.new _ _ _
  have hR : ReaderIs wc b (bs, 0) := by rw [hwc]; exact Blk.alloc hb _
  have hP0c : Blk wc w.heap.size pkZ 109 := by rw [hwc]; exact hP0.alloc _
  have hBc : Below w.heap.size w wc := by rw [hwc]; exact hBb.alloc hBb.size _
  have hbq : b < q := by omega
  have hsc : q + 1 ≤ wc.heap.size := by rw [hwc, hqq]; simp
  have HC := Lib.hid hwc
  have HQ0 := Lib.hid hqq
  clear hb hP0 hBb hlb hwc hqq
  go_wp2_with fail
  rw [← HC.out, ← HQ0.out]
  clear HC HQ0
  refine (cN b _ hR).mono ?_
  rintro e wd ⟨rfl, hr, g⟩
  have hQd := hQ.grown g (by simp; omega)
  have hP0d := hP0c.grown g (by simp; omega)
  have hBd := hBc.grown g (by have := hBc.size; omega) (fun q e => by cases e; omega)
  have hsd := g.size
  have hq0 := hQd.cell 0 _ rfl
  clear hQ hR hP0c hBc cN g
  obtain ⟨pb, hpb⟩ : ∃ p, p = wd.heap.size := ⟨_, rfl⟩
  have HPB := Lib.hid hpb
  have hqp : q < pb := by omega
  clear hpb
  by_cases hk0 : k = 0
  · subst hk0
    clear hkA hkB
    go_wp2_with (first | ((with_reducible show wpList _ _ _ (⟨some 11, _, _, _, _, _⟩ :: _) _ _); refine wpList_buildCells rfl 109 #[(0, .tmp 10)] rfl #[.int .i64 0, .string ⟨#[]⟩, .slice none 0 0, .slice none 0 0] (Try.builtPk 0) ?_) | ((with_reducible show wpList _ _ _ (⟨some 5, _, _, _, _, _⟩ :: _) _ _); refine wpList_allocZ rfl 109 rfl _ Try.zeroPk ?_; intro we se be ne; rw [← HPB.out] at be ne ⊢; have hRe := Blk.below hr be (by omega); have hQe := hQd.below be (by omega); have hP0e := hP0d.below be (by omega); have hBe := hBd.trans (be.mono (by omega)); clear hr hQd hP0d hBd hq0) | ((with_reducible show wpList _ _ _ (⟨none, Op.store _ (.tmp 5) _, _, _, _, _⟩ :: _) _ _); refine wpList_storeBlk rfl 109 (.tmp 5) (.tmp 11) rfl pb #[.int .i64 0, .string ⟨#[]⟩, .slice none 0 0, .slice none 0 0] (by rfl) (by rfl) _ _ ne (by exact Try.sizePk) (by rfl) (pk_all 0 [] _ _ rfl rfl) ?_; intro wf hPf gf; have HR := Lib.hid (Blk.grown hRe gf (by simp; omega)); have HQ := Lib.hid (hQe.grown gf (by simp; omega)); have HP0 := Lib.hid (hP0e.grown gf (by simp; omega)); have HB := Lib.hid (hBe.grown gf (by have := hBe.size; omega) (fun q e => by cases e; omega)); have hsf := gf.size; clear hRe hQe hP0e hBe ne gf; have h0 := hPf.cell 0 _ rfl; have hq0 := HQ.out.cell 0 _ rfl))
    refine (Fail_calls b s1 3 _ HR.out).mono ?_
    rintro e wg ⟨rfl, hrg, gg⟩
    have HR := Lib.hid hrg
    have HQg := HQ.out.grown gg (by simp; omega)
    have HP0g := HP0.out.grown gg (by simp; omega)
    have HPg := hPf.grown gg (by simp; omega)
    have HBg := HB.out.grown gg (by have := HB.out.size; omega) (fun q e => by cases e; omega)
    have hgs := gg.size
    clear hq0 h0 hrg gg HQ HP0 HB hPf
    have HQ := Lib.hid HQg
    have HP0 := Lib.hid HP0g
    have HP := Lib.hid HPg
    have HB := Lib.hid HBg
    clear HQg HP0g HPg HBg
    have HU : Hid (unK bs = (⟨0, [], [], []⟩, rFail 3 s1)) := by show _ = _; rw [HK.out, unB_0]
    obtain ⟨s2, hs2⟩ : ∃ s, s = rFail 3 s1 := ⟨_, rfl⟩
    rw [← hs2] at HR HU
    clear hs2
    have hn1 : ([] : List HsT).length ≤ 1000 := Nat.zero_le _
    have hn2 : ([] : List (List UInt8)).length ≤ 1000 := Nat.zero_le _
    have HO1 : Hid ((Value.slice none 0 0).oneCell' = true) := rfl
    have HI := Lib.hid (hashes_nil wg)
    have HNE1 := Lib.hid (ne_nil w.heap.size)
    have HO2 : Hid ((Value.slice none 0 0).oneCell' = true) := rfl
    have HX := Lib.hid (tx_nil wg)
    have HNE2 := Lib.hid (ne_nil w.heap.size)
    have HSM : Hid (([] : List UInt8).length ≤ maxLen) := Nat.zero_le _
    have HTM : Hid (∀ t ∈ ([] : List (List UInt8)), t.length ≤ maxLen) := (fun t h => by cases h)
    have hq0 := HQ.out.cell 0 _ rfl
    go_wp2_with fail
    refine (REnd_calls b s2 _ HR.out).mono ?_
    rintro e wy ⟨rfl, hwy⟩
    subst hwy
    clear hq0
    obtain ⟨E, hE⟩ : ∃ E, E = rEnd s2 := ⟨_, rfl⟩
    have HE := Lib.hid hE
    rw [← hE]
    clear hE
    have HP0z := HP0
    by_cases he : E = 0
    · subst he
      have hp0 := HP.out.cell 0 _ rfl
      have hp1 := HP.out.cell 1 _ rfl
      have hp2 := HP.out.cell 2 _ rfl
      have hp3 := HP.out.cell 3 _ rfl
      have hbz := HB.out
      by_cases hr : RightP (⟨0, [], [], []⟩ : Pk)
      · have cR := GRight_calls (⟨0, [], [], []⟩ : Pk) (.slice none 0 0) (.slice none 0 0) wg HI.out HX.out hn1 hn2 HSM.out HTM.out true (by simpa using hr)
        have HRr := Lib.hid hr
        clear hr
        go_wp2_with fail
        refine cR.mono ?_
        rintro e w7 ⟨rfl, b7⟩
        have HP0y := Lib.hid (HP0z.out.below b7 HP0z.out.lt)
        have HPy := Lib.hid (HP.out.below b7 HP.out.lt)
        have hby := hbz.trans (b7.mono hbz.size)
        have HIy := Lib.hid (HI.out.below b7)
        have HXy := Lib.hid (HX.out.below b7)
        clear cR b7 hbz hp0 hp1 hp2 hp3
        have hp0 := HPy.out.cell 0 _ rfl
        have hp1 := HPy.out.cell 1 _ rfl
        have hp2 := HPy.out.cell 2 _ rfl
        have hp3 := HPy.out.cell 3 _ rfl
        go_wp2_with ((with_reducible show wpList _ _ _ (⟨none, Op.store _ (.tmp 2) _, _, _, _, _⟩ :: _) _ _); refine wpList_storeBlk rfl 109 (.tmp 2) (.tmp 47) rfl w.heap.size #[.int .i64 0, .string (str []), .slice none 0 0, .slice none 0 0] (by rfl) (by rfl) _ _ HP0y.out (by exact Try.sizePk) (by rfl) (pk_all _ _ _ _ HO1.out HO2.out) ?_; intro w8 n8 g8)
        have hb8 := hby.grown g8 hby.size (fun q e => by cases e; exact Nat.le_refl _)
        have RES : UnRes bs w (.returned (.tuple #[.agg #[.int .i64 0, .string (str []), .slice none 0 0, .slice none 0 0], .int .i64 0])) w8 := UnRes.mk (unT_right HU.out HE.out.symm HRr.out) (hashes_grownG HIy.out g8 HNE1.out) (tx_grownG HXy.out g8 HNE2.out) (hb8)
        refine ret_cellTmpG rfl w.heap.size 109 #[.int .i64 0, .string (str []), .slice none 0 0, .slice none 0 0] _ (by rfl) n8 Try.underlying109 rfl (by exact Try.sizePk) rfl ?_
        exact RES
      · have cR := GRight_calls (⟨0, [], [], []⟩ : Pk) (.slice none 0 0) (.slice none 0 0) wg HI.out HX.out hn1 hn2 HSM.out HTM.out false (by simpa using hr)
        have HRr := Lib.hid hr
        clear hr
        go_wp2_with fail
        refine cR.mono ?_
        rintro e w7 ⟨rfl, b7⟩
        have HP0y := Lib.hid (HP0z.out.below b7 HP0z.out.lt)
        have hby := hbz.trans (b7.mono hbz.size)
        clear cR b7 hbz hp0 hp1 hp2 hp3
        go_wp2_with (first | ((with_reducible show wpList _ _ _ (⟨some 46, _, _, _, _, _⟩ :: _) _ _); refine wpList_buildCells rfl 109 #[] rfl pkZ Try.builtPk0 ?_) | ((with_reducible show wpList _ _ _ (⟨none, Op.store _ (.tmp 2) _, _, _, _, _⟩ :: _) _ _); refine wpList_storeBlk rfl 109 (.tmp 2) (.tmp 46) rfl w.heap.size pkZ (by rfl) (by rfl) _ _ HP0y.out (by exact Try.sizePk) (by rfl) (pk_all 0 [] _ _ rfl rfl) ?_; intro w8 n8 g8))
        have hb8 := hby.grown g8 hby.size (fun q e => by cases e; exact Nat.le_refl _)
        have RES : UnRes bs w (.returned (.tuple #[.agg #[.int .i64 pk0.k, .string (str pk0.s), .slice none 0 0, .slice none 0 0], .int .i64 3])) w8 := UnRes.mk (unT_wrong HU.out HE.out.symm HRr.out) (hashes_nil _) (tx_nil _) (hb8)
        refine ret_cellTmpG rfl w.heap.size 109 #[.int .i64 pk0.k, .string (str pk0.s), .slice none 0 0, .slice none 0 0] _ (by rfl) n8 Try.underlying109 rfl (by exact Try.sizePk) rfl ?_
        exact RES
    · have hbz := HB.out
      have hE0 : decide (E = 0) = false := decide_eq_false he
      go_wp2_with (first | ((with_reducible show wpList _ _ _ (⟨some 40, _, _, _, _, _⟩ :: _) _ _); refine wpList_buildCells rfl 109 #[] rfl pkZ Try.builtPk0 ?_) | ((with_reducible show wpList _ _ _ (⟨none, Op.store _ (.tmp 2) _, _, _, _, _⟩ :: _) _ _); refine wpList_storeBlk rfl 109 (.tmp 2) (.tmp 40) rfl w.heap.size pkZ (by rfl) (by rfl) _ _ HP0z.out (by exact Try.sizePk) (by rfl) (pk_all 0 [] _ _ rfl rfl) ?_; intro w8 n8 g8))
      have hb8 := hbz.grown g8 hbz.size (fun q e => by cases e; exact Nat.le_refl _)
      have RES : UnRes bs w (.returned (.tuple #[.agg #[.int .i64 pk0.k, .string (str pk0.s), .slice none 0 0, .slice none 0 0], .int .i64 E])) w8 := UnRes.mk (by rw [HE.out]; exact unT_bad HU.out (fun e => he (HE.out.trans e))) (hashes_nil _) (tx_nil _) (hb8)
      refine ret_cellTmpG rfl w.heap.size 109 #[.int .i64 pk0.k, .string (str pk0.s), .slice none 0 0, .slice none 0 0] _ (by rfl) n8 Try.underlying109 rfl (by exact Try.sizePk) rfl ?_
      exact RES
  by_cases hk4 : k = 4
  · subst hk4
    clear hkA hkB
    go_wp2_with (first | ((with_reducible show wpList _ _ _ (⟨some 11, _, _, _, _, _⟩ :: _) _ _); refine wpList_buildCells rfl 109 #[(0, .tmp 10)] rfl #[.int .i64 4, .string ⟨#[]⟩, .slice none 0 0, .slice none 0 0] (Try.builtPk 4) ?_) | ((with_reducible show wpList _ _ _ (⟨some 5, _, _, _, _, _⟩ :: _) _ _); refine wpList_allocZ rfl 109 rfl _ Try.zeroPk ?_; intro we se be ne; rw [← HPB.out] at be ne ⊢; have hRe := Blk.below hr be (by omega); have hQe := hQd.below be (by omega); have hP0e := hP0d.below be (by omega); have hBe := hBd.trans (be.mono (by omega)); clear hr hQd hP0d hBd hq0) | ((with_reducible show wpList _ _ _ (⟨none, Op.store _ (.tmp 5) _, _, _, _, _⟩ :: _) _ _); refine wpList_storeBlk rfl 109 (.tmp 5) (.tmp 11) rfl pb #[.int .i64 4, .string ⟨#[]⟩, .slice none 0 0, .slice none 0 0] (by rfl) (by rfl) _ _ ne (by exact Try.sizePk) (by rfl) (pk_all 4 [] _ _ rfl rfl) ?_; intro wf hPf gf; have HR := Lib.hid (Blk.grown hRe gf (by simp; omega)); have HQ := Lib.hid (hQe.grown gf (by simp; omega)); have HP0 := Lib.hid (hP0e.grown gf (by simp; omega)); have HB := Lib.hid (hBe.grown gf (by have := hBe.size; omega) (fun q e => by cases e; omega)); have hsf := gf.size; clear hRe hQe hP0e hBe ne gf; have h0 := hPf.cell 0 _ rfl; have hq0 := HQ.out.cell 0 _ rfl))
    refine (sevH_calls b 256 s1 _ HR.out hs9 (by omega) (by omega)).mono ?_
    rintro e wg ⟨v, rfl, hv, hrg, gg⟩
    have hl := readN_len rHash (rNum 256 s1).1.toNat (rNum 256 s1).2
    have hl2 := rNum_le 256 (by omega) s1
    have HU0 : Hid (unK bs = (⟨4, [], (readN rHash (rNum 256 s1).1.toNat (rNum 256 s1).2).1, []⟩, (readN rHash (rNum 256 s1).1.toNat (rNum 256 s1).2).2)) := by show _ = _; rw [HK.out, unB_45 (by omega)]
    obtain ⟨ids, hids⟩ : ∃ l, l = (readN rHash (rNum 256 s1).1.toNat (rNum 256 s1).2).1 := ⟨_, rfl⟩
    obtain ⟨s2, hs2⟩ : ∃ s, s = (readN rHash (rNum 256 s1).1.toNat (rNum 256 s1).2).2 := ⟨_, rfl⟩
    rw [← hids] at hv hl HU0
    rw [← hs2] at hrg HU0
    have HU : Hid (unK bs = (⟨4, [], ids, []⟩, s2)) := HU0
    have hn1 : ids.length ≤ 1000 := by omega
    have hn2 : ([] : List (List UInt8)).length ≤ 1000 := Nat.zero_le _
    clear hl hl2 hids hs2 HU0
    obtain ⟨vao, vc, rfl⟩ := own_slice hv.2
    have hwfb : pb < wf.heap.size := by have := HPB.out; omega
    have HR := Lib.hid hrg
    have HQg := HQ.out.grown gg (by simp; omega)
    have HP0g := HP0.out.grown gg (by simp; omega)
    have HPg := hPf.grown gg (by simp; omega)
    have HBg := HB.out.grown gg (by have := HB.out.size; omega) (fun q e => by cases e; omega)
    have hgs := gg.size
    clear hq0 h0 hrg gg HQ HP0 HB hPf
    obtain ⟨wz, hwz⟩ : ∃ z, z = wg.setCell ⟨pb, 2, none⟩ (.slice vao ids.length vc) := ⟨_, rfl⟩
    have hp2 := HPg.cell 2 _ rfl
    have hf2 := HPg.free 2
    have HQ : Hid (Blk wz q #[.pointer (some ⟨b, 0, none⟩)] 187) := by show Blk _ _ _ _; rw [hwz]; exact HQg.setOther _ _ (by show q ≠ pb; omega)
    have HP0 : Hid (Blk wz w.heap.size pkZ 109) := by show Blk _ _ _ _; rw [hwz]; exact HP0g.setOther _ _ (by show w.heap.size ≠ pb; omega)
    have HRz : Hid (ReaderIs wz b s2) := by show ReaderIs _ _ _; rw [hwz]; exact Blk.setOther HR.out _ _ (by show b ≠ pb; omega)
    have hgz : wg.grownBy wz (some pb) := by rw [hwz]; exact Lib.grownBy_setCell wg pb 2 _
    have HB : Hid (Below w.heap.size w wz) := HBg.grown hgz HBg.size (fun q e => by cases e; omega)
    have HPz := HPg.set 2 (.slice vao ids.length vc)
    rw [← hwz] at HPz
    have hq0 : (wg.setCell ⟨pb, 2, none⟩ (.slice vao ids.length vc)).cell? ⟨q, 0, none⟩ = some (.pointer (some ⟨b, 0, none⟩)) := by rw [← hwz]; exact HQ.out.cell 0 _ rfl
    have HWZ := Lib.hid hwz
    clear hwz HQg HP0g HBg HR HPg
    have HR := HRz
    clear HRz
    have HI : Hid (HashesAt wz (.slice vao ids.length vc) ids) := (hv.kept hgz (.inr (fun e => by have := (hv.lt _ e).1; omega))).at
    have HNE1 := Lib.hid (ne_own (g := w.heap.size) hv.2 (by omega))
    have HO1 := Lib.hid (own_oneG hv.2)
    have HP := Lib.hid HPz
    clear HPz hgz hv
    have HO2 : Hid ((Value.slice none 0 0).oneCell' = true) := rfl
    have HX := Lib.hid (tx_nil wz)
    have HNE2 := Lib.hid (ne_nil w.heap.size)
    have HSM : Hid (([] : List UInt8).length ≤ maxLen) := Nat.zero_le _
    have HTM : Hid (∀ t ∈ ([] : List (List UInt8)), t.length ≤ maxLen) := (fun t h => by cases h)
    go_wp2_with fail
    rw [← HWZ.out]
    clear HWZ hq0 hp2 hf2
    refine (REnd_calls b s2 _ HR.out).mono ?_
    rintro e wy ⟨rfl, hwy⟩
    subst hwy
    obtain ⟨E, hE⟩ : ∃ E, E = rEnd s2 := ⟨_, rfl⟩
    have HE := Lib.hid hE
    rw [← hE]
    clear hE
    have HP0z := HP0
    by_cases he : E = 0
    · subst he
      have hp0 := HP.out.cell 0 _ rfl
      have hp1 := HP.out.cell 1 _ rfl
      have hp2 := HP.out.cell 2 _ rfl
      have hp3 := HP.out.cell 3 _ rfl
      have hbz := HB.out
      by_cases hr : RightP (⟨4, [], ids, []⟩ : Pk)
      · have cR := GRight_calls (⟨4, [], ids, []⟩ : Pk) (.slice vao ids.length vc) (.slice none 0 0) wz HI.out HX.out hn1 hn2 HSM.out HTM.out true (by simpa using hr)
        have HRr := Lib.hid hr
        clear hr
        go_wp2_with fail
        refine cR.mono ?_
        rintro e w7 ⟨rfl, b7⟩
        have HP0y := Lib.hid (HP0z.out.below b7 HP0z.out.lt)
        have HPy := Lib.hid (HP.out.below b7 HP.out.lt)
        have hby := hbz.trans (b7.mono hbz.size)
        have HIy := Lib.hid (HI.out.below b7)
        have HXy := Lib.hid (HX.out.below b7)
        clear cR b7 hbz hp0 hp1 hp2 hp3
        have hp0 := HPy.out.cell 0 _ rfl
        have hp1 := HPy.out.cell 1 _ rfl
        have hp2 := HPy.out.cell 2 _ rfl
        have hp3 := HPy.out.cell 3 _ rfl
        go_wp2_with ((with_reducible show wpList _ _ _ (⟨none, Op.store _ (.tmp 2) _, _, _, _, _⟩ :: _) _ _); refine wpList_storeBlk rfl 109 (.tmp 2) (.tmp 47) rfl w.heap.size #[.int .i64 4, .string (str []), .slice vao ids.length vc, .slice none 0 0] (by rfl) (by rfl) _ _ HP0y.out (by exact Try.sizePk) (by rfl) (pk_all _ _ _ _ HO1.out HO2.out) ?_; intro w8 n8 g8)
        have hb8 := hby.grown g8 hby.size (fun q e => by cases e; exact Nat.le_refl _)
        have RES : UnRes bs w (.returned (.tuple #[.agg #[.int .i64 4, .string (str []), .slice vao ids.length vc, .slice none 0 0], .int .i64 0])) w8 := UnRes.mk (unT_right HU.out HE.out.symm HRr.out) (hashes_grownG HIy.out g8 HNE1.out) (tx_grownG HXy.out g8 HNE2.out) (hb8)
        refine ret_cellTmpG rfl w.heap.size 109 #[.int .i64 4, .string (str []), .slice vao ids.length vc, .slice none 0 0] _ (by rfl) n8 Try.underlying109 rfl (by exact Try.sizePk) rfl ?_
        exact RES
      · have cR := GRight_calls (⟨4, [], ids, []⟩ : Pk) (.slice vao ids.length vc) (.slice none 0 0) wz HI.out HX.out hn1 hn2 HSM.out HTM.out false (by simpa using hr)
        have HRr := Lib.hid hr
        clear hr
        go_wp2_with fail
        refine cR.mono ?_
        rintro e w7 ⟨rfl, b7⟩
        have HP0y := Lib.hid (HP0z.out.below b7 HP0z.out.lt)
        have hby := hbz.trans (b7.mono hbz.size)
        clear cR b7 hbz hp0 hp1 hp2 hp3
        go_wp2_with (first | ((with_reducible show wpList _ _ _ (⟨some 46, _, _, _, _, _⟩ :: _) _ _); refine wpList_buildCells rfl 109 #[] rfl pkZ Try.builtPk0 ?_) | ((with_reducible show wpList _ _ _ (⟨none, Op.store _ (.tmp 2) _, _, _, _, _⟩ :: _) _ _); refine wpList_storeBlk rfl 109 (.tmp 2) (.tmp 46) rfl w.heap.size pkZ (by rfl) (by rfl) _ _ HP0y.out (by exact Try.sizePk) (by rfl) (pk_all 0 [] _ _ rfl rfl) ?_; intro w8 n8 g8))
        have hb8 := hby.grown g8 hby.size (fun q e => by cases e; exact Nat.le_refl _)
        have RES : UnRes bs w (.returned (.tuple #[.agg #[.int .i64 pk0.k, .string (str pk0.s), .slice none 0 0, .slice none 0 0], .int .i64 3])) w8 := UnRes.mk (unT_wrong HU.out HE.out.symm HRr.out) (hashes_nil _) (tx_nil _) (hb8)
        refine ret_cellTmpG rfl w.heap.size 109 #[.int .i64 pk0.k, .string (str pk0.s), .slice none 0 0, .slice none 0 0] _ (by rfl) n8 Try.underlying109 rfl (by exact Try.sizePk) rfl ?_
        exact RES
    · have hbz := HB.out
      have hE0 : decide (E = 0) = false := decide_eq_false he
      go_wp2_with (first | ((with_reducible show wpList _ _ _ (⟨some 40, _, _, _, _, _⟩ :: _) _ _); refine wpList_buildCells rfl 109 #[] rfl pkZ Try.builtPk0 ?_) | ((with_reducible show wpList _ _ _ (⟨none, Op.store _ (.tmp 2) _, _, _, _, _⟩ :: _) _ _); refine wpList_storeBlk rfl 109 (.tmp 2) (.tmp 40) rfl w.heap.size pkZ (by rfl) (by rfl) _ _ HP0z.out (by exact Try.sizePk) (by rfl) (pk_all 0 [] _ _ rfl rfl) ?_; intro w8 n8 g8))
      have hb8 := hbz.grown g8 hbz.size (fun q e => by cases e; exact Nat.le_refl _)
      have RES : UnRes bs w (.returned (.tuple #[.agg #[.int .i64 pk0.k, .string (str pk0.s), .slice none 0 0, .slice none 0 0], .int .i64 E])) w8 := UnRes.mk (by rw [HE.out]; exact unT_bad HU.out (fun e => he (HE.out.trans e))) (hashes_nil _) (tx_nil _) (hb8)
      refine ret_cellTmpG rfl w.heap.size 109 #[.int .i64 pk0.k, .string (str pk0.s), .slice none 0 0, .slice none 0 0] _ (by rfl) n8 Try.underlying109 rfl (by exact Try.sizePk) rfl ?_
      exact RES
  by_cases hk5 : k = 5
  · subst hk5
    clear hkA hkB
    go_wp2_with (first | ((with_reducible show wpList _ _ _ (⟨some 11, _, _, _, _, _⟩ :: _) _ _); refine wpList_buildCells rfl 109 #[(0, .tmp 10)] rfl #[.int .i64 5, .string ⟨#[]⟩, .slice none 0 0, .slice none 0 0] (Try.builtPk 5) ?_) | ((with_reducible show wpList _ _ _ (⟨some 5, _, _, _, _, _⟩ :: _) _ _); refine wpList_allocZ rfl 109 rfl _ Try.zeroPk ?_; intro we se be ne; rw [← HPB.out] at be ne ⊢; have hRe := Blk.below hr be (by omega); have hQe := hQd.below be (by omega); have hP0e := hP0d.below be (by omega); have hBe := hBd.trans (be.mono (by omega)); clear hr hQd hP0d hBd hq0) | ((with_reducible show wpList _ _ _ (⟨none, Op.store _ (.tmp 5) _, _, _, _, _⟩ :: _) _ _); refine wpList_storeBlk rfl 109 (.tmp 5) (.tmp 11) rfl pb #[.int .i64 5, .string ⟨#[]⟩, .slice none 0 0, .slice none 0 0] (by rfl) (by rfl) _ _ ne (by exact Try.sizePk) (by rfl) (pk_all 5 [] _ _ rfl rfl) ?_; intro wf hPf gf; have HR := Lib.hid (Blk.grown hRe gf (by simp; omega)); have HQ := Lib.hid (hQe.grown gf (by simp; omega)); have HP0 := Lib.hid (hP0e.grown gf (by simp; omega)); have HB := Lib.hid (hBe.grown gf (by have := hBe.size; omega) (fun q e => by cases e; omega)); have hsf := gf.size; clear hRe hQe hP0e hBe ne gf; have h0 := hPf.cell 0 _ rfl; have hq0 := HQ.out.cell 0 _ rfl))
    refine (sevH_calls b 256 s1 _ HR.out hs9 (by omega) (by omega)).mono ?_
    rintro e wg ⟨v, rfl, hv, hrg, gg⟩
    have hl := readN_len rHash (rNum 256 s1).1.toNat (rNum 256 s1).2
    have hl2 := rNum_le 256 (by omega) s1
    have HU0 : Hid (unK bs = (⟨5, [], (readN rHash (rNum 256 s1).1.toNat (rNum 256 s1).2).1, []⟩, (readN rHash (rNum 256 s1).1.toNat (rNum 256 s1).2).2)) := by show _ = _; rw [HK.out, unB_45 (by omega)]
    obtain ⟨ids, hids⟩ : ∃ l, l = (readN rHash (rNum 256 s1).1.toNat (rNum 256 s1).2).1 := ⟨_, rfl⟩
    obtain ⟨s2, hs2⟩ : ∃ s, s = (readN rHash (rNum 256 s1).1.toNat (rNum 256 s1).2).2 := ⟨_, rfl⟩
    rw [← hids] at hv hl HU0
    rw [← hs2] at hrg HU0
    have HU : Hid (unK bs = (⟨5, [], ids, []⟩, s2)) := HU0
    have hn1 : ids.length ≤ 1000 := by omega
    have hn2 : ([] : List (List UInt8)).length ≤ 1000 := Nat.zero_le _
    clear hl hl2 hids hs2 HU0
    obtain ⟨vao, vc, rfl⟩ := own_slice hv.2
    have hwfb : pb < wf.heap.size := by have := HPB.out; omega
    have HR := Lib.hid hrg
    have HQg := HQ.out.grown gg (by simp; omega)
    have HP0g := HP0.out.grown gg (by simp; omega)
    have HPg := hPf.grown gg (by simp; omega)
    have HBg := HB.out.grown gg (by have := HB.out.size; omega) (fun q e => by cases e; omega)
    have hgs := gg.size
    clear hq0 h0 hrg gg HQ HP0 HB hPf
    obtain ⟨wz, hwz⟩ : ∃ z, z = wg.setCell ⟨pb, 2, none⟩ (.slice vao ids.length vc) := ⟨_, rfl⟩
    have hp2 := HPg.cell 2 _ rfl
    have hf2 := HPg.free 2
    have HQ : Hid (Blk wz q #[.pointer (some ⟨b, 0, none⟩)] 187) := by show Blk _ _ _ _; rw [hwz]; exact HQg.setOther _ _ (by show q ≠ pb; omega)
    have HP0 : Hid (Blk wz w.heap.size pkZ 109) := by show Blk _ _ _ _; rw [hwz]; exact HP0g.setOther _ _ (by show w.heap.size ≠ pb; omega)
    have HRz : Hid (ReaderIs wz b s2) := by show ReaderIs _ _ _; rw [hwz]; exact Blk.setOther HR.out _ _ (by show b ≠ pb; omega)
    have hgz : wg.grownBy wz (some pb) := by rw [hwz]; exact Lib.grownBy_setCell wg pb 2 _
    have HB : Hid (Below w.heap.size w wz) := HBg.grown hgz HBg.size (fun q e => by cases e; omega)
    have HPz := HPg.set 2 (.slice vao ids.length vc)
    rw [← hwz] at HPz
    have hq0 : (wg.setCell ⟨pb, 2, none⟩ (.slice vao ids.length vc)).cell? ⟨q, 0, none⟩ = some (.pointer (some ⟨b, 0, none⟩)) := by rw [← hwz]; exact HQ.out.cell 0 _ rfl
    have HWZ := Lib.hid hwz
    clear hwz HQg HP0g HBg HR HPg
    have HR := HRz
    clear HRz
    have HI : Hid (HashesAt wz (.slice vao ids.length vc) ids) := (hv.kept hgz (.inr (fun e => by have := (hv.lt _ e).1; omega))).at
    have HNE1 := Lib.hid (ne_own (g := w.heap.size) hv.2 (by omega))
    have HO1 := Lib.hid (own_oneG hv.2)
    have HP := Lib.hid HPz
    clear HPz hgz hv
    have HO2 : Hid ((Value.slice none 0 0).oneCell' = true) := rfl
    have HX := Lib.hid (tx_nil wz)
    have HNE2 := Lib.hid (ne_nil w.heap.size)
    have HSM : Hid (([] : List UInt8).length ≤ maxLen) := Nat.zero_le _
    have HTM : Hid (∀ t ∈ ([] : List (List UInt8)), t.length ≤ maxLen) := (fun t h => by cases h)
    go_wp2_with fail
    rw [← HWZ.out]
    clear HWZ hq0 hp2 hf2
    refine (REnd_calls b s2 _ HR.out).mono ?_
    rintro e wy ⟨rfl, hwy⟩
    subst hwy
    obtain ⟨E, hE⟩ : ∃ E, E = rEnd s2 := ⟨_, rfl⟩
    have HE := Lib.hid hE
    rw [← hE]
    clear hE
    have HP0z := HP0
    by_cases he : E = 0
    · subst he
      have hp0 := HP.out.cell 0 _ rfl
      have hp1 := HP.out.cell 1 _ rfl
      have hp2 := HP.out.cell 2 _ rfl
      have hp3 := HP.out.cell 3 _ rfl
      have hbz := HB.out
      by_cases hr : RightP (⟨5, [], ids, []⟩ : Pk)
      · have cR := GRight_calls (⟨5, [], ids, []⟩ : Pk) (.slice vao ids.length vc) (.slice none 0 0) wz HI.out HX.out hn1 hn2 HSM.out HTM.out true (by simpa using hr)
        have HRr := Lib.hid hr
        clear hr
        go_wp2_with fail
        refine cR.mono ?_
        rintro e w7 ⟨rfl, b7⟩
        have HP0y := Lib.hid (HP0z.out.below b7 HP0z.out.lt)
        have HPy := Lib.hid (HP.out.below b7 HP.out.lt)
        have hby := hbz.trans (b7.mono hbz.size)
        have HIy := Lib.hid (HI.out.below b7)
        have HXy := Lib.hid (HX.out.below b7)
        clear cR b7 hbz hp0 hp1 hp2 hp3
        have hp0 := HPy.out.cell 0 _ rfl
        have hp1 := HPy.out.cell 1 _ rfl
        have hp2 := HPy.out.cell 2 _ rfl
        have hp3 := HPy.out.cell 3 _ rfl
        go_wp2_with ((with_reducible show wpList _ _ _ (⟨none, Op.store _ (.tmp 2) _, _, _, _, _⟩ :: _) _ _); refine wpList_storeBlk rfl 109 (.tmp 2) (.tmp 47) rfl w.heap.size #[.int .i64 5, .string (str []), .slice vao ids.length vc, .slice none 0 0] (by rfl) (by rfl) _ _ HP0y.out (by exact Try.sizePk) (by rfl) (pk_all _ _ _ _ HO1.out HO2.out) ?_; intro w8 n8 g8)
        have hb8 := hby.grown g8 hby.size (fun q e => by cases e; exact Nat.le_refl _)
        have RES : UnRes bs w (.returned (.tuple #[.agg #[.int .i64 5, .string (str []), .slice vao ids.length vc, .slice none 0 0], .int .i64 0])) w8 := UnRes.mk (unT_right HU.out HE.out.symm HRr.out) (hashes_grownG HIy.out g8 HNE1.out) (tx_grownG HXy.out g8 HNE2.out) (hb8)
        refine ret_cellTmpG rfl w.heap.size 109 #[.int .i64 5, .string (str []), .slice vao ids.length vc, .slice none 0 0] _ (by rfl) n8 Try.underlying109 rfl (by exact Try.sizePk) rfl ?_
        exact RES
      · have cR := GRight_calls (⟨5, [], ids, []⟩ : Pk) (.slice vao ids.length vc) (.slice none 0 0) wz HI.out HX.out hn1 hn2 HSM.out HTM.out false (by simpa using hr)
        have HRr := Lib.hid hr
        clear hr
        go_wp2_with fail
        refine cR.mono ?_
        rintro e w7 ⟨rfl, b7⟩
        have HP0y := Lib.hid (HP0z.out.below b7 HP0z.out.lt)
        have hby := hbz.trans (b7.mono hbz.size)
        clear cR b7 hbz hp0 hp1 hp2 hp3
        go_wp2_with (first | ((with_reducible show wpList _ _ _ (⟨some 46, _, _, _, _, _⟩ :: _) _ _); refine wpList_buildCells rfl 109 #[] rfl pkZ Try.builtPk0 ?_) | ((with_reducible show wpList _ _ _ (⟨none, Op.store _ (.tmp 2) _, _, _, _, _⟩ :: _) _ _); refine wpList_storeBlk rfl 109 (.tmp 2) (.tmp 46) rfl w.heap.size pkZ (by rfl) (by rfl) _ _ HP0y.out (by exact Try.sizePk) (by rfl) (pk_all 0 [] _ _ rfl rfl) ?_; intro w8 n8 g8))
        have hb8 := hby.grown g8 hby.size (fun q e => by cases e; exact Nat.le_refl _)
        have RES : UnRes bs w (.returned (.tuple #[.agg #[.int .i64 pk0.k, .string (str pk0.s), .slice none 0 0, .slice none 0 0], .int .i64 3])) w8 := UnRes.mk (unT_wrong HU.out HE.out.symm HRr.out) (hashes_nil _) (tx_nil _) (hb8)
        refine ret_cellTmpG rfl w.heap.size 109 #[.int .i64 pk0.k, .string (str pk0.s), .slice none 0 0, .slice none 0 0] _ (by rfl) n8 Try.underlying109 rfl (by exact Try.sizePk) rfl ?_
        exact RES
    · have hbz := HB.out
      have hE0 : decide (E = 0) = false := decide_eq_false he
      go_wp2_with (first | ((with_reducible show wpList _ _ _ (⟨some 40, _, _, _, _, _⟩ :: _) _ _); refine wpList_buildCells rfl 109 #[] rfl pkZ Try.builtPk0 ?_) | ((with_reducible show wpList _ _ _ (⟨none, Op.store _ (.tmp 2) _, _, _, _, _⟩ :: _) _ _); refine wpList_storeBlk rfl 109 (.tmp 2) (.tmp 40) rfl w.heap.size pkZ (by rfl) (by rfl) _ _ HP0z.out (by exact Try.sizePk) (by rfl) (pk_all 0 [] _ _ rfl rfl) ?_; intro w8 n8 g8))
      have hb8 := hbz.grown g8 hbz.size (fun q e => by cases e; exact Nat.le_refl _)
      have RES : UnRes bs w (.returned (.tuple #[.agg #[.int .i64 pk0.k, .string (str pk0.s), .slice none 0 0, .slice none 0 0], .int .i64 E])) w8 := UnRes.mk (by rw [HE.out]; exact unT_bad HU.out (fun e => he (HE.out.trans e))) (hashes_nil _) (tx_nil _) (hb8)
      refine ret_cellTmpG rfl w.heap.size 109 #[.int .i64 pk0.k, .string (str pk0.s), .slice none 0 0, .slice none 0 0] _ (by rfl) n8 Try.underlying109 rfl (by exact Try.sizePk) rfl ?_
      exact RES
  by_cases hk6 : k = 6
  · subst hk6
    clear hkA hkB
    go_wp2_with (first | ((with_reducible show wpList _ _ _ (⟨some 11, _, _, _, _, _⟩ :: _) _ _); refine wpList_buildCells rfl 109 #[(0, .tmp 10)] rfl #[.int .i64 6, .string ⟨#[]⟩, .slice none 0 0, .slice none 0 0] (Try.builtPk 6) ?_) | ((with_reducible show wpList _ _ _ (⟨some 5, _, _, _, _, _⟩ :: _) _ _); refine wpList_allocZ rfl 109 rfl _ Try.zeroPk ?_; intro we se be ne; rw [← HPB.out] at be ne ⊢; have hRe := Blk.below hr be (by omega); have hQe := hQd.below be (by omega); have hP0e := hP0d.below be (by omega); have hBe := hBd.trans (be.mono (by omega)); clear hr hQd hP0d hBd hq0) | ((with_reducible show wpList _ _ _ (⟨none, Op.store _ (.tmp 5) _, _, _, _, _⟩ :: _) _ _); refine wpList_storeBlk rfl 109 (.tmp 5) (.tmp 11) rfl pb #[.int .i64 6, .string ⟨#[]⟩, .slice none 0 0, .slice none 0 0] (by rfl) (by rfl) _ _ ne (by exact Try.sizePk) (by rfl) (pk_all 6 [] _ _ rfl rfl) ?_; intro wf hPf gf; have HR := Lib.hid (Blk.grown hRe gf (by simp; omega)); have HQ := Lib.hid (hQe.grown gf (by simp; omega)); have HP0 := Lib.hid (hP0e.grown gf (by simp; omega)); have HB := Lib.hid (hBe.grown gf (by have := hBe.size; omega) (fun q e => by cases e; omega)); have hsf := gf.size; clear hRe hQe hP0e hBe ne gf; have h0 := hPf.cell 0 _ rfl; have hq0 := HQ.out.cell 0 _ rfl))
    refine (sevS_calls b 64 s1 q (by omega) _ HQ.out HR.out hs9 (by omega) (by omega)).mono ?_
    rintro e wg ⟨v, rfl, hv, hrg, gg⟩
    have hl := readN_len rTx (rNum 64 s1).1.toNat (rNum 64 s1).2
    have hl2 := rNum_le 64 (by omega) s1
    have htm := readN_all rTx (fun t => t.length ≤ maxLen) (fun s => by have := rTx_len s; unfold maxLen; omega) (rNum 64 s1).1.toNat (rNum 64 s1).2
    have HU0 : Hid (unK bs = (⟨6, [], [], (readN rTx (rNum 64 s1).1.toNat (rNum 64 s1).2).1⟩, (readN rTx (rNum 64 s1).1.toNat (rNum 64 s1).2).2)) := by show _ = _; rw [HK.out, unB_6]
    obtain ⟨ts, hts⟩ : ∃ l, l = (readN rTx (rNum 64 s1).1.toNat (rNum 64 s1).2).1 := ⟨_, rfl⟩
    obtain ⟨s2, hs2⟩ : ∃ s, s = (readN rTx (rNum 64 s1).1.toNat (rNum 64 s1).2).2 := ⟨_, rfl⟩
    rw [← hts] at hv hl HU0 htm
    rw [← hs2] at hrg HU0
    have HU : Hid (unK bs = (⟨6, [], [], ts⟩, s2)) := HU0
    have hn1 : ([] : List HsT).length ≤ 1000 := Nat.zero_le _
    have hn2 : ts.length ≤ 1000 := by omega
    have HTM := Lib.hid htm
    clear hl hl2 hts hs2 HU0 htm
    obtain ⟨vao, vc, rfl⟩ := ROwn.slice hv
    have hwfb : pb < wf.heap.size := by have := HPB.out; omega
    have HR := Lib.hid hrg
    have HQg := HQ.out.grown gg (by simp; omega)
    have HP0g := HP0.out.grown gg (by simp; omega)
    have HPg := hPf.grown gg (by simp; omega)
    have HBg := HB.out.grown gg (by have := HB.out.size; omega) (fun q e => by cases e; omega)
    have hgs := gg.size
    clear hq0 h0 hrg gg HQ HP0 HB hPf
    obtain ⟨wz, hwz⟩ : ∃ z, z = wg.setCell ⟨pb, 3, none⟩ (.slice vao ts.length vc) := ⟨_, rfl⟩
    have hp3 := HPg.cell 3 _ rfl
    have hf3 := HPg.free 3
    have HQ : Hid (Blk wz q #[.pointer (some ⟨b, 0, none⟩)] 187) := by show Blk _ _ _ _; rw [hwz]; exact HQg.setOther _ _ (by show q ≠ pb; omega)
    have HP0 : Hid (Blk wz w.heap.size pkZ 109) := by show Blk _ _ _ _; rw [hwz]; exact HP0g.setOther _ _ (by show w.heap.size ≠ pb; omega)
    have HRz : Hid (ReaderIs wz b s2) := by show ReaderIs _ _ _; rw [hwz]; exact Blk.setOther HR.out _ _ (by show b ≠ pb; omega)
    have hgz : wg.grownBy wz (some pb) := by rw [hwz]; exact Lib.grownBy_setCell wg pb 3 _
    have HB : Hid (Below w.heap.size w wz) := HBg.grown hgz HBg.size (fun q e => by cases e; omega)
    have HPz := HPg.set 3 (.slice vao ts.length vc)
    rw [← hwz] at HPz
    have hq0 : (wg.setCell ⟨pb, 3, none⟩ (.slice vao ts.length vc)).cell? ⟨q, 0, none⟩ = some (.pointer (some ⟨b, 0, none⟩)) := by rw [← hwz]; exact HQ.out.cell 0 _ rfl
    have HWZ := Lib.hid hwz
    clear hwz HQg HP0g HBg HR HPg
    have HR := HRz
    clear HRz
    have HX : Hid (TxAt wz (.slice vao ts.length vc) ts) := (hv.kept hgz (.inr (fun e => by have := (hv.lt _ e).1; omega))).at
    have HNE2 := Lib.hid (ne_own (g := w.heap.size) hv (by omega))
    have HO2 := Lib.hid (own_oneG hv)
    have HP := Lib.hid HPz
    clear HPz hgz hv
    have HO1 : Hid ((Value.slice none 0 0).oneCell' = true) := rfl
    have HI := Lib.hid (hashes_nil wz)
    have HNE1 := Lib.hid (ne_nil w.heap.size)
    have HSM : Hid (([] : List UInt8).length ≤ maxLen) := Nat.zero_le _
    go_wp2_with fail
    rw [← HWZ.out]
    clear HWZ hq0 hp3 hf3
    refine (REnd_calls b s2 _ HR.out).mono ?_
    rintro e wy ⟨rfl, hwy⟩
    subst hwy
    obtain ⟨E, hE⟩ : ∃ E, E = rEnd s2 := ⟨_, rfl⟩
    have HE := Lib.hid hE
    rw [← hE]
    clear hE
    have HP0z := HP0
    by_cases he : E = 0
    · subst he
      have hp0 := HP.out.cell 0 _ rfl
      have hp1 := HP.out.cell 1 _ rfl
      have hp2 := HP.out.cell 2 _ rfl
      have hp3 := HP.out.cell 3 _ rfl
      have hbz := HB.out
      by_cases hr : RightP (⟨6, [], [], ts⟩ : Pk)
      · have cR := GRight_calls (⟨6, [], [], ts⟩ : Pk) (.slice none 0 0) (.slice vao ts.length vc) wz HI.out HX.out hn1 hn2 HSM.out HTM.out true (by simpa using hr)
        have HRr := Lib.hid hr
        clear hr
        go_wp2_with fail
        refine cR.mono ?_
        rintro e w7 ⟨rfl, b7⟩
        have HP0y := Lib.hid (HP0z.out.below b7 HP0z.out.lt)
        have HPy := Lib.hid (HP.out.below b7 HP.out.lt)
        have hby := hbz.trans (b7.mono hbz.size)
        have HIy := Lib.hid (HI.out.below b7)
        have HXy := Lib.hid (HX.out.below b7)
        clear cR b7 hbz hp0 hp1 hp2 hp3
        have hp0 := HPy.out.cell 0 _ rfl
        have hp1 := HPy.out.cell 1 _ rfl
        have hp2 := HPy.out.cell 2 _ rfl
        have hp3 := HPy.out.cell 3 _ rfl
        go_wp2_with ((with_reducible show wpList _ _ _ (⟨none, Op.store _ (.tmp 2) _, _, _, _, _⟩ :: _) _ _); refine wpList_storeBlk rfl 109 (.tmp 2) (.tmp 47) rfl w.heap.size #[.int .i64 6, .string (str []), .slice none 0 0, .slice vao ts.length vc] (by rfl) (by rfl) _ _ HP0y.out (by exact Try.sizePk) (by rfl) (pk_all _ _ _ _ HO1.out HO2.out) ?_; intro w8 n8 g8)
        have hb8 := hby.grown g8 hby.size (fun q e => by cases e; exact Nat.le_refl _)
        have RES : UnRes bs w (.returned (.tuple #[.agg #[.int .i64 6, .string (str []), .slice none 0 0, .slice vao ts.length vc], .int .i64 0])) w8 := UnRes.mk (unT_right HU.out HE.out.symm HRr.out) (hashes_grownG HIy.out g8 HNE1.out) (tx_grownG HXy.out g8 HNE2.out) (hb8)
        refine ret_cellTmpG rfl w.heap.size 109 #[.int .i64 6, .string (str []), .slice none 0 0, .slice vao ts.length vc] _ (by rfl) n8 Try.underlying109 rfl (by exact Try.sizePk) rfl ?_
        exact RES
      · have cR := GRight_calls (⟨6, [], [], ts⟩ : Pk) (.slice none 0 0) (.slice vao ts.length vc) wz HI.out HX.out hn1 hn2 HSM.out HTM.out false (by simpa using hr)
        have HRr := Lib.hid hr
        clear hr
        go_wp2_with fail
        refine cR.mono ?_
        rintro e w7 ⟨rfl, b7⟩
        have HP0y := Lib.hid (HP0z.out.below b7 HP0z.out.lt)
        have hby := hbz.trans (b7.mono hbz.size)
        clear cR b7 hbz hp0 hp1 hp2 hp3
        go_wp2_with (first | ((with_reducible show wpList _ _ _ (⟨some 46, _, _, _, _, _⟩ :: _) _ _); refine wpList_buildCells rfl 109 #[] rfl pkZ Try.builtPk0 ?_) | ((with_reducible show wpList _ _ _ (⟨none, Op.store _ (.tmp 2) _, _, _, _, _⟩ :: _) _ _); refine wpList_storeBlk rfl 109 (.tmp 2) (.tmp 46) rfl w.heap.size pkZ (by rfl) (by rfl) _ _ HP0y.out (by exact Try.sizePk) (by rfl) (pk_all 0 [] _ _ rfl rfl) ?_; intro w8 n8 g8))
        have hb8 := hby.grown g8 hby.size (fun q e => by cases e; exact Nat.le_refl _)
        have RES : UnRes bs w (.returned (.tuple #[.agg #[.int .i64 pk0.k, .string (str pk0.s), .slice none 0 0, .slice none 0 0], .int .i64 3])) w8 := UnRes.mk (unT_wrong HU.out HE.out.symm HRr.out) (hashes_nil _) (tx_nil _) (hb8)
        refine ret_cellTmpG rfl w.heap.size 109 #[.int .i64 pk0.k, .string (str pk0.s), .slice none 0 0, .slice none 0 0] _ (by rfl) n8 Try.underlying109 rfl (by exact Try.sizePk) rfl ?_
        exact RES
    · have hbz := HB.out
      have hE0 : decide (E = 0) = false := decide_eq_false he
      go_wp2_with (first | ((with_reducible show wpList _ _ _ (⟨some 40, _, _, _, _, _⟩ :: _) _ _); refine wpList_buildCells rfl 109 #[] rfl pkZ Try.builtPk0 ?_) | ((with_reducible show wpList _ _ _ (⟨none, Op.store _ (.tmp 2) _, _, _, _, _⟩ :: _) _ _); refine wpList_storeBlk rfl 109 (.tmp 2) (.tmp 40) rfl w.heap.size pkZ (by rfl) (by rfl) _ _ HP0z.out (by exact Try.sizePk) (by rfl) (pk_all 0 [] _ _ rfl rfl) ?_; intro w8 n8 g8))
      have hb8 := hbz.grown g8 hbz.size (fun q e => by cases e; exact Nat.le_refl _)
      have RES : UnRes bs w (.returned (.tuple #[.agg #[.int .i64 pk0.k, .string (str pk0.s), .slice none 0 0, .slice none 0 0], .int .i64 E])) w8 := UnRes.mk (by rw [HE.out]; exact unT_bad HU.out (fun e => he (HE.out.trans e))) (hashes_nil _) (tx_nil _) (hb8)
      refine ret_cellTmpG rfl w.heap.size 109 #[.int .i64 pk0.k, .string (str pk0.s), .slice none 0 0, .slice none 0 0] _ (by rfl) n8 Try.underlying109 rfl (by exact Try.sizePk) rfl ?_
      exact RES
  have hd0 : decide (k = 0) = false := decide_eq_false hk0
  have hd4 : decide (k = 4) = false := decide_eq_false hk4
  have hd5 : decide (k = 5) = false := decide_eq_false hk5
  have hd6 : decide (k = 6) = false := decide_eq_false hk6
  go_wp2_with (first | ((with_reducible show wpList _ _ _ (⟨some 11, _, _, _, _, _⟩ :: _) _ _); refine wpList_buildCells rfl 109 #[(0, .tmp 10)] rfl #[.int .i64 k, .string ⟨#[]⟩, .slice none 0 0, .slice none 0 0] (Try.builtPk k) ?_) | ((with_reducible show wpList _ _ _ (⟨some 5, _, _, _, _, _⟩ :: _) _ _); refine wpList_allocZ rfl 109 rfl _ Try.zeroPk ?_; intro we se be ne; rw [← HPB.out] at be ne ⊢; have hRe := Blk.below hr be (by omega); have hQe := hQd.below be (by omega); have hP0e := hP0d.below be (by omega); have hBe := hBd.trans (be.mono (by omega)); clear hr hQd hP0d hBd hq0) | ((with_reducible show wpList _ _ _ (⟨none, Op.store _ (.tmp 5) _, _, _, _, _⟩ :: _) _ _); refine wpList_storeBlk rfl 109 (.tmp 5) (.tmp 11) rfl pb #[.int .i64 k, .string ⟨#[]⟩, .slice none 0 0, .slice none 0 0] (by rfl) (by rfl) _ _ ne (by exact Try.sizePk) (by rfl) (pk_all k [] _ _ rfl rfl) ?_; intro wf hPf gf; have HR := Lib.hid (Blk.grown hRe gf (by simp; omega)); have HQ := Lib.hid (hQe.grown gf (by simp; omega)); have HP0 := Lib.hid (hP0e.grown gf (by simp; omega)); have HB := Lib.hid (hBe.grown gf (by have := hBe.size; omega) (fun q e => by cases e; omega)); have hsf := gf.size; clear hRe hQe hP0e hBe ne gf; have h0 := hPf.cell 0 _ rfl; have hq0 := HQ.out.cell 0 _ rfl))
  refine (RText_calls b s1 65536 _ HR.out (by omega)).mono ?_
  rintro e wg ⟨rfl, hrg, gg⟩
  have hsl : (rTx s1).1.length ≤ 65536 := rTx_len s1
  have HU0 : Hid (unK bs = (⟨k, (rTx s1).1, [], []⟩, (rTx s1).2)) := by show _ = _; rw [HK.out, unB_123 (by omega)]
  obtain ⟨sx, hsx⟩ : ∃ l, l = (rTx s1).1 := ⟨_, rfl⟩
  obtain ⟨s2, hs2⟩ : ∃ s, s = (rTx s1).2 := ⟨_, rfl⟩
  rw [show (rText 65536 s1).1 = sx from hsx.symm]
  rw [← hsx] at hsl HU0
  rw [show (rText 65536 s1).2 = s2 from hs2.symm] at hrg
  rw [← hs2] at HU0
  have HU : Hid (unK bs = (⟨k, sx, [], []⟩, s2)) := HU0
  have HSM : Hid (sx.length ≤ maxLen) := by show _ ≤ _; unfold maxLen; omega
  have hn1 : ([] : List HsT).length ≤ 1000 := Nat.zero_le _
  have hn2 : ([] : List (List UInt8)).length ≤ 1000 := Nat.zero_le _
  clear hsx hs2 HU0
  have hwfb : pb < wf.heap.size := by have := HPB.out; omega
  have HR := Lib.hid hrg
  have HQg := HQ.out.grown gg (by simp; omega)
  have HP0g := HP0.out.grown gg (by simp; omega)
  have HPg := hPf.grown gg (by simp; omega)
  have HBg := HB.out.grown gg (by have := HB.out.size; omega) (fun q e => by cases e; omega)
  have hgs := gg.size
  clear hq0 h0 hrg gg HQ HP0 HB hPf
  obtain ⟨wz, hwz⟩ : ∃ z, z = wg.setCell ⟨pb, 1, none⟩ (.string (str sx)) := ⟨_, rfl⟩
  have hp1 := HPg.cell 1 _ rfl
  have hf1 := HPg.free 1
  have HQ : Hid (Blk wz q #[.pointer (some ⟨b, 0, none⟩)] 187) := by show Blk _ _ _ _; rw [hwz]; exact HQg.setOther _ _ (by show q ≠ pb; omega)
  have HP0 : Hid (Blk wz w.heap.size pkZ 109) := by show Blk _ _ _ _; rw [hwz]; exact HP0g.setOther _ _ (by show w.heap.size ≠ pb; omega)
  have HRz : Hid (ReaderIs wz b s2) := by show ReaderIs _ _ _; rw [hwz]; exact Blk.setOther HR.out _ _ (by show b ≠ pb; omega)
  have hgz : wg.grownBy wz (some pb) := by rw [hwz]; exact Lib.grownBy_setCell wg pb 1 _
  have HB : Hid (Below w.heap.size w wz) := HBg.grown hgz HBg.size (fun q e => by cases e; omega)
  have HPz := HPg.set 1 (.string (str sx))
  rw [← hwz] at HPz
  have hq0 : (wg.setCell ⟨pb, 1, none⟩ (.string (str sx))).cell? ⟨q, 0, none⟩ = some (.pointer (some ⟨b, 0, none⟩)) := by rw [← hwz]; exact HQ.out.cell 0 _ rfl
  have HWZ := Lib.hid hwz
  clear hwz HQg HP0g HBg HR HPg
  have HR := HRz
  clear HRz
  have HP := Lib.hid HPz
  clear HPz hgz hsl
  have HO1 : Hid ((Value.slice none 0 0).oneCell' = true) := rfl
  have HI := Lib.hid (hashes_nil wz)
  have HNE1 := Lib.hid (ne_nil w.heap.size)
  have HO2 : Hid ((Value.slice none 0 0).oneCell' = true) := rfl
  have HX := Lib.hid (tx_nil wz)
  have HNE2 := Lib.hid (ne_nil w.heap.size)
  have HTM : Hid (∀ t ∈ ([] : List (List UInt8)), t.length ≤ maxLen) := (fun t h => by cases h)
  go_wp2_with fail
  rw [← HWZ.out]
  clear HWZ hq0 hp1 hf1
  refine (REnd_calls b s2 _ HR.out).mono ?_
  rintro e wy ⟨rfl, hwy⟩
  subst hwy
  obtain ⟨E, hE⟩ : ∃ E, E = rEnd s2 := ⟨_, rfl⟩
  have HE := Lib.hid hE
  rw [← hE]
  clear hE
  have HP0z := HP0
  by_cases he : E = 0
  · subst he
    have hp0 := HP.out.cell 0 _ rfl
    have hp1 := HP.out.cell 1 _ rfl
    have hp2 := HP.out.cell 2 _ rfl
    have hp3 := HP.out.cell 3 _ rfl
    have hbz := HB.out
    by_cases hr : RightP (⟨k, sx, [], []⟩ : Pk)
    · have cR := GRight_calls (⟨k, sx, [], []⟩ : Pk) (.slice none 0 0) (.slice none 0 0) wz HI.out HX.out hn1 hn2 HSM.out HTM.out true (by simpa using hr)
      have HRr := Lib.hid hr
      clear hr
      go_wp2_with fail
      refine cR.mono ?_
      rintro e w7 ⟨rfl, b7⟩
      have HP0y := Lib.hid (HP0z.out.below b7 HP0z.out.lt)
      have HPy := Lib.hid (HP.out.below b7 HP.out.lt)
      have hby := hbz.trans (b7.mono hbz.size)
      have HIy := Lib.hid (HI.out.below b7)
      have HXy := Lib.hid (HX.out.below b7)
      clear cR b7 hbz hp0 hp1 hp2 hp3
      have hp0 := HPy.out.cell 0 _ rfl
      have hp1 := HPy.out.cell 1 _ rfl
      have hp2 := HPy.out.cell 2 _ rfl
      have hp3 := HPy.out.cell 3 _ rfl
      go_wp2_with ((with_reducible show wpList _ _ _ (⟨none, Op.store _ (.tmp 2) _, _, _, _, _⟩ :: _) _ _); refine wpList_storeBlk rfl 109 (.tmp 2) (.tmp 47) rfl w.heap.size #[.int .i64 k, .string (str sx), .slice none 0 0, .slice none 0 0] (by rfl) (by rfl) _ _ HP0y.out (by exact Try.sizePk) (by rfl) (pk_all _ _ _ _ HO1.out HO2.out) ?_; intro w8 n8 g8)
      have hb8 := hby.grown g8 hby.size (fun q e => by cases e; exact Nat.le_refl _)
      have RES : UnRes bs w (.returned (.tuple #[.agg #[.int .i64 k, .string (str sx), .slice none 0 0, .slice none 0 0], .int .i64 0])) w8 := UnRes.mk (unT_right HU.out HE.out.symm HRr.out) (hashes_grownG HIy.out g8 HNE1.out) (tx_grownG HXy.out g8 HNE2.out) (hb8)
      refine ret_cellTmpG rfl w.heap.size 109 #[.int .i64 k, .string (str sx), .slice none 0 0, .slice none 0 0] _ (by rfl) n8 Try.underlying109 rfl (by exact Try.sizePk) rfl ?_
      exact RES
    · have cR := GRight_calls (⟨k, sx, [], []⟩ : Pk) (.slice none 0 0) (.slice none 0 0) wz HI.out HX.out hn1 hn2 HSM.out HTM.out false (by simpa using hr)
      have HRr := Lib.hid hr
      clear hr
      go_wp2_with fail
      refine cR.mono ?_
      rintro e w7 ⟨rfl, b7⟩
      have HP0y := Lib.hid (HP0z.out.below b7 HP0z.out.lt)
      have hby := hbz.trans (b7.mono hbz.size)
      clear cR b7 hbz hp0 hp1 hp2 hp3
      go_wp2_with (first | ((with_reducible show wpList _ _ _ (⟨some 46, _, _, _, _, _⟩ :: _) _ _); refine wpList_buildCells rfl 109 #[] rfl pkZ Try.builtPk0 ?_) | ((with_reducible show wpList _ _ _ (⟨none, Op.store _ (.tmp 2) _, _, _, _, _⟩ :: _) _ _); refine wpList_storeBlk rfl 109 (.tmp 2) (.tmp 46) rfl w.heap.size pkZ (by rfl) (by rfl) _ _ HP0y.out (by exact Try.sizePk) (by rfl) (pk_all 0 [] _ _ rfl rfl) ?_; intro w8 n8 g8))
      have hb8 := hby.grown g8 hby.size (fun q e => by cases e; exact Nat.le_refl _)
      have RES : UnRes bs w (.returned (.tuple #[.agg #[.int .i64 pk0.k, .string (str pk0.s), .slice none 0 0, .slice none 0 0], .int .i64 3])) w8 := UnRes.mk (unT_wrong HU.out HE.out.symm HRr.out) (hashes_nil _) (tx_nil _) (hb8)
      refine ret_cellTmpG rfl w.heap.size 109 #[.int .i64 pk0.k, .string (str pk0.s), .slice none 0 0, .slice none 0 0] _ (by rfl) n8 Try.underlying109 rfl (by exact Try.sizePk) rfl ?_
      exact RES
  · have hbz := HB.out
    have hE0 : decide (E = 0) = false := decide_eq_false he
    go_wp2_with (first | ((with_reducible show wpList _ _ _ (⟨some 40, _, _, _, _, _⟩ :: _) _ _); refine wpList_buildCells rfl 109 #[] rfl pkZ Try.builtPk0 ?_) | ((with_reducible show wpList _ _ _ (⟨none, Op.store _ (.tmp 2) _, _, _, _, _⟩ :: _) _ _); refine wpList_storeBlk rfl 109 (.tmp 2) (.tmp 40) rfl w.heap.size pkZ (by rfl) (by rfl) _ _ HP0z.out (by exact Try.sizePk) (by rfl) (pk_all 0 [] _ _ rfl rfl) ?_; intro w8 n8 g8))
    have hb8 := hbz.grown g8 hbz.size (fun q e => by cases e; exact Nat.le_refl _)
    have RES : UnRes bs w (.returned (.tuple #[.agg #[.int .i64 pk0.k, .string (str pk0.s), .slice none 0 0, .slice none 0 0], .int .i64 E])) w8 := UnRes.mk (by rw [HE.out]; exact unT_bad HU.out (fun e => he (HE.out.trans e))) (hashes_nil _) (tx_nil _) (hb8)
    refine ret_cellTmpG rfl w.heap.size 109 #[.int .i64 pk0.k, .string (str pk0.s), .slice none 0 0, .slice none 0 0] _ (by rfl) n8 Try.underlying109 rfl (by exact Try.sizePk) rfl ?_
    exact RES
end Go.Proofs.Ytlomofcnknpciaa
