/-
  bevyref19.Unpack.
-/
import Derived.Test.YtlomofcnknpciaaGleanUnpack
import Derived.Test.YtlomofcnknpciaaGleanRRight
import Derived.Test.YtlomofcnknpciaaWireRefH
import Derived.WalkLawsBesides
import Derived.Lib.BufferWrite
import Derived.Outline
import Derived.Handy
import Derived.Deep.RegionHeld
set_option linter.unusedSimpArgs false
set_option linter.unusedVariables false
namespace Go.Proofs.Ytlomofcnknpciaa
open Go.RowKit

theorem wp_append_h1k {P : Program} {o : Oper} {a : Act} {w : World} {K : Act → World → Prop} {Q : Exit → Act → World → Prop} (s x : Operand) (t : TypeId)
    (ho : o.op = .call { callee := .builtin .append, args := #[s, x], argTypes := #[t, t] }) (base : Nat) (e : TypeId) (ht : P.underlying t = some (.slice e)) (hi : (P.info? e).map (fun i => (i.zero, i.size, i.bytes)) = some (some (.agg Z32), 32, 32))
    (v : Value) (L : List HsT) (hs : a.eval s = v) (hown : HashOwn w base e v L) (q : Nat) (h : HsT) (hh : h.length = 32) (t2 : TypeId) (hx : a.eval x = .slice (some ⟨q, 0, none⟩) 1 1) (h2 : Blk w q (h.map bv).toArray t2) (hn : L.length ≤ 900000) (hbase : base ≤ w.heap.size)
    (hK : ∀ v' w', HashOwn w' base e v' (L ++ [h]) → w.grownBy w' v.ownBlock → K (a.put o.dst v') w') : o.wp P a w K Q := by
  obtain ⟨i, hi1, hz, hsz, hby⟩ := info_parts hi
  have e1 : (L ++ [h]).flatMap (·.map bv) = L.flatMap (·.map bv) ++ h.map bv := by simp
  have h32 : ∀ q ∈ L ++ [h], q.length = 32 := fun q hq => by
    rcases List.mem_append.1 hq with hq | hq
    · exact hown.1 q hq
    · rw [List.mem_singleton.1 hq]; exact hh
  refine wp_append_own w s x t ho base e i (.agg Z32) 32 32 ht hi1 hz hsz hby rfl (by decide) v _ _ hs hown.2 ⟨q, 0, none⟩ 1 1 (h.map bv) hx (by rw [List.length_map, hh]) (fun j u hj => by
    rw [Addr.add_mid, Nat.zero_add]
    exact h2.cell j u (by rwa [List.getElem?_toArray])) (fun u hu => bs_one h u hu) (by unfold maxLen; omega) (by omega) hbase fun v' w' g2 g3 _ => hK v' w' ⟨h32, ?_⟩ g3
  rw [e1, List.length_append]
  exact g2
theorem refIs_lt {w : World} {b : Nat} {s : RSt} (h : RefIs w b s) : b < w.heap.size := Blk.lt h
theorem refIs_below {w w' : World} {b : Nat} {s : RSt} (h : RefIs w b s) (bl : Below w.heap.size w w') : RefIs w' b s := Blk.below h bl (Blk.lt h)
theorem refIs_grownO {w w' : World} {b : Nat} {row : Option Nat} {s : RSt} (h : RefIs w b s) (gr : w.grownBy w' row) (h1 : ∀ q, row = some q → b ≠ q) : RefIs w' b s := Blk.grown h gr (fun e => h1 b e.symm rfl)
theorem refIs_err {w : World} {b : Nat} {l : List UInt8} {e : Int} (h : RefIs w b (l, e)) : w.cell? ⟨b, 1, none⟩ = some (.int .i64 e) := h.cell 1 _ rfl
theorem Try.builtRefG (l : List UInt8) : Try.prog.built 200 [(0, .string (str l))] = some #[.string (str l), .int .i64 0] := by kernel_rfl
set_option maxHeartbeats 40000000 in
set_option maxRecDepth 100000 in
theorem RUnpack0 (bs : List UInt8) (w : World) (hbs : bs.length ≤ 1000000) (hkk : (rNum 6 (bs, 0)).1 = 0) : Calls Try.prog 63 #[.string (str bs)] w (UnRes bs w) := by
  obtain ⟨k, hk⟩ : ∃ k, k = (rNum 6 (bs, 0)).1 := ⟨_, rfl⟩
  obtain ⟨s1, hs1⟩ : ∃ s, s = (rNum 6 (bs, 0)).2 := ⟨_, rfl⟩
  have HK : Hid (unK bs = unB k s1) := by show _ = _; rw [hk, hs1]; rfl
  have hkA : 0 ≤ k := by rw [hk]; exact rNum_nonneg 6 (bs, 0)
  have hkB : k ≤ 6 := by rw [hk]; exact rNum_le 6 (by omega) (bs, 0)
  have hs9 : s1.1.length ≤ 1000000 := by rw [hs1]; exact Nat.le_trans (rNum_len 6 (bs, 0)) hbs
  have cN : ∀ (b : Nat) (y : World), RefIs y b (bs, 0) → Calls Try.prog 129 #[.pointer (some ⟨b, 0, none⟩), .int .i64 6] y fun e w' => e = .returned (.int .i64 k) ∧ RefIs w' b s1 ∧ y.grownBy w' (some b) := fun b y hy => by
    rw [hk, hs1]; exact RefRNum_calls b (bs, 0) 6 y hy (by show bs.length ≤ _; omega)
  obtain rfl : k = 0 := hk.trans hkk
  clear hk hs1 hkA hkB hkk
  go_enter Try.func63, Try.ntmps63
  go_wp2_with (first | ((with_reducible show wpList _ _ _ (⟨some 2, _, _, _, _, _⟩ :: _) _ _); refine wpList_allocZ rfl 107 rfl _ Try.zeroRPk ?_; intro wa sa ba na; have HSA := Lib.hid sa; clear sa) | ((with_reducible show wpList _ _ _ (⟨some 11, _, _, _, _, _⟩ :: _) _ _); refine wpList_buildCells rfl 200 #[(0, .tmp 10)] rfl #[.string (str bs), .int .i64 0] (Try.builtRefG bs) ?_) | ((with_reducible show wpList _ _ _ (⟨some 13, _, _, _, _, _⟩ :: _) _ _); refine wpList_buildCells rfl 107 #[] rfl pkZ Try.builtRPk0 ?_) | ((with_reducible show wpList _ _ _ (⟨some 5, _, _, _, _, _⟩ :: _) _ _); refine wpList_allocZ rfl 107 rfl _ Try.zeroRPk ?_; intro we se be ne; have sa := HSA.out; obtain ⟨b, hbb⟩ : ∃ b, b = wa.heap.size := ⟨_, rfl⟩; obtain ⟨pb, hpb⟩ : ∃ p, p = (wa.alloc (.cells #[.string (str bs), .int .i64 0] 200)).heap.size := ⟨_, rfl⟩; have hpbb : pb = b + 1 := (by rw [hpb, hbb]; simp); have hRe : RefIs we b (bs, 0) := (Blk.below (B := pb) (by rw [hbb]; exact Blk.new _ _ _) (by rw [hpb]; exact be) (by omega)); have hP0e := (na.alloc (.cells #[.string (str bs), .int .i64 0] 200)).below be (by simp; omega); have hBe := (ba.alloc ba.size (.cells #[.string (str bs), .int .i64 0] 200)).trans (be.mono (by simp; omega)); have hRb : w.heap.size < b := (by omega); rw [← hpb] at ne se ⊢; rw [← hbb]; have hsb : b < pb := (by omega); clear na ba be hpb hbb sa hpbb HSA) | ((with_reducible show wpList _ _ _ (⟨none, Op.store _ (.tmp 5) _, _, _, _, _⟩ :: _) _ _); refine wpList_storeBlk rfl 107 (.tmp 5) (.tmp 13) rfl pb pkZ (by rfl) (by rfl) _ _ ne (by exact Try.sizeRPk) (by rfl) (pk_all 0 [] _ _ rfl rfl) ?_; intro wf hPf gf; have HR := Blk.grown hRe gf (by simp; omega); have HP0 := hP0e.grown gf (by simp; omega); have HB := hBe.grown gf (by have := hBe.size; omega) (fun q e => by cases e; omega); have hsf : pb < wf.heap.size := (by have := gf.size; omega); clear hRe hP0e hBe ne gf se))
  refine (cN b _ HR).mono ?_
  rintro e wg ⟨rfl, hrg, gg⟩
  have hPg := hPf.grown gg (by simp; omega)
  have hP0g := HP0.grown gg (by simp; omega)
  have hBg := HB.grown gg (by have := HB.size; omega) (fun q e => by cases e; omega)
  have hsg : pb < wg.heap.size := by have := gg.size; omega
  clear HR HP0 HB hPf gg cN hsf
  obtain ⟨wz, hwz⟩ : ∃ z, z = wg.setCell ⟨pb, 0, none⟩ (.int .i64 0) := ⟨_, rfl⟩
  have hp0 := hPg.cell 0 _ rfl
  have hf0 := hPg.free 0
  have HR : Hid (RefIs wz b s1) := by show RefIs _ _ _; rw [hwz]; exact Blk.setOther hrg _ _ (by show b ≠ pb; omega)
  have HP0 : Hid (Blk wz w.heap.size pkZ 107) := by show Blk _ _ _ _; rw [hwz]; exact hP0g.setOther _ _ (by show w.heap.size ≠ pb; omega)
  have hgz : wg.grownBy wz (some pb) := by rw [hwz]; exact Lib.grownBy_setCell wg pb 0 _
  have HB : Hid (Below w.heap.size w wz) := hBg.grown hgz hBg.size (fun q e => by cases e; omega)
  have hPz := hPg.set 0 (.int .i64 0)
  rw [← hwz] at hPz
  have hsz2 : pb < wz.heap.size := by have := hgz.size; omega
  have HP : Hid (Blk wz pb #[.int .i64 0, .string (str []), .slice none 0 0, .slice none 0 0] 107) := hPz
  have h0 : (wg.setCell ⟨pb, 0, none⟩ (.int .i64 0)).cell? ⟨pb, 0, none⟩ = some (.int .i64 0) := by rw [← hwz]; exact HP.out.cell 0 _ rfl
  have HWZ := Lib.hid hwz
  clear hwz hrg hP0g hBg hPg hPz hgz hsg
  go_wp2_with fail
  rw [← HWZ.out]
  clear HWZ h0 hp0 hf0
  refine (RefRFail_calls b s1 3 _ HR.out).mono ?_
  rintro e wh ⟨rfl, hrh, gh⟩
  have HR2 := Lib.hid hrh
  have HP2 := Lib.hid (HP.out.grown gh (by simp; omega))
  have HP02 := Lib.hid (HP0.out.grown gh (by simp; omega))
  have HB2 := Lib.hid (HB.out.grown gh (by have := HB.out.size; omega) (fun q e => by cases e; omega))
  clear HR HP HP0 HB hrh gh hsz2
  have HR := HR2
  have HP := HP2
  have HP0 := HP02
  have HB := HB2
  clear HR2 HP2 HP02 HB2
  have HU : Hid (unK bs = (⟨0, [], [], []⟩, rFail 3 s1)) := by show _ = _; rw [HK.out, unB_0]
  have hls : (rFail 3 s1).1.length ≤ 1000000 := by unfold rFail; split <;> exact hs9
  obtain ⟨s2, hs2⟩ : ∃ s, s = rFail 3 s1 := ⟨_, rfl⟩
  rw [← hs2] at HR HU hls
  clear hs2
  have hn1 : ([] : List HsT).length ≤ 1000 := Nat.zero_le _
  have hn2 : ([] : List (List UInt8)).length ≤ 1000 := Nat.zero_le _
  have HO1 : Hid ((Value.slice none 0 0).oneCell' = true) := rfl
  have HI := Lib.hid (hashes_nil wh)
  have HNE1 := Lib.hid (ne_nil w.heap.size)
  have HO2 : Hid ((Value.slice none 0 0).oneCell' = true) := rfl
  have HX := Lib.hid (tx_nil wh)
  have HNE2 := Lib.hid (ne_nil w.heap.size)
  have HSM : Hid (([] : List UInt8).length ≤ maxLen) := Nat.zero_le _
  have HTM : Hid (∀ t ∈ ([] : List (List UInt8)), t.length ≤ maxLen) := (fun t h => by cases h)
  have h0 := HP.out.cell 0 _ rfl
  go_wp2_with fail
  clear h0
  refine (RefREnd_calls b s2 _ HR.out (by omega)).mono ?_
  rintro e wy ⟨rfl, hwy⟩
  subst hwy
  obtain ⟨E, hE⟩ : ∃ E, E = rEnd s2 := ⟨_, rfl⟩
  have HE := Lib.hid hE
  rw [← hE]
  clear hE
  by_cases he : E = 0
  · subst he
    have hp0 := HP.out.cell 0 _ rfl
    have hp1 := HP.out.cell 1 _ rfl
    have hp2 := HP.out.cell 2 _ rfl
    have hp3 := HP.out.cell 3 _ rfl
    have hbz := HB.out
    by_cases hr : RightP (⟨0, [], [], []⟩ : Pk)
    · have cR := RRight_calls (⟨0, [], [], []⟩ : Pk) (.slice none 0 0) (.slice none 0 0) wh HI.out HX.out hn1 hn2 HSM.out HTM.out true (by simpa using hr)
      have HRr := Lib.hid hr
      clear hr
      go_wp2_with fail
      refine cR.mono ?_
      rintro e w7 ⟨rfl, b7⟩
      have HP0y := Lib.hid (HP0.out.below b7 HP0.out.lt)
      have HPy := Lib.hid (HP.out.below b7 HP.out.lt)
      have hby := hbz.trans (b7.mono hbz.size)
      have HIy := Lib.hid (HI.out.below b7)
      have HXy := Lib.hid (HX.out.below b7)
      clear cR b7 hbz hp0 hp1 hp2 hp3
      have hp0 := HPy.out.cell 0 _ rfl
      have hp1 := HPy.out.cell 1 _ rfl
      have hp2 := HPy.out.cell 2 _ rfl
      have hp3 := HPy.out.cell 3 _ rfl
      go_wp2_with ((with_reducible show wpList _ _ _ (⟨none, Op.store _ (.tmp 2) _, _, _, _, _⟩ :: _) _ _); refine wpList_storeBlk rfl 107 (.tmp 2) (.tmp 96) rfl w.heap.size #[.int .i64 0, .string (str []), .slice none 0 0, .slice none 0 0] (by rfl) (by rfl) _ _ HP0y.out (by exact Try.sizeRPk) (by rfl) (pk_all _ _ _ _ HO1.out HO2.out) ?_; intro w8 n8 g8)
      have hb8 := hby.grown g8 hby.size (fun q e => by cases e; exact Nat.le_refl _)
      have RES : UnRes bs w (.returned (.tuple #[.agg #[.int .i64 0, .string (str []), .slice none 0 0, .slice none 0 0], .int .i64 0])) w8 := UnRes.mk (unT_right HU.out HE.out.symm HRr.out) (hashes_grownG HIy.out g8 HNE1.out) (tx_grownG HXy.out g8 HNE2.out) (hb8)
      refine ret_cellTmpG rfl w.heap.size 107 #[.int .i64 0, .string (str []), .slice none 0 0, .slice none 0 0] _ (by rfl) n8 Try.underlying107 rfl (by exact Try.sizeRPk) rfl ?_
      exact RES
    · have cR := RRight_calls (⟨0, [], [], []⟩ : Pk) (.slice none 0 0) (.slice none 0 0) wh HI.out HX.out hn1 hn2 HSM.out HTM.out false (by simpa using hr)
      have HRr := Lib.hid hr
      clear hr
      go_wp2_with fail
      refine cR.mono ?_
      rintro e w7 ⟨rfl, b7⟩
      have HP0y := Lib.hid (HP0.out.below b7 HP0.out.lt)
      have hby := hbz.trans (b7.mono hbz.size)
      clear cR b7 hbz hp0 hp1 hp2 hp3
      go_wp2_with (first | ((with_reducible show wpList _ _ _ (⟨some 95, _, _, _, _, _⟩ :: _) _ _); refine wpList_buildCells rfl 107 #[] rfl pkZ Try.builtRPk0 ?_) | ((with_reducible show wpList _ _ _ (⟨none, Op.store _ (.tmp 2) _, _, _, _, _⟩ :: _) _ _); refine wpList_storeBlk rfl 107 (.tmp 2) (.tmp 95) rfl w.heap.size pkZ (by rfl) (by rfl) _ _ HP0y.out (by exact Try.sizeRPk) (by rfl) (pk_all 0 [] _ _ rfl rfl) ?_; intro w8 n8 g8))
      have hb8 := hby.grown g8 hby.size (fun q e => by cases e; exact Nat.le_refl _)
      have RES : UnRes bs w (.returned (.tuple #[.agg #[.int .i64 pk0.k, .string (str pk0.s), .slice none 0 0, .slice none 0 0], .int .i64 3])) w8 := UnRes.mk (unT_wrong HU.out HE.out.symm HRr.out) (hashes_nil _) (tx_nil _) (hb8)
      refine ret_cellTmpG rfl w.heap.size 107 #[.int .i64 pk0.k, .string (str pk0.s), .slice none 0 0, .slice none 0 0] _ (by rfl) n8 Try.underlying107 rfl (by exact Try.sizeRPk) rfl ?_
      exact RES
  · have hbz := HB.out
    have hE0 : decide (E = 0) = false := decide_eq_false he
    go_wp2_with ((with_reducible show wpList _ _ _ (⟨some 89, _, _, _, _, _⟩ :: _) _ _); refine wpList_buildCells rfl 107 #[] rfl pkZ Try.builtRPk0 ?_)
    refine (RefREnd_calls b s2 _ HR.out (by omega)).mono ?_
    rintro e wy ⟨rfl, hwy⟩
    subst hwy
    rw [← HE.out]
    go_wp2_with ((with_reducible show wpList _ _ _ (⟨none, Op.store _ (.tmp 2) _, _, _, _, _⟩ :: _) _ _); refine wpList_storeBlk rfl 107 (.tmp 2) (.tmp 89) rfl w.heap.size pkZ (by rfl) (by rfl) _ _ HP0.out (by exact Try.sizeRPk) (by rfl) (pk_all 0 [] _ _ rfl rfl) ?_; intro w8 n8 g8)
    have hb8 := hbz.grown g8 hbz.size (fun q e => by cases e; exact Nat.le_refl _)
    have RES : UnRes bs w (.returned (.tuple #[.agg #[.int .i64 pk0.k, .string (str pk0.s), .slice none 0 0, .slice none 0 0], .int .i64 E])) w8 := UnRes.mk (by rw [HE.out]; exact unT_bad HU.out (fun e => he (HE.out.trans e))) (hashes_nil _) (tx_nil _) (hb8)
    refine ret_cellTmpG rfl w.heap.size 107 #[.int .i64 pk0.k, .string (str pk0.s), .slice none 0 0, .slice none 0 0] _ (by rfl) n8 Try.underlying107 rfl (by exact Try.sizeRPk) rfl ?_
    exact RES
set_option maxHeartbeats 40000000 in
set_option maxRecDepth 100000 in
theorem RUnpackD (bs : List UInt8) (w : World) (hbs : bs.length ≤ 1000000) (hkk : 1 ≤ (rNum 6 (bs, 0)).1 ∧ (rNum 6 (bs, 0)).1 ≤ 3) : Calls Try.prog 63 #[.string (str bs)] w (UnRes bs w) := by
  obtain ⟨k, hk⟩ : ∃ k, k = (rNum 6 (bs, 0)).1 := ⟨_, rfl⟩
  obtain ⟨s1, hs1⟩ : ∃ s, s = (rNum 6 (bs, 0)).2 := ⟨_, rfl⟩
  have HK : Hid (unK bs = unB k s1) := by show _ = _; rw [hk, hs1]; rfl
  have hkA : 0 ≤ k := by rw [hk]; exact rNum_nonneg 6 (bs, 0)
  have hkB : k ≤ 6 := by rw [hk]; exact rNum_le 6 (by omega) (bs, 0)
  have hs9 : s1.1.length ≤ 1000000 := by rw [hs1]; exact Nat.le_trans (rNum_len 6 (bs, 0)) hbs
  have cN : ∀ (b : Nat) (y : World), RefIs y b (bs, 0) → Calls Try.prog 129 #[.pointer (some ⟨b, 0, none⟩), .int .i64 6] y fun e w' => e = .returned (.int .i64 k) ∧ RefIs w' b s1 ∧ y.grownBy w' (some b) := fun b y hy => by
    rw [hk, hs1]; exact RefRNum_calls b (bs, 0) 6 y hy (by show bs.length ≤ _; omega)
  rw [← hk] at hkk
  clear hk hs1
  go_enter Try.func63, Try.ntmps63
  go_wp2_with (first | ((with_reducible show wpList _ _ _ (⟨some 2, _, _, _, _, _⟩ :: _) _ _); refine wpList_allocZ rfl 107 rfl _ Try.zeroRPk ?_; intro wa sa ba na; have HSA := Lib.hid sa; clear sa) | ((with_reducible show wpList _ _ _ (⟨some 11, _, _, _, _, _⟩ :: _) _ _); refine wpList_buildCells rfl 200 #[(0, .tmp 10)] rfl #[.string (str bs), .int .i64 0] (Try.builtRefG bs) ?_) | ((with_reducible show wpList _ _ _ (⟨some 13, _, _, _, _, _⟩ :: _) _ _); refine wpList_buildCells rfl 107 #[] rfl pkZ Try.builtRPk0 ?_) | ((with_reducible show wpList _ _ _ (⟨some 5, _, _, _, _, _⟩ :: _) _ _); refine wpList_allocZ rfl 107 rfl _ Try.zeroRPk ?_; intro we se be ne; have sa := HSA.out; obtain ⟨b, hbb⟩ : ∃ b, b = wa.heap.size := ⟨_, rfl⟩; obtain ⟨pb, hpb⟩ : ∃ p, p = (wa.alloc (.cells #[.string (str bs), .int .i64 0] 200)).heap.size := ⟨_, rfl⟩; have hpbb : pb = b + 1 := (by rw [hpb, hbb]; simp); have hRe : RefIs we b (bs, 0) := (Blk.below (B := pb) (by rw [hbb]; exact Blk.new _ _ _) (by rw [hpb]; exact be) (by omega)); have hP0e := (na.alloc (.cells #[.string (str bs), .int .i64 0] 200)).below be (by simp; omega); have hBe := (ba.alloc ba.size (.cells #[.string (str bs), .int .i64 0] 200)).trans (be.mono (by simp; omega)); have hRb : w.heap.size < b := (by omega); rw [← hpb] at ne se ⊢; rw [← hbb]; have hsb : b < pb := (by omega); clear na ba be hpb hbb sa hpbb HSA) | ((with_reducible show wpList _ _ _ (⟨none, Op.store _ (.tmp 5) _, _, _, _, _⟩ :: _) _ _); refine wpList_storeBlk rfl 107 (.tmp 5) (.tmp 13) rfl pb pkZ (by rfl) (by rfl) _ _ ne (by exact Try.sizeRPk) (by rfl) (pk_all 0 [] _ _ rfl rfl) ?_; intro wf hPf gf; have HR := Blk.grown hRe gf (by simp; omega); have HP0 := hP0e.grown gf (by simp; omega); have HB := hBe.grown gf (by have := hBe.size; omega) (fun q e => by cases e; omega); have hsf : pb < wf.heap.size := (by have := gf.size; omega); clear hRe hP0e hBe ne gf se))
  refine (cN b _ HR).mono ?_
  rintro e wg ⟨rfl, hrg, gg⟩
  have hPg := hPf.grown gg (by simp; omega)
  have hP0g := HP0.grown gg (by simp; omega)
  have hBg := HB.grown gg (by have := HB.size; omega) (fun q e => by cases e; omega)
  have hsg : pb < wg.heap.size := by have := gg.size; omega
  clear HR HP0 HB hPf gg cN hsf
  have hd0x : decide (k = 0) = false := decide_eq_false (by omega)
  have he0x : (k == 0) = false := beq_false_of_ne (by omega)
  have hd4x : decide (k = 4) = false := decide_eq_false (by omega)
  have he4x : (k == 4) = false := beq_false_of_ne (by omega)
  have hd5x : decide (k = 5) = false := decide_eq_false (by omega)
  have he5x : (k == 5) = false := beq_false_of_ne (by omega)
  have hd6x : decide (k = 6) = false := decide_eq_false (by omega)
  have he6x : (k == 6) = false := beq_false_of_ne (by omega)
  obtain ⟨wz, hwz⟩ : ∃ z, z = wg.setCell ⟨pb, 0, none⟩ (.int .i64 k) := ⟨_, rfl⟩
  have hp0 := hPg.cell 0 _ rfl
  have hf0 := hPg.free 0
  have HR : Hid (RefIs wz b s1) := by show RefIs _ _ _; rw [hwz]; exact Blk.setOther hrg _ _ (by show b ≠ pb; omega)
  have HP0 : Hid (Blk wz w.heap.size pkZ 107) := by show Blk _ _ _ _; rw [hwz]; exact hP0g.setOther _ _ (by show w.heap.size ≠ pb; omega)
  have hgz : wg.grownBy wz (some pb) := by rw [hwz]; exact Lib.grownBy_setCell wg pb 0 _
  have HB : Hid (Below w.heap.size w wz) := hBg.grown hgz hBg.size (fun q e => by cases e; omega)
  have hPz := hPg.set 0 (.int .i64 k)
  rw [← hwz] at hPz
  have hsz2 : pb < wz.heap.size := by have := hgz.size; omega
  have HP : Hid (Blk wz pb #[.int .i64 k, .string (str []), .slice none 0 0, .slice none 0 0] 107) := hPz
  have hd1 : decide (1 ≤ k) = true := decide_eq_true (by omega)
  have hd2 : decide (k ≤ 3) = true := decide_eq_true (by omega)
  have h0 : (wg.setCell ⟨pb, 0, none⟩ (.int .i64 k)).cell? ⟨pb, 0, none⟩ = some (.int .i64 k) := by rw [← hwz]; exact HP.out.cell 0 _ rfl
  have HWZ := Lib.hid hwz
  clear hwz hrg hP0g hBg hPg hPz hgz hsg
  go_wp2_with fail
  rw [← HWZ.out]
  clear HWZ h0 hp0 hf0
  refine (RefRText_calls b s1 65536 _ HR.out (by omega)).mono ?_
  rintro e wh ⟨rfl, hrh, gh⟩
  have hsl : (rTx s1).1.length ≤ 65536 := rTx_len s1
  have hll := rTx_left s1
  have HU0 : Hid (unK bs = (⟨k, (rTx s1).1, [], []⟩, (rTx s1).2)) := by show _ = _; rw [HK.out, unB_123 (by omega)]
  obtain ⟨sx, hsx⟩ : ∃ l, l = (rTx s1).1 := ⟨_, rfl⟩
  obtain ⟨s2, hs2⟩ : ∃ s, s = (rTx s1).2 := ⟨_, rfl⟩
  rw [show (rText 65536 s1).1 = sx from hsx.symm]
  rw [← hsx] at hsl HU0
  rw [show (rText 65536 s1).2 = s2 from hs2.symm] at hrh
  rw [← hs2] at HU0 hll
  have HU : Hid (unK bs = (⟨k, sx, [], []⟩, s2)) := HU0
  have HSM : Hid (sx.length ≤ maxLen) := by show _ ≤ _; unfold maxLen; omega
  have hls : s2.1.length ≤ 1000000 := by omega
  clear hsx hs2 HU0 hll
  have hPh := HP.out.grown gh (by simp; omega)
  have hP0h := HP0.out.grown gh (by simp; omega)
  have hBh := HB.out.grown gh (by have := HB.out.size; omega) (fun q e => by cases e; omega)
  have hsh : pb < wh.heap.size := by have := gh.size; omega
  clear HR HP HP0 HB gh hsz2
  obtain ⟨wy, hwz⟩ : ∃ z, z = wh.setCell ⟨pb, 1, none⟩ (.string (str sx)) := ⟨_, rfl⟩
  have hp1 := hPh.cell 1 _ rfl
  have hf1 := hPh.free 1
  have HR : Hid (RefIs wy b s2) := by show RefIs _ _ _; rw [hwz]; exact Blk.setOther hrh _ _ (by show b ≠ pb; omega)
  have HP0 : Hid (Blk wy w.heap.size pkZ 107) := by show Blk _ _ _ _; rw [hwz]; exact hP0h.setOther _ _ (by show w.heap.size ≠ pb; omega)
  have hgz : wh.grownBy wy (some pb) := by rw [hwz]; exact Lib.grownBy_setCell wh pb 1 _
  have HB : Hid (Below w.heap.size w wy) := hBh.grown hgz hBh.size (fun q e => by cases e; omega)
  have hPz := hPh.set 1 (.string (str sx))
  rw [← hwz] at hPz
  have hsz2 : pb < wy.heap.size := by have := hgz.size; omega
  have HP : Hid (Blk wy pb #[.int .i64 k, .string (str sx), .slice none 0 0, .slice none 0 0] 107) := hPz
  have h0 : (wh.setCell ⟨pb, 1, none⟩ (.string (str sx))).cell? ⟨pb, 0, none⟩ = some (.int .i64 k) := by rw [← hwz]; exact HP.out.cell 0 _ rfl
  have HWZ := Lib.hid hwz
  clear hwz hrh hP0h hBh hPh hPz hgz hsh hsl
  have hn1 : ([] : List HsT).length ≤ 1000 := Nat.zero_le _
  have hn2 : ([] : List (List UInt8)).length ≤ 1000 := Nat.zero_le _
  have HO1 : Hid ((Value.slice none 0 0).oneCell' = true) := rfl
  have HI := Lib.hid (hashes_nil wy)
  have HNE1 := Lib.hid (ne_nil w.heap.size)
  have HO2 : Hid ((Value.slice none 0 0).oneCell' = true) := rfl
  have HX := Lib.hid (tx_nil wy)
  have HNE2 := Lib.hid (ne_nil w.heap.size)
  have HTM : Hid (∀ t ∈ ([] : List (List UInt8)), t.length ≤ maxLen) := (fun t h => by cases h)
  go_wp2_with fail
  rw [← HWZ.out]
  clear HWZ h0 hp1 hf1 hd1 hd2
  refine (RefREnd_calls b s2 _ HR.out (by omega)).mono ?_
  rintro e wy ⟨rfl, hwy⟩
  subst hwy
  obtain ⟨E, hE⟩ : ∃ E, E = rEnd s2 := ⟨_, rfl⟩
  have HE := Lib.hid hE
  rw [← hE]
  clear hE
  by_cases he : E = 0
  · subst he
    have hp0 := HP.out.cell 0 _ rfl
    have hp1 := HP.out.cell 1 _ rfl
    have hp2 := HP.out.cell 2 _ rfl
    have hp3 := HP.out.cell 3 _ rfl
    have hbz := HB.out
    by_cases hr : RightP (⟨k, sx, [], []⟩ : Pk)
    · have cR := RRight_calls (⟨k, sx, [], []⟩ : Pk) (.slice none 0 0) (.slice none 0 0) wy HI.out HX.out hn1 hn2 HSM.out HTM.out true (by simpa using hr)
      have HRr := Lib.hid hr
      clear hr
      go_wp2_with fail
      refine cR.mono ?_
      rintro e w7 ⟨rfl, b7⟩
      have HP0y := Lib.hid (HP0.out.below b7 HP0.out.lt)
      have HPy := Lib.hid (HP.out.below b7 HP.out.lt)
      have hby := hbz.trans (b7.mono hbz.size)
      have HIy := Lib.hid (HI.out.below b7)
      have HXy := Lib.hid (HX.out.below b7)
      clear cR b7 hbz hp0 hp1 hp2 hp3
      have hp0 := HPy.out.cell 0 _ rfl
      have hp1 := HPy.out.cell 1 _ rfl
      have hp2 := HPy.out.cell 2 _ rfl
      have hp3 := HPy.out.cell 3 _ rfl
      go_wp2_with ((with_reducible show wpList _ _ _ (⟨none, Op.store _ (.tmp 2) _, _, _, _, _⟩ :: _) _ _); refine wpList_storeBlk rfl 107 (.tmp 2) (.tmp 96) rfl w.heap.size #[.int .i64 k, .string (str sx), .slice none 0 0, .slice none 0 0] (by rfl) (by rfl) _ _ HP0y.out (by exact Try.sizeRPk) (by rfl) (pk_all _ _ _ _ HO1.out HO2.out) ?_; intro w8 n8 g8)
      have hb8 := hby.grown g8 hby.size (fun q e => by cases e; exact Nat.le_refl _)
      have RES : UnRes bs w (.returned (.tuple #[.agg #[.int .i64 k, .string (str sx), .slice none 0 0, .slice none 0 0], .int .i64 0])) w8 := UnRes.mk (unT_right HU.out HE.out.symm HRr.out) (hashes_grownG HIy.out g8 HNE1.out) (tx_grownG HXy.out g8 HNE2.out) (hb8)
      refine ret_cellTmpG rfl w.heap.size 107 #[.int .i64 k, .string (str sx), .slice none 0 0, .slice none 0 0] _ (by rfl) n8 Try.underlying107 rfl (by exact Try.sizeRPk) rfl ?_
      exact RES
    · have cR := RRight_calls (⟨k, sx, [], []⟩ : Pk) (.slice none 0 0) (.slice none 0 0) wy HI.out HX.out hn1 hn2 HSM.out HTM.out false (by simpa using hr)
      have HRr := Lib.hid hr
      clear hr
      go_wp2_with fail
      refine cR.mono ?_
      rintro e w7 ⟨rfl, b7⟩
      have HP0y := Lib.hid (HP0.out.below b7 HP0.out.lt)
      have hby := hbz.trans (b7.mono hbz.size)
      clear cR b7 hbz hp0 hp1 hp2 hp3
      go_wp2_with (first | ((with_reducible show wpList _ _ _ (⟨some 95, _, _, _, _, _⟩ :: _) _ _); refine wpList_buildCells rfl 107 #[] rfl pkZ Try.builtRPk0 ?_) | ((with_reducible show wpList _ _ _ (⟨none, Op.store _ (.tmp 2) _, _, _, _, _⟩ :: _) _ _); refine wpList_storeBlk rfl 107 (.tmp 2) (.tmp 95) rfl w.heap.size pkZ (by rfl) (by rfl) _ _ HP0y.out (by exact Try.sizeRPk) (by rfl) (pk_all 0 [] _ _ rfl rfl) ?_; intro w8 n8 g8))
      have hb8 := hby.grown g8 hby.size (fun q e => by cases e; exact Nat.le_refl _)
      have RES : UnRes bs w (.returned (.tuple #[.agg #[.int .i64 pk0.k, .string (str pk0.s), .slice none 0 0, .slice none 0 0], .int .i64 3])) w8 := UnRes.mk (unT_wrong HU.out HE.out.symm HRr.out) (hashes_nil _) (tx_nil _) (hb8)
      refine ret_cellTmpG rfl w.heap.size 107 #[.int .i64 pk0.k, .string (str pk0.s), .slice none 0 0, .slice none 0 0] _ (by rfl) n8 Try.underlying107 rfl (by exact Try.sizeRPk) rfl ?_
      exact RES
  · have hbz := HB.out
    have hE0 : decide (E = 0) = false := decide_eq_false he
    go_wp2_with ((with_reducible show wpList _ _ _ (⟨some 89, _, _, _, _, _⟩ :: _) _ _); refine wpList_buildCells rfl 107 #[] rfl pkZ Try.builtRPk0 ?_)
    refine (RefREnd_calls b s2 _ HR.out (by omega)).mono ?_
    rintro e wy ⟨rfl, hwy⟩
    subst hwy
    rw [← HE.out]
    go_wp2_with ((with_reducible show wpList _ _ _ (⟨none, Op.store _ (.tmp 2) _, _, _, _, _⟩ :: _) _ _); refine wpList_storeBlk rfl 107 (.tmp 2) (.tmp 89) rfl w.heap.size pkZ (by rfl) (by rfl) _ _ HP0.out (by exact Try.sizeRPk) (by rfl) (pk_all 0 [] _ _ rfl rfl) ?_; intro w8 n8 g8)
    have hb8 := hbz.grown g8 hbz.size (fun q e => by cases e; exact Nat.le_refl _)
    have RES : UnRes bs w (.returned (.tuple #[.agg #[.int .i64 pk0.k, .string (str pk0.s), .slice none 0 0, .slice none 0 0], .int .i64 E])) w8 := UnRes.mk (by rw [HE.out]; exact unT_bad HU.out (fun e => he (HE.out.trans e))) (hashes_nil _) (tx_nil _) (hb8)
    refine ret_cellTmpG rfl w.heap.size 107 #[.int .i64 pk0.k, .string (str pk0.s), .slice none 0 0, .slice none 0 0] _ (by rfl) n8 Try.underlying107 rfl (by exact Try.sizeRPk) rfl ?_
    exact RES
set_option maxHeartbeats 40000000 in
set_option maxRecDepth 100000 in
theorem RUnpack4 (bs : List UInt8) (w : World) (hbs : bs.length ≤ 1000000) (hkk : (rNum 6 (bs, 0)).1 = 4) : Calls Try.prog 63 #[.string (str bs)] w (UnRes bs w) := by
  obtain ⟨k, hk⟩ : ∃ k, k = (rNum 6 (bs, 0)).1 := ⟨_, rfl⟩
  obtain ⟨s1, hs1⟩ : ∃ s, s = (rNum 6 (bs, 0)).2 := ⟨_, rfl⟩
  have HK : Hid (unK bs = unB k s1) := by show _ = _; rw [hk, hs1]; rfl
  have hkA : 0 ≤ k := by rw [hk]; exact rNum_nonneg 6 (bs, 0)
  have hkB : k ≤ 6 := by rw [hk]; exact rNum_le 6 (by omega) (bs, 0)
  have hs9 : s1.1.length ≤ 1000000 := by rw [hs1]; exact Nat.le_trans (rNum_len 6 (bs, 0)) hbs
  have cN : ∀ (b : Nat) (y : World), RefIs y b (bs, 0) → Calls Try.prog 129 #[.pointer (some ⟨b, 0, none⟩), .int .i64 6] y fun e w' => e = .returned (.int .i64 k) ∧ RefIs w' b s1 ∧ y.grownBy w' (some b) := fun b y hy => by
    rw [hk, hs1]; exact RefRNum_calls b (bs, 0) 6 y hy (by show bs.length ≤ _; omega)
  obtain rfl : k = 4 := hk.trans hkk
  clear hk hs1 hkA hkB hkk
  go_enter Try.func63, Try.ntmps63
  go_wp2_with (first | ((with_reducible show wpList _ _ _ (⟨some 2, _, _, _, _, _⟩ :: _) _ _); refine wpList_allocZ rfl 107 rfl _ Try.zeroRPk ?_; intro wa sa ba na; have HSA := Lib.hid sa; clear sa) | ((with_reducible show wpList _ _ _ (⟨some 11, _, _, _, _, _⟩ :: _) _ _); refine wpList_buildCells rfl 200 #[(0, .tmp 10)] rfl #[.string (str bs), .int .i64 0] (Try.builtRefG bs) ?_) | ((with_reducible show wpList _ _ _ (⟨some 13, _, _, _, _, _⟩ :: _) _ _); refine wpList_buildCells rfl 107 #[] rfl pkZ Try.builtRPk0 ?_) | ((with_reducible show wpList _ _ _ (⟨some 5, _, _, _, _, _⟩ :: _) _ _); refine wpList_allocZ rfl 107 rfl _ Try.zeroRPk ?_; intro we se be ne; have sa := HSA.out; obtain ⟨b, hbb⟩ : ∃ b, b = wa.heap.size := ⟨_, rfl⟩; obtain ⟨pb, hpb⟩ : ∃ p, p = (wa.alloc (.cells #[.string (str bs), .int .i64 0] 200)).heap.size := ⟨_, rfl⟩; have hpbb : pb = b + 1 := (by rw [hpb, hbb]; simp); have hRe : RefIs we b (bs, 0) := (Blk.below (B := pb) (by rw [hbb]; exact Blk.new _ _ _) (by rw [hpb]; exact be) (by omega)); have hP0e := (na.alloc (.cells #[.string (str bs), .int .i64 0] 200)).below be (by simp; omega); have hBe := (ba.alloc ba.size (.cells #[.string (str bs), .int .i64 0] 200)).trans (be.mono (by simp; omega)); have hRb : w.heap.size < b := (by omega); rw [← hpb] at ne se ⊢; rw [← hbb]; have hsb : b < pb := (by omega); clear na ba be hpb hbb sa hpbb HSA) | ((with_reducible show wpList _ _ _ (⟨none, Op.store _ (.tmp 5) _, _, _, _, _⟩ :: _) _ _); refine wpList_storeBlk rfl 107 (.tmp 5) (.tmp 13) rfl pb pkZ (by rfl) (by rfl) _ _ ne (by exact Try.sizeRPk) (by rfl) (pk_all 0 [] _ _ rfl rfl) ?_; intro wf hPf gf; have HR := Blk.grown hRe gf (by simp; omega); have HP0 := hP0e.grown gf (by simp; omega); have HB := hBe.grown gf (by have := hBe.size; omega) (fun q e => by cases e; omega); have hsf : pb < wf.heap.size := (by have := gf.size; omega); clear hRe hP0e hBe ne gf se))
  refine (cN b _ HR).mono ?_
  rintro e wg ⟨rfl, hrg, gg⟩
  have hPg := hPf.grown gg (by simp; omega)
  have hP0g := HP0.grown gg (by simp; omega)
  have hBg := HB.grown gg (by have := HB.size; omega) (fun q e => by cases e; omega)
  have hsg : pb < wg.heap.size := by have := gg.size; omega
  clear HR HP0 HB hPf gg cN hsf
  obtain ⟨wz, hwz⟩ : ∃ z, z = wg.setCell ⟨pb, 0, none⟩ (.int .i64 4) := ⟨_, rfl⟩
  have hp0 := hPg.cell 0 _ rfl
  have hf0 := hPg.free 0
  have HR : Hid (RefIs wz b s1) := by show RefIs _ _ _; rw [hwz]; exact Blk.setOther hrg _ _ (by show b ≠ pb; omega)
  have HP0 : Hid (Blk wz w.heap.size pkZ 107) := by show Blk _ _ _ _; rw [hwz]; exact hP0g.setOther _ _ (by show w.heap.size ≠ pb; omega)
  have hgz : wg.grownBy wz (some pb) := by rw [hwz]; exact Lib.grownBy_setCell wg pb 0 _
  have HB : Hid (Below w.heap.size w wz) := hBg.grown hgz hBg.size (fun q e => by cases e; omega)
  have hPz := hPg.set 0 (.int .i64 4)
  rw [← hwz] at hPz
  have hsz2 : pb < wz.heap.size := by have := hgz.size; omega
  have HP : Hid (Blk wz pb #[.int .i64 4, .string (str []), .slice none 0 0, .slice none 0 0] 107) := hPz
  have h0 : (wg.setCell ⟨pb, 0, none⟩ (.int .i64 4)).cell? ⟨pb, 0, none⟩ = some (.int .i64 4) := by rw [← hwz]; exact HP.out.cell 0 _ rfl
  have HWZ := Lib.hid hwz
  clear hwz hrg hP0g hBg hPg hPz hgz hsg
  go_wp2_with fail
  rw [← HWZ.out]
  clear HWZ h0 hp0 hf0
  refine (RefRNum_calls b s1 256 _ HR.out (by omega)).mono ?_
  rintro e wh ⟨rfl, hrh, gh⟩
  have hl0 := rNum_len 256 s1
  have hn0 := rNum_nonneg 256 s1
  have hl2 := rNum_le 256 (by omega) s1
  have HU0 : Hid (unK bs = (⟨4, [], (readN rHash (rNum 256 s1).1.toNat (rNum 256 s1).2).1, []⟩, (readN rHash (rNum 256 s1).1.toNat (rNum 256 s1).2).2)) := by show _ = _; rw [HK.out, unB_45 (by omega)]
  obtain ⟨N, hN⟩ : ∃ N, N = (rNum 256 s1).1.toNat := ⟨_, rfl⟩
  have HNI : Hid ((rNum 256 s1).1 = (N : Int)) := by show _ = _; omega
  obtain ⟨s0, hs0⟩ : ∃ s0, s0 = (rNum 256 s1).2 := ⟨_, rfl⟩
  rw [HNI.out]
  rw [← hs0] at hrh hl0 HU0
  rw [← hN] at HU0
  have hN9 : N ≤ 256 := by omega
  have hs09 : s0.1.length ≤ 1000000 := by omega
  clear hl0 hn0 hl2 hN hs0 HNI
  obtain ⟨RR, hRR⟩ : ∃ R, R = readN rHash N s0 := ⟨_, rfl⟩
  rw [← hRR] at HU0
  have HRR := Lib.hid hRR
  clear hRR
  have hPh := Lib.hid (HP.out.grown gh (by simp; omega))
  have hP0h := Lib.hid (HP0.out.grown gh (by simp; omega))
  have hBh := Lib.hid (HB.out.grown gh (by have := HB.out.size; omega) (fun q e => by cases e; omega))
  have hsh : pb < wh.heap.size := by have := gh.size; omega
  have hRh := Lib.hid hrh
  clear HR HP HP0 HB gh hsz2 hrh
  go_wp2_with fail
  go_loopw [7] (fun iv wr => ∃ (i : Nat) (acc : List HsT) (st : RSt) (v : Value), i ≤ N ∧ iv = .int .i64 i ∧ st.1.length ≤ 1000000 ∧ acc.length ≤ i ∧ pb < wr.heap.size ∧ Hid (RR = (acc ++ (readN rHash (N - i) st).1, (readN rHash (N - i) st).2)) ∧ Hid (RefIs wr b st) ∧ Hid (Blk wr pb #[.int .i64 4, .string (str []), v, .slice none 0 0] 107) ∧ Hid (Blk wr w.heap.size pkZ 107) ∧ Hid (HashOwn wr (pb + 1) 23 v acc) ∧ Hid (Below w.heap.size w wr)) (fun iv _ => N - (intOf iv).toNat)
  case atStart => exact ⟨0, [], s0, _, by omega, rfl, hs09, by simp, hsh, Lib.hid (by rw [HRR.out]; simp), hRh, hPh, hP0h, Lib.hid (HashOwn.nil _ _ _), hBh⟩
  case round =>
    obtain ⟨i, acc, st, v, hi, rfl, hst, hal, hsr, hRe, hR, hP, hP0, hO, hB⟩ := hrel
    clear hRh hPh hP0h hBh hsh
    obtain ⟨vao, vc, rfl⟩ := own_slice hO.out.2
    obtain ⟨sl, se⟩ := st
    have h0 := hP.out.cell 0 _ rfl
    have hse1 := refIs_err hR.out
    by_cases hlt : i < N
    · by_cases hse : se = 0
      · subst hse
        obtain ⟨j, hj⟩ : ∃ j, j = N - (i + 1) := ⟨_, rfl⟩
        have hF : Hid (RR = ((acc ++ [(rHash (sl, 0)).1]) ++ (readN rHash (N - (i + 1)) (rHash (sl, 0)).2).1, (readN rHash (N - (i + 1)) (rHash (sl, 0)).2).2)) := by
          show _ = _
          rw [hRe.out, show N - i = (N - (i + 1)) + 1 by omega, readN_succ _ _ _ rfl]; simp
        have hlf : (rHash (sl, 0)).2.1.length ≤ 1000000 := Nat.le_trans (rHash_left (sl, 0)) hst
        have hxl : (rHash (sl, 0)).1.length = 32 := rHash_len _
        obtain ⟨x, hx⟩ : ∃ x, x = (rHash (sl, 0)).1 := ⟨_, rfl⟩
        obtain ⟨st2, hst2⟩ : ∃ st, st = (rHash (sl, 0)).2 := ⟨_, rfl⟩
        have c1 : ∀ y, RefIs y b (sl, 0) → Calls Try.prog 132 #[.pointer (some ⟨b, 0, none⟩)] y fun e w' => e = .returned (.agg (x.map bv).toArray) ∧ RefIs w' b st2 ∧ y.grownBy w' (some b) := fun y hy => by
          rw [hx, hst2]
          exact RefRHash_calls b (sl, 0) y hy (by show sl.length ≤ _; have : sl.length ≤ 1000000 := hst; omega)
        rw [← hx, ← hst2] at hF
        rw [← hst2] at hlf
        rw [← hx] at hxl
        clear hj hRe hx hst2
        have hR3 : RefIs wr.drew b (sl, 0) := hR.out
        have hP3 := hP.out.drew
        have hP03 := hP0.out.drew
        have hO3 := hO.out.drew
        have hb3 := hB.out
        have hz0 : pb < wr.drew.heap.size := hsr
        go_wp2_with fail
        clear h0 hse1 hR hP hP0 hO hB
        · skip
          refine wp_region_held_drew (S := fun x => Below w.heap.size w x) (by kernel_rfl) (below_drewN hb3 1) (fun hSq17 => ?_)
          refine wpAnyH_take (i := 0) (v := .pointer (some ⟨pb, 2, none⟩)) rfl (by kernel_rfl) (by kernel_rfl) (by kernel_rfl) (fun _ _ _ h => h) (Or.inl ⟨by rfl, fun x hx => by go_simp⟩) hSq17 ?_
          simp only [Act.put, List.getElem_toArray, List.getElem_cons_zero, List.getElem_cons_succ, List.setIfInBounds_toArray, List.set_cons_zero, List.set_cons_succ]
          refine wpAnyH_take (i := 2) (v := .pointer (some ⟨b, 0, none⟩)) rfl (by kernel_rfl) (by kernel_rfl) (by kernel_rfl) (fun _ _ _ h => h) (Or.inl ⟨by rfl, fun x hx => by go_simp⟩) hSq17 ?_
          simp only [Act.put, List.getElem_toArray, List.getElem_cons_zero, List.getElem_cons_succ, List.setIfInBounds_toArray, List.set_cons_zero, List.set_cons_succ]
          refine wpAnyH_ready (rs := [1, 3]) (by kernel_rfl) (by simp) ?_
          refine AllReadyH.cons rfl (fun K hK => ?_) ?_
          · have hcq18 := hP3.cell 2 _ rfl
            go_simp
            clear hcq18
            refine hK.out _ _ hSq17 (fun hSq19 => ?_)
            clear hK K hSq17
            refine wpAnyH_ready (rs := [3]) (by kernel_rfl) (by simp) ?_
            refine AllReadyH.cons rfl (fun K hK => ?_) AllReadyH.nil
            go_simp
            go_wp2_with (go_at_call 132; refine (c1 _ hR3).mono ?_; rintro e yq20 ⟨rfl, hq21, gq22⟩)
            have hPq24 := hP3.grown gq22 (by simp; omega)
            have hP0q25 := hP03.grown gq22 (by simp; omega)
            have hOq26 := hO3.kept gq22 (.inr (fun e => by have := (hO3.lt _ e).1; omega))
            have hzq27 := gq22.size
            refine hK.out _ _ (hSq19.grown gq22 hSq19.size (fun q e => by cases e; omega)) (fun hSq23 => ?_)
            clear hK K hSq19 gq22 hR3 hP3 hP03 hO3
            refine wpAnyH_ready (rs := [4]) (by kernel_rfl) (by simp) ?_
            refine AllReadyH.cons rfl (fun K hK => ?_) AllReadyH.nil
            rw [if_pos (by rfl)]
            refine wp_bsH 34 23 (.tmp 58) rfl x hxl (by rfl) Try.underlying34 Try.infoHash2 ?_
            intro qq28 wq29 eq30 sq31 bq32 nq33
            have hRq35 := refIs_below hq21 bq32
            have hPq36 := hPq24.below bq32 hPq24.lt
            have hP0q37 := hP0q25.below bq32 hP0q25.lt
            have hOq38 := hOq26.below bq32
            have hzq39 := bq32.size
            refine hK.out _ _ (hSq23.trans (bq32.mono hSq23.size)) (fun hSq34 => ?_)
            clear hK K hSq23 bq32 sq31 eq30 hq21 hPq24 hP0q25 hOq26
            refine wpAnyH_ready (rs := [5]) (by kernel_rfl) (by simp) ?_
            refine AllReadyH.cons rfl (fun K hK => ?_) AllReadyH.nil
            rw [if_pos (by rfl)]
            refine wp_append_h1k (.tmp 56) (.tmp 59) 34 rfl (pb + 1) 23 Try.underlying34 Try.infoHash3 _ acc (by rfl) hOq38 _ x hxl _ (by rfl) nq33 (by omega) (by omega) ?_
            intro vq40 wq41 hkq42 gq43
            have hRq45 := refIs_grownO hRq35 gq43 (fun q e => by have := (hOq38.lt _ e).1; omega)
            have hPq46 := hPq36.grown gq43 (fun e => by have := (hOq38.lt _ e.symm).1; omega)
            have hP0q47 := hP0q37.grown gq43 (fun e => by have := (hOq38.lt _ e.symm).1; omega)
            have hzq48 := gq43.size
            obtain ⟨ao9, c9, rfl⟩ := own_slice hkq42.2
            refine hK.out _ _ (hSq34.grown gq43 hSq34.size (fun q e => by have := (hOq38.lt _ e).1; omega)) (fun hSq44 => ?_)
            clear hK K hSq34 gq43 nq33 hRq35 hPq36 hP0q37 hOq38
            refine wpAnyH_take (i := 6) (v := .pointer (some ⟨pb, 2, none⟩)) rfl (by kernel_rfl) (by kernel_rfl) (by kernel_rfl) (fun _ _ _ h => h) (Or.inl ⟨by rfl, fun x hx => by go_simp⟩) hSq44 ?_
            simp only [Act.put, List.getElem_toArray, List.getElem_cons_zero, List.getElem_cons_succ, List.setIfInBounds_toArray, List.set_cons_zero, List.set_cons_succ]
            refine wpAnyH_ready (rs := [7]) (by kernel_rfl) (by simp) ?_
            refine AllReadyH.cons rfl (fun K hK => ?_) AllReadyH.nil
            have hcq49 := hPq46.cell 2 _ rfl
            have hfq50 := hPq46.free 2
            go_simp
            clear hcq49 hfq50
            obtain ⟨wnq52, hwq53⟩ : ∃ z, z = wq41.setCell ⟨pb, 2, none⟩ (.slice ao9 (acc ++ [x]).length c9) := ⟨_, rfl⟩
            have hgz : wq41.grownBy wnq52 (some pb) := by rw [hwq53]; exact Lib.grownBy_setCell wq41 pb 2 _
            have hR5 : RefIs wnq52 b st2 := Blk.grown hRq45 hgz (by simp; omega)
            have hP05 := hP0q47.grown hgz (by simp; omega)
            have hP5 : Blk wnq52 pb #[.int .i64 4, .string (str []), .slice ao9 (acc ++ [x]).length c9, .slice none 0 0] 107 := by rw [hwq53]; exact hPq46.set 2 _
            have hO5 := hkq42.kept hgz (.inr (fun e => by have := (hkq42.lt _ e).1; omega))
            have hs5 := hgz.size
            skip
            have hstwnq52 : wq41.setCell ⟨pb, 2, none⟩ (.slice ao9 (acc ++ [x]).length c9) = wnq52 := hwq53.symm
            first | rw [hstwnq52] | (rw [show (acc.length + 1) = (acc ++ [x]).length from by simp]; rw [hstwnq52])
            clear hwq53 hstwnq52
            refine hK.out _ _ (hSq44.grown hgz hSq44.size (fun q e => by cases e; omega)) (fun hSq51 => ?_)
            clear hK K hSq44 hgz hRq45 hPq46 hP0q47 hkq42
            refine wpAnyH_done (by kernel_rfl) ?_ _
            have HR5 := Lib.hid hR5
            have HP5 := Lib.hid hP5
            have HP05 := Lib.hid hP05
            have HO5 := Lib.hid hO5
            have HB5 := Lib.hid hSq51
            have hsz5 : pb < wnq52.heap.size := by omega
            clear hR5 hP5 hP05 hO5 hSq51 hz0 hzq27 hzq39 hzq48 hs5 c1 hxl
            go_wp2_with fail
            go_roundw
            case rel => exact ⟨i + 1, acc ++ [x], st2, _, by omega, by go_num, hlf, by simp; omega, hsz5, hF, HR5, HP5, HP05, HO5, HB5⟩
            case measure => simp [intOf]; omega
          refine AllReadyH.cons rfl (fun K hK => ?_) AllReadyH.nil
          go_simp
          go_wp2_with (go_at_call 132; refine (c1 _ hR3).mono ?_; rintro e yq54 ⟨rfl, hq55, gq56⟩)
          have hPq58 := hP3.grown gq56 (by simp; omega)
          have hP0q59 := hP03.grown gq56 (by simp; omega)
          have hOq60 := hO3.kept gq56 (.inr (fun e => by have := (hO3.lt _ e).1; omega))
          have hzq61 := gq56.size
          refine hK.out _ _ (hSq17.grown gq56 hSq17.size (fun q e => by cases e; omega)) (fun hSq57 => ?_)
          clear hK K hSq17 gq56 hR3 hP3 hP03 hO3
          refine wpAnyH_ready (rs := [1, 4]) (by kernel_rfl) (by simp) ?_
          refine AllReadyH.cons rfl (fun K hK => ?_) ?_
          · have hcq62 := hPq58.cell 2 _ rfl
            go_simp
            clear hcq62
            refine hK.out _ _ hSq57 (fun hSq63 => ?_)
            clear hK K hSq57
            refine wpAnyH_ready (rs := [4]) (by kernel_rfl) (by simp) ?_
            refine AllReadyH.cons rfl (fun K hK => ?_) AllReadyH.nil
            rw [if_pos (by rfl)]
            refine wp_bsH 34 23 (.tmp 58) rfl x hxl (by rfl) Try.underlying34 Try.infoHash2 ?_
            intro qq64 wq65 eq66 sq67 bq68 nq69
            have hRq71 := refIs_below hq55 bq68
            have hPq72 := hPq58.below bq68 hPq58.lt
            have hP0q73 := hP0q59.below bq68 hP0q59.lt
            have hOq74 := hOq60.below bq68
            have hzq75 := bq68.size
            refine hK.out _ _ (hSq63.trans (bq68.mono hSq63.size)) (fun hSq70 => ?_)
            clear hK K hSq63 bq68 sq67 eq66 hq55 hPq58 hP0q59 hOq60
            refine wpAnyH_ready (rs := [5]) (by kernel_rfl) (by simp) ?_
            refine AllReadyH.cons rfl (fun K hK => ?_) AllReadyH.nil
            rw [if_pos (by rfl)]
            refine wp_append_h1k (.tmp 56) (.tmp 59) 34 rfl (pb + 1) 23 Try.underlying34 Try.infoHash3 _ acc (by rfl) hOq74 _ x hxl _ (by rfl) nq69 (by omega) (by omega) ?_
            intro vq76 wq77 hkq78 gq79
            have hRq81 := refIs_grownO hRq71 gq79 (fun q e => by have := (hOq74.lt _ e).1; omega)
            have hPq82 := hPq72.grown gq79 (fun e => by have := (hOq74.lt _ e.symm).1; omega)
            have hP0q83 := hP0q73.grown gq79 (fun e => by have := (hOq74.lt _ e.symm).1; omega)
            have hzq84 := gq79.size
            obtain ⟨ao9, c9, rfl⟩ := own_slice hkq78.2
            refine hK.out _ _ (hSq70.grown gq79 hSq70.size (fun q e => by have := (hOq74.lt _ e).1; omega)) (fun hSq80 => ?_)
            clear hK K hSq70 gq79 nq69 hRq71 hPq72 hP0q73 hOq74
            refine wpAnyH_take (i := 6) (v := .pointer (some ⟨pb, 2, none⟩)) rfl (by kernel_rfl) (by kernel_rfl) (by kernel_rfl) (fun _ _ _ h => h) (Or.inl ⟨by rfl, fun x hx => by go_simp⟩) hSq80 ?_
            simp only [Act.put, List.getElem_toArray, List.getElem_cons_zero, List.getElem_cons_succ, List.setIfInBounds_toArray, List.set_cons_zero, List.set_cons_succ]
            refine wpAnyH_ready (rs := [7]) (by kernel_rfl) (by simp) ?_
            refine AllReadyH.cons rfl (fun K hK => ?_) AllReadyH.nil
            have hcq85 := hPq82.cell 2 _ rfl
            have hfq86 := hPq82.free 2
            go_simp
            clear hcq85 hfq86
            obtain ⟨wnq88, hwq89⟩ : ∃ z, z = wq77.setCell ⟨pb, 2, none⟩ (.slice ao9 (acc ++ [x]).length c9) := ⟨_, rfl⟩
            have hgz : wq77.grownBy wnq88 (some pb) := by rw [hwq89]; exact Lib.grownBy_setCell wq77 pb 2 _
            have hR5 : RefIs wnq88 b st2 := Blk.grown hRq81 hgz (by simp; omega)
            have hP05 := hP0q83.grown hgz (by simp; omega)
            have hP5 : Blk wnq88 pb #[.int .i64 4, .string (str []), .slice ao9 (acc ++ [x]).length c9, .slice none 0 0] 107 := by rw [hwq89]; exact hPq82.set 2 _
            have hO5 := hkq78.kept hgz (.inr (fun e => by have := (hkq78.lt _ e).1; omega))
            have hs5 := hgz.size
            skip
            have hstwnq88 : wq77.setCell ⟨pb, 2, none⟩ (.slice ao9 (acc ++ [x]).length c9) = wnq88 := hwq89.symm
            first | rw [hstwnq88] | (rw [show (acc.length + 1) = (acc ++ [x]).length from by simp]; rw [hstwnq88])
            clear hwq89 hstwnq88
            refine hK.out _ _ (hSq80.grown hgz hSq80.size (fun q e => by cases e; omega)) (fun hSq87 => ?_)
            clear hK K hSq80 hgz hRq81 hPq82 hP0q83 hkq78
            refine wpAnyH_done (by kernel_rfl) ?_ _
            have HR5 := Lib.hid hR5
            have HP5 := Lib.hid hP5
            have HP05 := Lib.hid hP05
            have HO5 := Lib.hid hO5
            have HB5 := Lib.hid hSq87
            have hsz5 : pb < wnq88.heap.size := by omega
            clear hR5 hP5 hP05 hO5 hSq87 hz0 hzq61 hzq75 hzq84 hs5 c1 hxl
            go_wp2_with fail
            go_roundw
            case rel => exact ⟨i + 1, acc ++ [x], st2, _, by omega, by go_num, hlf, by simp; omega, hsz5, hF, HR5, HP5, HP05, HO5, HB5⟩
            case measure => simp [intOf]; omega
          refine AllReadyH.cons rfl (fun K hK => ?_) AllReadyH.nil
          rw [if_pos (by rfl)]
          refine wp_bsH 34 23 (.tmp 58) rfl x hxl (by rfl) Try.underlying34 Try.infoHash2 ?_
          intro qq90 wq91 eq92 sq93 bq94 nq95
          have hRq97 := refIs_below hq55 bq94
          have hPq98 := hPq58.below bq94 hPq58.lt
          have hP0q99 := hP0q59.below bq94 hP0q59.lt
          have hOq100 := hOq60.below bq94
          have hzq101 := bq94.size
          refine hK.out _ _ (hSq57.trans (bq94.mono hSq57.size)) (fun hSq96 => ?_)
          clear hK K hSq57 bq94 sq93 eq92 hq55 hPq58 hP0q59 hOq60
          refine wpAnyH_ready (rs := [1]) (by kernel_rfl) (by simp) ?_
          refine AllReadyH.cons rfl (fun K hK => ?_) AllReadyH.nil
          have hcq102 := hPq98.cell 2 _ rfl
          go_simp
          clear hcq102
          refine hK.out _ _ hSq96 (fun hSq103 => ?_)
          clear hK K hSq96
          refine wpAnyH_ready (rs := [5]) (by kernel_rfl) (by simp) ?_
          refine AllReadyH.cons rfl (fun K hK => ?_) AllReadyH.nil
          rw [if_pos (by rfl)]
          refine wp_append_h1k (.tmp 56) (.tmp 59) 34 rfl (pb + 1) 23 Try.underlying34 Try.infoHash3 _ acc (by rfl) hOq100 _ x hxl _ (by rfl) nq95 (by omega) (by omega) ?_
          intro vq104 wq105 hkq106 gq107
          have hRq109 := refIs_grownO hRq97 gq107 (fun q e => by have := (hOq100.lt _ e).1; omega)
          have hPq110 := hPq98.grown gq107 (fun e => by have := (hOq100.lt _ e.symm).1; omega)
          have hP0q111 := hP0q99.grown gq107 (fun e => by have := (hOq100.lt _ e.symm).1; omega)
          have hzq112 := gq107.size
          obtain ⟨ao9, c9, rfl⟩ := own_slice hkq106.2
          refine hK.out _ _ (hSq103.grown gq107 hSq103.size (fun q e => by have := (hOq100.lt _ e).1; omega)) (fun hSq108 => ?_)
          clear hK K hSq103 gq107 nq95 hRq97 hPq98 hP0q99 hOq100
          refine wpAnyH_take (i := 6) (v := .pointer (some ⟨pb, 2, none⟩)) rfl (by kernel_rfl) (by kernel_rfl) (by kernel_rfl) (fun _ _ _ h => h) (Or.inl ⟨by rfl, fun x hx => by go_simp⟩) hSq108 ?_
          simp only [Act.put, List.getElem_toArray, List.getElem_cons_zero, List.getElem_cons_succ, List.setIfInBounds_toArray, List.set_cons_zero, List.set_cons_succ]
          refine wpAnyH_ready (rs := [7]) (by kernel_rfl) (by simp) ?_
          refine AllReadyH.cons rfl (fun K hK => ?_) AllReadyH.nil
          have hcq113 := hPq110.cell 2 _ rfl
          have hfq114 := hPq110.free 2
          go_simp
          clear hcq113 hfq114
          obtain ⟨wnq116, hwq117⟩ : ∃ z, z = wq105.setCell ⟨pb, 2, none⟩ (.slice ao9 (acc ++ [x]).length c9) := ⟨_, rfl⟩
          have hgz : wq105.grownBy wnq116 (some pb) := by rw [hwq117]; exact Lib.grownBy_setCell wq105 pb 2 _
          have hR5 : RefIs wnq116 b st2 := Blk.grown hRq109 hgz (by simp; omega)
          have hP05 := hP0q111.grown hgz (by simp; omega)
          have hP5 : Blk wnq116 pb #[.int .i64 4, .string (str []), .slice ao9 (acc ++ [x]).length c9, .slice none 0 0] 107 := by rw [hwq117]; exact hPq110.set 2 _
          have hO5 := hkq106.kept hgz (.inr (fun e => by have := (hkq106.lt _ e).1; omega))
          have hs5 := hgz.size
          skip
          have hstwnq116 : wq105.setCell ⟨pb, 2, none⟩ (.slice ao9 (acc ++ [x]).length c9) = wnq116 := hwq117.symm
          first | rw [hstwnq116] | (rw [show (acc.length + 1) = (acc ++ [x]).length from by simp]; rw [hstwnq116])
          clear hwq117 hstwnq116
          refine hK.out _ _ (hSq108.grown hgz hSq108.size (fun q e => by cases e; omega)) (fun hSq115 => ?_)
          clear hK K hSq108 hgz hRq109 hPq110 hP0q111 hkq106
          refine wpAnyH_done (by kernel_rfl) ?_ _
          have HR5 := Lib.hid hR5
          have HP5 := Lib.hid hP5
          have HP05 := Lib.hid hP05
          have HO5 := Lib.hid hO5
          have HB5 := Lib.hid hSq115
          have hsz5 : pb < wnq116.heap.size := by omega
          clear hR5 hP5 hP05 hO5 hSq115 hz0 hzq61 hzq101 hzq112 hs5 c1 hxl
          go_wp2_with fail
          go_roundw
          case rel => exact ⟨i + 1, acc ++ [x], st2, _, by omega, by go_num, hlf, by simp; omega, hsz5, hF, HR5, HP5, HP05, HO5, HB5⟩
          case measure => simp [intOf]; omega
      · have hF : Hid (RR = (acc, (sl, se))) := by show _ = _; rw [hRe.out, readN_stop _ _ _ hse]; simp
        have hF2 := hF
        have hd : decide (se = 0) = false := decide_eq_false hse      
        clear hF2
        obtain ⟨s2, hs2⟩ : ∃ s : RSt, s = (sl, se) := ⟨_, rfl⟩
        have hls : s2.1.length ≤ 1000000 := by rw [hs2]; exact hst
        rw [← hs2] at hF hR
        clear hRe hs2
        have HU : Hid (unK bs = (⟨4, [], acc, []⟩, s2)) := by
          have := HU0.out
          rw [hF.out] at this
          exact this
        have HR := hR
        have HP := hP
        have HP0 := hP0
        have HB := hB
        have HI := Lib.hid hO.out.at
        have HNE1 := Lib.hid (ne_own (g := w.heap.size) hO.out.2 (by omega))
        have HO1 := Lib.hid (own_oneG hO.out.2)
        clear hR hP hP0 hB hO hF
        have hn1 : acc.length ≤ 1000 := by omega
        have hn2 : ([] : List (List UInt8)).length ≤ 1000 := Nat.zero_le _
        have HO2 : Hid ((Value.slice none 0 0).oneCell' = true) := rfl
        have HX := Lib.hid (tx_nil wr)
        have HNE2 := Lib.hid (ne_nil w.heap.size)
        have HTM : Hid (∀ t ∈ ([] : List (List UInt8)), t.length ≤ maxLen) := (fun t h => by cases h)
        have HSM : Hid (([] : List UInt8).length ≤ maxLen) := Nat.zero_le _
        go_wp2_with fail
        clear h0 hse1
        refine (RefREnd_calls b s2 _ HR.out (by omega)).mono ?_
        rintro e wy ⟨rfl, hwy⟩
        subst hwy
        obtain ⟨E, hE⟩ : ∃ E, E = rEnd s2 := ⟨_, rfl⟩
        have HE := Lib.hid hE
        rw [← hE]
        clear hE
        by_cases he : E = 0
        · subst he
          have hp0 := HP.out.cell 0 _ rfl
          have hp1 := HP.out.cell 1 _ rfl
          have hp2 := HP.out.cell 2 _ rfl
          have hp3 := HP.out.cell 3 _ rfl
          have hbz := HB.out
          by_cases hr : RightP (⟨4, [], acc, []⟩ : Pk)
          · have cR := RRight_calls (⟨4, [], acc, []⟩ : Pk) (.slice vao acc.length vc) (.slice none 0 0) wr HI.out HX.out hn1 hn2 HSM.out HTM.out true (by simpa using hr)
            have HRr := Lib.hid hr
            clear hr
            go_wp2_with fail
            refine cR.mono ?_
            rintro e w7 ⟨rfl, b7⟩
            have HP0y := Lib.hid (HP0.out.below b7 HP0.out.lt)
            have HPy := Lib.hid (HP.out.below b7 HP.out.lt)
            have hby := hbz.trans (b7.mono hbz.size)
            have HIy := Lib.hid (HI.out.below b7)
            have HXy := Lib.hid (HX.out.below b7)
            clear cR b7 hbz hp0 hp1 hp2 hp3
            have hp0 := HPy.out.cell 0 _ rfl
            have hp1 := HPy.out.cell 1 _ rfl
            have hp2 := HPy.out.cell 2 _ rfl
            have hp3 := HPy.out.cell 3 _ rfl
            go_wp2_with ((with_reducible show wpList _ _ _ (⟨none, Op.store _ (.tmp 2) _, _, _, _, _⟩ :: _) _ _); refine wpList_storeBlk rfl 107 (.tmp 2) (.tmp 96) rfl w.heap.size #[.int .i64 4, .string (str []), .slice vao acc.length vc, .slice none 0 0] (by rfl) (by rfl) _ _ HP0y.out (by exact Try.sizeRPk) (by rfl) (pk_all _ _ _ _ HO1.out HO2.out) ?_; intro w8 n8 g8)
            have hb8 := hby.grown g8 hby.size (fun q e => by cases e; exact Nat.le_refl _)
            have RES : UnRes bs w (.returned (.tuple #[.agg #[.int .i64 4, .string (str []), .slice vao acc.length vc, .slice none 0 0], .int .i64 0])) w8 := UnRes.mk (unT_right HU.out HE.out.symm HRr.out) (hashes_grownG HIy.out g8 HNE1.out) (tx_grownG HXy.out g8 HNE2.out) (hb8)
            refine ret_cellTmpG rfl w.heap.size 107 #[.int .i64 4, .string (str []), .slice vao acc.length vc, .slice none 0 0] _ (by rfl) n8 Try.underlying107 rfl (by exact Try.sizeRPk) rfl ?_
            exact RES
          · have cR := RRight_calls (⟨4, [], acc, []⟩ : Pk) (.slice vao acc.length vc) (.slice none 0 0) wr HI.out HX.out hn1 hn2 HSM.out HTM.out false (by simpa using hr)
            have HRr := Lib.hid hr
            clear hr
            go_wp2_with fail
            refine cR.mono ?_
            rintro e w7 ⟨rfl, b7⟩
            have HP0y := Lib.hid (HP0.out.below b7 HP0.out.lt)
            have hby := hbz.trans (b7.mono hbz.size)
            clear cR b7 hbz hp0 hp1 hp2 hp3
            go_wp2_with (first | ((with_reducible show wpList _ _ _ (⟨some 95, _, _, _, _, _⟩ :: _) _ _); refine wpList_buildCells rfl 107 #[] rfl pkZ Try.builtRPk0 ?_) | ((with_reducible show wpList _ _ _ (⟨none, Op.store _ (.tmp 2) _, _, _, _, _⟩ :: _) _ _); refine wpList_storeBlk rfl 107 (.tmp 2) (.tmp 95) rfl w.heap.size pkZ (by rfl) (by rfl) _ _ HP0y.out (by exact Try.sizeRPk) (by rfl) (pk_all 0 [] _ _ rfl rfl) ?_; intro w8 n8 g8))
            have hb8 := hby.grown g8 hby.size (fun q e => by cases e; exact Nat.le_refl _)
            have RES : UnRes bs w (.returned (.tuple #[.agg #[.int .i64 pk0.k, .string (str pk0.s), .slice none 0 0, .slice none 0 0], .int .i64 3])) w8 := UnRes.mk (unT_wrong HU.out HE.out.symm HRr.out) (hashes_nil _) (tx_nil _) (hb8)
            refine ret_cellTmpG rfl w.heap.size 107 #[.int .i64 pk0.k, .string (str pk0.s), .slice none 0 0, .slice none 0 0] _ (by rfl) n8 Try.underlying107 rfl (by exact Try.sizeRPk) rfl ?_
            exact RES
        · have hbz := HB.out
          have hE0 : decide (E = 0) = false := decide_eq_false he
          go_wp2_with ((with_reducible show wpList _ _ _ (⟨some 89, _, _, _, _, _⟩ :: _) _ _); refine wpList_buildCells rfl 107 #[] rfl pkZ Try.builtRPk0 ?_)
          refine (RefREnd_calls b s2 _ HR.out (by omega)).mono ?_
          rintro e wy ⟨rfl, hwy⟩
          subst hwy
          rw [← HE.out]
          go_wp2_with ((with_reducible show wpList _ _ _ (⟨none, Op.store _ (.tmp 2) _, _, _, _, _⟩ :: _) _ _); refine wpList_storeBlk rfl 107 (.tmp 2) (.tmp 89) rfl w.heap.size pkZ (by rfl) (by rfl) _ _ HP0.out (by exact Try.sizeRPk) (by rfl) (pk_all 0 [] _ _ rfl rfl) ?_; intro w8 n8 g8)
          have hb8 := hbz.grown g8 hbz.size (fun q e => by cases e; exact Nat.le_refl _)
          have RES : UnRes bs w (.returned (.tuple #[.agg #[.int .i64 pk0.k, .string (str pk0.s), .slice none 0 0, .slice none 0 0], .int .i64 E])) w8 := UnRes.mk (by rw [HE.out]; exact unT_bad HU.out (fun e => he (HE.out.trans e))) (hashes_nil _) (tx_nil _) (hb8)
          refine ret_cellTmpG rfl w.heap.size 107 #[.int .i64 pk0.k, .string (str pk0.s), .slice none 0 0, .slice none 0 0] _ (by rfl) n8 Try.underlying107 rfl (by exact Try.sizeRPk) rfl ?_
          exact RES
    · obtain rfl : N = i := by omega
      have hF : Hid (RR = (acc, (sl, se))) := by show _ = _; rw [hRe.out, Nat.sub_self]; simp [readN]
      have hF2 := hF    
      clear hF2
      obtain ⟨s2, hs2⟩ : ∃ s : RSt, s = (sl, se) := ⟨_, rfl⟩
      have hls : s2.1.length ≤ 1000000 := by rw [hs2]; exact hst
      rw [← hs2] at hF hR
      clear hRe hs2
      have HU : Hid (unK bs = (⟨4, [], acc, []⟩, s2)) := by
        have := HU0.out
        rw [hF.out] at this
        exact this
      have HR := hR
      have HP := hP
      have HP0 := hP0
      have HB := hB
      have HI := Lib.hid hO.out.at
      have HNE1 := Lib.hid (ne_own (g := w.heap.size) hO.out.2 (by omega))
      have HO1 := Lib.hid (own_oneG hO.out.2)
      clear hR hP hP0 hB hO hF
      have hn1 : acc.length ≤ 1000 := by omega
      have hn2 : ([] : List (List UInt8)).length ≤ 1000 := Nat.zero_le _
      have HO2 : Hid ((Value.slice none 0 0).oneCell' = true) := rfl
      have HX := Lib.hid (tx_nil wr)
      have HNE2 := Lib.hid (ne_nil w.heap.size)
      have HTM : Hid (∀ t ∈ ([] : List (List UInt8)), t.length ≤ maxLen) := (fun t h => by cases h)
      have HSM : Hid (([] : List UInt8).length ≤ maxLen) := Nat.zero_le _
      go_wp2_with fail
      clear h0 hse1
      refine (RefREnd_calls b s2 _ HR.out (by omega)).mono ?_
      rintro e wy ⟨rfl, hwy⟩
      subst hwy
      obtain ⟨E, hE⟩ : ∃ E, E = rEnd s2 := ⟨_, rfl⟩
      have HE := Lib.hid hE
      rw [← hE]
      clear hE
      by_cases he : E = 0
      · subst he
        have hp0 := HP.out.cell 0 _ rfl
        have hp1 := HP.out.cell 1 _ rfl
        have hp2 := HP.out.cell 2 _ rfl
        have hp3 := HP.out.cell 3 _ rfl
        have hbz := HB.out
        by_cases hr : RightP (⟨4, [], acc, []⟩ : Pk)
        · have cR := RRight_calls (⟨4, [], acc, []⟩ : Pk) (.slice vao acc.length vc) (.slice none 0 0) wr HI.out HX.out hn1 hn2 HSM.out HTM.out true (by simpa using hr)
          have HRr := Lib.hid hr
          clear hr
          go_wp2_with fail
          refine cR.mono ?_
          rintro e w7 ⟨rfl, b7⟩
          have HP0y := Lib.hid (HP0.out.below b7 HP0.out.lt)
          have HPy := Lib.hid (HP.out.below b7 HP.out.lt)
          have hby := hbz.trans (b7.mono hbz.size)
          have HIy := Lib.hid (HI.out.below b7)
          have HXy := Lib.hid (HX.out.below b7)
          clear cR b7 hbz hp0 hp1 hp2 hp3
          have hp0 := HPy.out.cell 0 _ rfl
          have hp1 := HPy.out.cell 1 _ rfl
          have hp2 := HPy.out.cell 2 _ rfl
          have hp3 := HPy.out.cell 3 _ rfl
          go_wp2_with ((with_reducible show wpList _ _ _ (⟨none, Op.store _ (.tmp 2) _, _, _, _, _⟩ :: _) _ _); refine wpList_storeBlk rfl 107 (.tmp 2) (.tmp 96) rfl w.heap.size #[.int .i64 4, .string (str []), .slice vao acc.length vc, .slice none 0 0] (by rfl) (by rfl) _ _ HP0y.out (by exact Try.sizeRPk) (by rfl) (pk_all _ _ _ _ HO1.out HO2.out) ?_; intro w8 n8 g8)
          have hb8 := hby.grown g8 hby.size (fun q e => by cases e; exact Nat.le_refl _)
          have RES : UnRes bs w (.returned (.tuple #[.agg #[.int .i64 4, .string (str []), .slice vao acc.length vc, .slice none 0 0], .int .i64 0])) w8 := UnRes.mk (unT_right HU.out HE.out.symm HRr.out) (hashes_grownG HIy.out g8 HNE1.out) (tx_grownG HXy.out g8 HNE2.out) (hb8)
          refine ret_cellTmpG rfl w.heap.size 107 #[.int .i64 4, .string (str []), .slice vao acc.length vc, .slice none 0 0] _ (by rfl) n8 Try.underlying107 rfl (by exact Try.sizeRPk) rfl ?_
          exact RES
        · have cR := RRight_calls (⟨4, [], acc, []⟩ : Pk) (.slice vao acc.length vc) (.slice none 0 0) wr HI.out HX.out hn1 hn2 HSM.out HTM.out false (by simpa using hr)
          have HRr := Lib.hid hr
          clear hr
          go_wp2_with fail
          refine cR.mono ?_
          rintro e w7 ⟨rfl, b7⟩
          have HP0y := Lib.hid (HP0.out.below b7 HP0.out.lt)
          have hby := hbz.trans (b7.mono hbz.size)
          clear cR b7 hbz hp0 hp1 hp2 hp3
          go_wp2_with (first | ((with_reducible show wpList _ _ _ (⟨some 95, _, _, _, _, _⟩ :: _) _ _); refine wpList_buildCells rfl 107 #[] rfl pkZ Try.builtRPk0 ?_) | ((with_reducible show wpList _ _ _ (⟨none, Op.store _ (.tmp 2) _, _, _, _, _⟩ :: _) _ _); refine wpList_storeBlk rfl 107 (.tmp 2) (.tmp 95) rfl w.heap.size pkZ (by rfl) (by rfl) _ _ HP0y.out (by exact Try.sizeRPk) (by rfl) (pk_all 0 [] _ _ rfl rfl) ?_; intro w8 n8 g8))
          have hb8 := hby.grown g8 hby.size (fun q e => by cases e; exact Nat.le_refl _)
          have RES : UnRes bs w (.returned (.tuple #[.agg #[.int .i64 pk0.k, .string (str pk0.s), .slice none 0 0, .slice none 0 0], .int .i64 3])) w8 := UnRes.mk (unT_wrong HU.out HE.out.symm HRr.out) (hashes_nil _) (tx_nil _) (hb8)
          refine ret_cellTmpG rfl w.heap.size 107 #[.int .i64 pk0.k, .string (str pk0.s), .slice none 0 0, .slice none 0 0] _ (by rfl) n8 Try.underlying107 rfl (by exact Try.sizeRPk) rfl ?_
          exact RES
      · have hbz := HB.out
        have hE0 : decide (E = 0) = false := decide_eq_false he
        go_wp2_with ((with_reducible show wpList _ _ _ (⟨some 89, _, _, _, _, _⟩ :: _) _ _); refine wpList_buildCells rfl 107 #[] rfl pkZ Try.builtRPk0 ?_)
        refine (RefREnd_calls b s2 _ HR.out (by omega)).mono ?_
        rintro e wy ⟨rfl, hwy⟩
        subst hwy
        rw [← HE.out]
        go_wp2_with ((with_reducible show wpList _ _ _ (⟨none, Op.store _ (.tmp 2) _, _, _, _, _⟩ :: _) _ _); refine wpList_storeBlk rfl 107 (.tmp 2) (.tmp 89) rfl w.heap.size pkZ (by rfl) (by rfl) _ _ HP0.out (by exact Try.sizeRPk) (by rfl) (pk_all 0 [] _ _ rfl rfl) ?_; intro w8 n8 g8)
        have hb8 := hbz.grown g8 hbz.size (fun q e => by cases e; exact Nat.le_refl _)
        have RES : UnRes bs w (.returned (.tuple #[.agg #[.int .i64 pk0.k, .string (str pk0.s), .slice none 0 0, .slice none 0 0], .int .i64 E])) w8 := UnRes.mk (by rw [HE.out]; exact unT_bad HU.out (fun e => he (HE.out.trans e))) (hashes_nil _) (tx_nil _) (hb8)
        refine ret_cellTmpG rfl w.heap.size 107 #[.int .i64 pk0.k, .string (str pk0.s), .slice none 0 0, .slice none 0 0] _ (by rfl) n8 Try.underlying107 rfl (by exact Try.sizeRPk) rfl ?_
        exact RES
set_option maxHeartbeats 40000000 in
set_option maxRecDepth 100000 in
theorem RUnpack5 (bs : List UInt8) (w : World) (hbs : bs.length ≤ 1000000) (hkk : (rNum 6 (bs, 0)).1 = 5) : Calls Try.prog 63 #[.string (str bs)] w (UnRes bs w) := by
  obtain ⟨k, hk⟩ : ∃ k, k = (rNum 6 (bs, 0)).1 := ⟨_, rfl⟩
  obtain ⟨s1, hs1⟩ : ∃ s, s = (rNum 6 (bs, 0)).2 := ⟨_, rfl⟩
  have HK : Hid (unK bs = unB k s1) := by show _ = _; rw [hk, hs1]; rfl
  have hkA : 0 ≤ k := by rw [hk]; exact rNum_nonneg 6 (bs, 0)
  have hkB : k ≤ 6 := by rw [hk]; exact rNum_le 6 (by omega) (bs, 0)
  have hs9 : s1.1.length ≤ 1000000 := by rw [hs1]; exact Nat.le_trans (rNum_len 6 (bs, 0)) hbs
  have cN : ∀ (b : Nat) (y : World), RefIs y b (bs, 0) → Calls Try.prog 129 #[.pointer (some ⟨b, 0, none⟩), .int .i64 6] y fun e w' => e = .returned (.int .i64 k) ∧ RefIs w' b s1 ∧ y.grownBy w' (some b) := fun b y hy => by
    rw [hk, hs1]; exact RefRNum_calls b (bs, 0) 6 y hy (by show bs.length ≤ _; omega)
  obtain rfl : k = 5 := hk.trans hkk
  clear hk hs1 hkA hkB hkk
  go_enter Try.func63, Try.ntmps63
  go_wp2_with (first | ((with_reducible show wpList _ _ _ (⟨some 2, _, _, _, _, _⟩ :: _) _ _); refine wpList_allocZ rfl 107 rfl _ Try.zeroRPk ?_; intro wa sa ba na; have HSA := Lib.hid sa; clear sa) | ((with_reducible show wpList _ _ _ (⟨some 11, _, _, _, _, _⟩ :: _) _ _); refine wpList_buildCells rfl 200 #[(0, .tmp 10)] rfl #[.string (str bs), .int .i64 0] (Try.builtRefG bs) ?_) | ((with_reducible show wpList _ _ _ (⟨some 13, _, _, _, _, _⟩ :: _) _ _); refine wpList_buildCells rfl 107 #[] rfl pkZ Try.builtRPk0 ?_) | ((with_reducible show wpList _ _ _ (⟨some 5, _, _, _, _, _⟩ :: _) _ _); refine wpList_allocZ rfl 107 rfl _ Try.zeroRPk ?_; intro we se be ne; have sa := HSA.out; obtain ⟨b, hbb⟩ : ∃ b, b = wa.heap.size := ⟨_, rfl⟩; obtain ⟨pb, hpb⟩ : ∃ p, p = (wa.alloc (.cells #[.string (str bs), .int .i64 0] 200)).heap.size := ⟨_, rfl⟩; have hpbb : pb = b + 1 := (by rw [hpb, hbb]; simp); have hRe : RefIs we b (bs, 0) := (Blk.below (B := pb) (by rw [hbb]; exact Blk.new _ _ _) (by rw [hpb]; exact be) (by omega)); have hP0e := (na.alloc (.cells #[.string (str bs), .int .i64 0] 200)).below be (by simp; omega); have hBe := (ba.alloc ba.size (.cells #[.string (str bs), .int .i64 0] 200)).trans (be.mono (by simp; omega)); have hRb : w.heap.size < b := (by omega); rw [← hpb] at ne se ⊢; rw [← hbb]; have hsb : b < pb := (by omega); clear na ba be hpb hbb sa hpbb HSA) | ((with_reducible show wpList _ _ _ (⟨none, Op.store _ (.tmp 5) _, _, _, _, _⟩ :: _) _ _); refine wpList_storeBlk rfl 107 (.tmp 5) (.tmp 13) rfl pb pkZ (by rfl) (by rfl) _ _ ne (by exact Try.sizeRPk) (by rfl) (pk_all 0 [] _ _ rfl rfl) ?_; intro wf hPf gf; have HR := Blk.grown hRe gf (by simp; omega); have HP0 := hP0e.grown gf (by simp; omega); have HB := hBe.grown gf (by have := hBe.size; omega) (fun q e => by cases e; omega); have hsf : pb < wf.heap.size := (by have := gf.size; omega); clear hRe hP0e hBe ne gf se))
  refine (cN b _ HR).mono ?_
  rintro e wg ⟨rfl, hrg, gg⟩
  have hPg := hPf.grown gg (by simp; omega)
  have hP0g := HP0.grown gg (by simp; omega)
  have hBg := HB.grown gg (by have := HB.size; omega) (fun q e => by cases e; omega)
  have hsg : pb < wg.heap.size := by have := gg.size; omega
  clear HR HP0 HB hPf gg cN hsf
  obtain ⟨wz, hwz⟩ : ∃ z, z = wg.setCell ⟨pb, 0, none⟩ (.int .i64 5) := ⟨_, rfl⟩
  have hp0 := hPg.cell 0 _ rfl
  have hf0 := hPg.free 0
  have HR : Hid (RefIs wz b s1) := by show RefIs _ _ _; rw [hwz]; exact Blk.setOther hrg _ _ (by show b ≠ pb; omega)
  have HP0 : Hid (Blk wz w.heap.size pkZ 107) := by show Blk _ _ _ _; rw [hwz]; exact hP0g.setOther _ _ (by show w.heap.size ≠ pb; omega)
  have hgz : wg.grownBy wz (some pb) := by rw [hwz]; exact Lib.grownBy_setCell wg pb 0 _
  have HB : Hid (Below w.heap.size w wz) := hBg.grown hgz hBg.size (fun q e => by cases e; omega)
  have hPz := hPg.set 0 (.int .i64 5)
  rw [← hwz] at hPz
  have hsz2 : pb < wz.heap.size := by have := hgz.size; omega
  have HP : Hid (Blk wz pb #[.int .i64 5, .string (str []), .slice none 0 0, .slice none 0 0] 107) := hPz
  have h0 : (wg.setCell ⟨pb, 0, none⟩ (.int .i64 5)).cell? ⟨pb, 0, none⟩ = some (.int .i64 5) := by rw [← hwz]; exact HP.out.cell 0 _ rfl
  have HWZ := Lib.hid hwz
  clear hwz hrg hP0g hBg hPg hPz hgz hsg
  go_wp2_with fail
  rw [← HWZ.out]
  clear HWZ h0 hp0 hf0
  refine (RefRNum_calls b s1 256 _ HR.out (by omega)).mono ?_
  rintro e wh ⟨rfl, hrh, gh⟩
  have hl0 := rNum_len 256 s1
  have hn0 := rNum_nonneg 256 s1
  have hl2 := rNum_le 256 (by omega) s1
  have HU0 : Hid (unK bs = (⟨5, [], (readN rHash (rNum 256 s1).1.toNat (rNum 256 s1).2).1, []⟩, (readN rHash (rNum 256 s1).1.toNat (rNum 256 s1).2).2)) := by show _ = _; rw [HK.out, unB_45 (by omega)]
  obtain ⟨N, hN⟩ : ∃ N, N = (rNum 256 s1).1.toNat := ⟨_, rfl⟩
  have HNI : Hid ((rNum 256 s1).1 = (N : Int)) := by show _ = _; omega
  obtain ⟨s0, hs0⟩ : ∃ s0, s0 = (rNum 256 s1).2 := ⟨_, rfl⟩
  rw [HNI.out]
  rw [← hs0] at hrh hl0 HU0
  rw [← hN] at HU0
  have hN9 : N ≤ 256 := by omega
  have hs09 : s0.1.length ≤ 1000000 := by omega
  clear hl0 hn0 hl2 hN hs0 HNI
  obtain ⟨RR, hRR⟩ : ∃ R, R = readN rHash N s0 := ⟨_, rfl⟩
  rw [← hRR] at HU0
  have HRR := Lib.hid hRR
  clear hRR
  have hPh := Lib.hid (HP.out.grown gh (by simp; omega))
  have hP0h := Lib.hid (HP0.out.grown gh (by simp; omega))
  have hBh := Lib.hid (HB.out.grown gh (by have := HB.out.size; omega) (fun q e => by cases e; omega))
  have hsh : pb < wh.heap.size := by have := gh.size; omega
  have hRh := Lib.hid hrh
  clear HR HP HP0 HB gh hsz2 hrh
  go_wp2_with fail
  go_loopw [7] (fun iv wr => ∃ (i : Nat) (acc : List HsT) (st : RSt) (v : Value), i ≤ N ∧ iv = .int .i64 i ∧ st.1.length ≤ 1000000 ∧ acc.length ≤ i ∧ pb < wr.heap.size ∧ Hid (RR = (acc ++ (readN rHash (N - i) st).1, (readN rHash (N - i) st).2)) ∧ Hid (RefIs wr b st) ∧ Hid (Blk wr pb #[.int .i64 5, .string (str []), v, .slice none 0 0] 107) ∧ Hid (Blk wr w.heap.size pkZ 107) ∧ Hid (HashOwn wr (pb + 1) 23 v acc) ∧ Hid (Below w.heap.size w wr)) (fun iv _ => N - (intOf iv).toNat)
  case atStart => exact ⟨0, [], s0, _, by omega, rfl, hs09, by simp, hsh, Lib.hid (by rw [HRR.out]; simp), hRh, hPh, hP0h, Lib.hid (HashOwn.nil _ _ _), hBh⟩
  case round =>
    obtain ⟨i, acc, st, v, hi, rfl, hst, hal, hsr, hRe, hR, hP, hP0, hO, hB⟩ := hrel
    clear hRh hPh hP0h hBh hsh
    obtain ⟨vao, vc, rfl⟩ := own_slice hO.out.2
    obtain ⟨sl, se⟩ := st
    have h0 := hP.out.cell 0 _ rfl
    have hse1 := refIs_err hR.out
    by_cases hlt : i < N
    · by_cases hse : se = 0
      · subst hse
        obtain ⟨j, hj⟩ : ∃ j, j = N - (i + 1) := ⟨_, rfl⟩
        have hF : Hid (RR = ((acc ++ [(rHash (sl, 0)).1]) ++ (readN rHash (N - (i + 1)) (rHash (sl, 0)).2).1, (readN rHash (N - (i + 1)) (rHash (sl, 0)).2).2)) := by
          show _ = _
          rw [hRe.out, show N - i = (N - (i + 1)) + 1 by omega, readN_succ _ _ _ rfl]; simp
        have hlf : (rHash (sl, 0)).2.1.length ≤ 1000000 := Nat.le_trans (rHash_left (sl, 0)) hst
        have hxl : (rHash (sl, 0)).1.length = 32 := rHash_len _
        obtain ⟨x, hx⟩ : ∃ x, x = (rHash (sl, 0)).1 := ⟨_, rfl⟩
        obtain ⟨st2, hst2⟩ : ∃ st, st = (rHash (sl, 0)).2 := ⟨_, rfl⟩
        have c1 : ∀ y, RefIs y b (sl, 0) → Calls Try.prog 132 #[.pointer (some ⟨b, 0, none⟩)] y fun e w' => e = .returned (.agg (x.map bv).toArray) ∧ RefIs w' b st2 ∧ y.grownBy w' (some b) := fun y hy => by
          rw [hx, hst2]
          exact RefRHash_calls b (sl, 0) y hy (by show sl.length ≤ _; have : sl.length ≤ 1000000 := hst; omega)
        rw [← hx, ← hst2] at hF
        rw [← hst2] at hlf
        rw [← hx] at hxl
        clear hj hRe hx hst2
        have hR3 : RefIs wr.drew b (sl, 0) := hR.out
        have hP3 := hP.out.drew
        have hP03 := hP0.out.drew
        have hO3 := hO.out.drew
        have hb3 := hB.out
        have hz0 : pb < wr.drew.heap.size := hsr
        go_wp2_with fail
        clear h0 hse1 hR hP hP0 hO hB
        · skip
          refine wp_region_held_drew (S := fun x => Below w.heap.size w x) (by kernel_rfl) (below_drewN hb3 1) (fun hSq118 => ?_)
          refine wpAnyH_take (i := 0) (v := .pointer (some ⟨pb, 2, none⟩)) rfl (by kernel_rfl) (by kernel_rfl) (by kernel_rfl) (fun _ _ _ h => h) (Or.inl ⟨by rfl, fun x hx => by go_simp⟩) hSq118 ?_
          simp only [Act.put, List.getElem_toArray, List.getElem_cons_zero, List.getElem_cons_succ, List.setIfInBounds_toArray, List.set_cons_zero, List.set_cons_succ]
          refine wpAnyH_take (i := 2) (v := .pointer (some ⟨b, 0, none⟩)) rfl (by kernel_rfl) (by kernel_rfl) (by kernel_rfl) (fun _ _ _ h => h) (Or.inl ⟨by rfl, fun x hx => by go_simp⟩) hSq118 ?_
          simp only [Act.put, List.getElem_toArray, List.getElem_cons_zero, List.getElem_cons_succ, List.setIfInBounds_toArray, List.set_cons_zero, List.set_cons_succ]
          refine wpAnyH_ready (rs := [1, 3]) (by kernel_rfl) (by simp) ?_
          refine AllReadyH.cons rfl (fun K hK => ?_) ?_
          · have hcq119 := hP3.cell 2 _ rfl
            go_simp
            clear hcq119
            refine hK.out _ _ hSq118 (fun hSq120 => ?_)
            clear hK K hSq118
            refine wpAnyH_ready (rs := [3]) (by kernel_rfl) (by simp) ?_
            refine AllReadyH.cons rfl (fun K hK => ?_) AllReadyH.nil
            go_simp
            go_wp2_with (go_at_call 132; refine (c1 _ hR3).mono ?_; rintro e yq121 ⟨rfl, hq122, gq123⟩)
            have hPq125 := hP3.grown gq123 (by simp; omega)
            have hP0q126 := hP03.grown gq123 (by simp; omega)
            have hOq127 := hO3.kept gq123 (.inr (fun e => by have := (hO3.lt _ e).1; omega))
            have hzq128 := gq123.size
            refine hK.out _ _ (hSq120.grown gq123 hSq120.size (fun q e => by cases e; omega)) (fun hSq124 => ?_)
            clear hK K hSq120 gq123 hR3 hP3 hP03 hO3
            refine wpAnyH_ready (rs := [4]) (by kernel_rfl) (by simp) ?_
            refine AllReadyH.cons rfl (fun K hK => ?_) AllReadyH.nil
            rw [if_pos (by rfl)]
            refine wp_bsH 34 23 (.tmp 58) rfl x hxl (by rfl) Try.underlying34 Try.infoHash2 ?_
            intro qq129 wq130 eq131 sq132 bq133 nq134
            have hRq136 := refIs_below hq122 bq133
            have hPq137 := hPq125.below bq133 hPq125.lt
            have hP0q138 := hP0q126.below bq133 hP0q126.lt
            have hOq139 := hOq127.below bq133
            have hzq140 := bq133.size
            refine hK.out _ _ (hSq124.trans (bq133.mono hSq124.size)) (fun hSq135 => ?_)
            clear hK K hSq124 bq133 sq132 eq131 hq122 hPq125 hP0q126 hOq127
            refine wpAnyH_ready (rs := [5]) (by kernel_rfl) (by simp) ?_
            refine AllReadyH.cons rfl (fun K hK => ?_) AllReadyH.nil
            rw [if_pos (by rfl)]
            refine wp_append_h1k (.tmp 56) (.tmp 59) 34 rfl (pb + 1) 23 Try.underlying34 Try.infoHash3 _ acc (by rfl) hOq139 _ x hxl _ (by rfl) nq134 (by omega) (by omega) ?_
            intro vq141 wq142 hkq143 gq144
            have hRq146 := refIs_grownO hRq136 gq144 (fun q e => by have := (hOq139.lt _ e).1; omega)
            have hPq147 := hPq137.grown gq144 (fun e => by have := (hOq139.lt _ e.symm).1; omega)
            have hP0q148 := hP0q138.grown gq144 (fun e => by have := (hOq139.lt _ e.symm).1; omega)
            have hzq149 := gq144.size
            obtain ⟨ao9, c9, rfl⟩ := own_slice hkq143.2
            refine hK.out _ _ (hSq135.grown gq144 hSq135.size (fun q e => by have := (hOq139.lt _ e).1; omega)) (fun hSq145 => ?_)
            clear hK K hSq135 gq144 nq134 hRq136 hPq137 hP0q138 hOq139
            refine wpAnyH_take (i := 6) (v := .pointer (some ⟨pb, 2, none⟩)) rfl (by kernel_rfl) (by kernel_rfl) (by kernel_rfl) (fun _ _ _ h => h) (Or.inl ⟨by rfl, fun x hx => by go_simp⟩) hSq145 ?_
            simp only [Act.put, List.getElem_toArray, List.getElem_cons_zero, List.getElem_cons_succ, List.setIfInBounds_toArray, List.set_cons_zero, List.set_cons_succ]
            refine wpAnyH_ready (rs := [7]) (by kernel_rfl) (by simp) ?_
            refine AllReadyH.cons rfl (fun K hK => ?_) AllReadyH.nil
            have hcq150 := hPq147.cell 2 _ rfl
            have hfq151 := hPq147.free 2
            go_simp
            clear hcq150 hfq151
            obtain ⟨wnq153, hwq154⟩ : ∃ z, z = wq142.setCell ⟨pb, 2, none⟩ (.slice ao9 (acc ++ [x]).length c9) := ⟨_, rfl⟩
            have hgz : wq142.grownBy wnq153 (some pb) := by rw [hwq154]; exact Lib.grownBy_setCell wq142 pb 2 _
            have hR5 : RefIs wnq153 b st2 := Blk.grown hRq146 hgz (by simp; omega)
            have hP05 := hP0q148.grown hgz (by simp; omega)
            have hP5 : Blk wnq153 pb #[.int .i64 5, .string (str []), .slice ao9 (acc ++ [x]).length c9, .slice none 0 0] 107 := by rw [hwq154]; exact hPq147.set 2 _
            have hO5 := hkq143.kept hgz (.inr (fun e => by have := (hkq143.lt _ e).1; omega))
            have hs5 := hgz.size
            skip
            have hstwnq153 : wq142.setCell ⟨pb, 2, none⟩ (.slice ao9 (acc ++ [x]).length c9) = wnq153 := hwq154.symm
            first | rw [hstwnq153] | (rw [show (acc.length + 1) = (acc ++ [x]).length from by simp]; rw [hstwnq153])
            clear hwq154 hstwnq153
            refine hK.out _ _ (hSq145.grown hgz hSq145.size (fun q e => by cases e; omega)) (fun hSq152 => ?_)
            clear hK K hSq145 hgz hRq146 hPq147 hP0q148 hkq143
            refine wpAnyH_done (by kernel_rfl) ?_ _
            have HR5 := Lib.hid hR5
            have HP5 := Lib.hid hP5
            have HP05 := Lib.hid hP05
            have HO5 := Lib.hid hO5
            have HB5 := Lib.hid hSq152
            have hsz5 : pb < wnq153.heap.size := by omega
            clear hR5 hP5 hP05 hO5 hSq152 hz0 hzq128 hzq140 hzq149 hs5 c1 hxl
            go_wp2_with fail
            go_roundw
            case rel => exact ⟨i + 1, acc ++ [x], st2, _, by omega, by go_num, hlf, by simp; omega, hsz5, hF, HR5, HP5, HP05, HO5, HB5⟩
            case measure => simp [intOf]; omega
          refine AllReadyH.cons rfl (fun K hK => ?_) AllReadyH.nil
          go_simp
          go_wp2_with (go_at_call 132; refine (c1 _ hR3).mono ?_; rintro e yq155 ⟨rfl, hq156, gq157⟩)
          have hPq159 := hP3.grown gq157 (by simp; omega)
          have hP0q160 := hP03.grown gq157 (by simp; omega)
          have hOq161 := hO3.kept gq157 (.inr (fun e => by have := (hO3.lt _ e).1; omega))
          have hzq162 := gq157.size
          refine hK.out _ _ (hSq118.grown gq157 hSq118.size (fun q e => by cases e; omega)) (fun hSq158 => ?_)
          clear hK K hSq118 gq157 hR3 hP3 hP03 hO3
          refine wpAnyH_ready (rs := [1, 4]) (by kernel_rfl) (by simp) ?_
          refine AllReadyH.cons rfl (fun K hK => ?_) ?_
          · have hcq163 := hPq159.cell 2 _ rfl
            go_simp
            clear hcq163
            refine hK.out _ _ hSq158 (fun hSq164 => ?_)
            clear hK K hSq158
            refine wpAnyH_ready (rs := [4]) (by kernel_rfl) (by simp) ?_
            refine AllReadyH.cons rfl (fun K hK => ?_) AllReadyH.nil
            rw [if_pos (by rfl)]
            refine wp_bsH 34 23 (.tmp 58) rfl x hxl (by rfl) Try.underlying34 Try.infoHash2 ?_
            intro qq165 wq166 eq167 sq168 bq169 nq170
            have hRq172 := refIs_below hq156 bq169
            have hPq173 := hPq159.below bq169 hPq159.lt
            have hP0q174 := hP0q160.below bq169 hP0q160.lt
            have hOq175 := hOq161.below bq169
            have hzq176 := bq169.size
            refine hK.out _ _ (hSq164.trans (bq169.mono hSq164.size)) (fun hSq171 => ?_)
            clear hK K hSq164 bq169 sq168 eq167 hq156 hPq159 hP0q160 hOq161
            refine wpAnyH_ready (rs := [5]) (by kernel_rfl) (by simp) ?_
            refine AllReadyH.cons rfl (fun K hK => ?_) AllReadyH.nil
            rw [if_pos (by rfl)]
            refine wp_append_h1k (.tmp 56) (.tmp 59) 34 rfl (pb + 1) 23 Try.underlying34 Try.infoHash3 _ acc (by rfl) hOq175 _ x hxl _ (by rfl) nq170 (by omega) (by omega) ?_
            intro vq177 wq178 hkq179 gq180
            have hRq182 := refIs_grownO hRq172 gq180 (fun q e => by have := (hOq175.lt _ e).1; omega)
            have hPq183 := hPq173.grown gq180 (fun e => by have := (hOq175.lt _ e.symm).1; omega)
            have hP0q184 := hP0q174.grown gq180 (fun e => by have := (hOq175.lt _ e.symm).1; omega)
            have hzq185 := gq180.size
            obtain ⟨ao9, c9, rfl⟩ := own_slice hkq179.2
            refine hK.out _ _ (hSq171.grown gq180 hSq171.size (fun q e => by have := (hOq175.lt _ e).1; omega)) (fun hSq181 => ?_)
            clear hK K hSq171 gq180 nq170 hRq172 hPq173 hP0q174 hOq175
            refine wpAnyH_take (i := 6) (v := .pointer (some ⟨pb, 2, none⟩)) rfl (by kernel_rfl) (by kernel_rfl) (by kernel_rfl) (fun _ _ _ h => h) (Or.inl ⟨by rfl, fun x hx => by go_simp⟩) hSq181 ?_
            simp only [Act.put, List.getElem_toArray, List.getElem_cons_zero, List.getElem_cons_succ, List.setIfInBounds_toArray, List.set_cons_zero, List.set_cons_succ]
            refine wpAnyH_ready (rs := [7]) (by kernel_rfl) (by simp) ?_
            refine AllReadyH.cons rfl (fun K hK => ?_) AllReadyH.nil
            have hcq186 := hPq183.cell 2 _ rfl
            have hfq187 := hPq183.free 2
            go_simp
            clear hcq186 hfq187
            obtain ⟨wnq189, hwq190⟩ : ∃ z, z = wq178.setCell ⟨pb, 2, none⟩ (.slice ao9 (acc ++ [x]).length c9) := ⟨_, rfl⟩
            have hgz : wq178.grownBy wnq189 (some pb) := by rw [hwq190]; exact Lib.grownBy_setCell wq178 pb 2 _
            have hR5 : RefIs wnq189 b st2 := Blk.grown hRq182 hgz (by simp; omega)
            have hP05 := hP0q184.grown hgz (by simp; omega)
            have hP5 : Blk wnq189 pb #[.int .i64 5, .string (str []), .slice ao9 (acc ++ [x]).length c9, .slice none 0 0] 107 := by rw [hwq190]; exact hPq183.set 2 _
            have hO5 := hkq179.kept hgz (.inr (fun e => by have := (hkq179.lt _ e).1; omega))
            have hs5 := hgz.size
            skip
            have hstwnq189 : wq178.setCell ⟨pb, 2, none⟩ (.slice ao9 (acc ++ [x]).length c9) = wnq189 := hwq190.symm
            first | rw [hstwnq189] | (rw [show (acc.length + 1) = (acc ++ [x]).length from by simp]; rw [hstwnq189])
            clear hwq190 hstwnq189
            refine hK.out _ _ (hSq181.grown hgz hSq181.size (fun q e => by cases e; omega)) (fun hSq188 => ?_)
            clear hK K hSq181 hgz hRq182 hPq183 hP0q184 hkq179
            refine wpAnyH_done (by kernel_rfl) ?_ _
            have HR5 := Lib.hid hR5
            have HP5 := Lib.hid hP5
            have HP05 := Lib.hid hP05
            have HO5 := Lib.hid hO5
            have HB5 := Lib.hid hSq188
            have hsz5 : pb < wnq189.heap.size := by omega
            clear hR5 hP5 hP05 hO5 hSq188 hz0 hzq162 hzq176 hzq185 hs5 c1 hxl
            go_wp2_with fail
            go_roundw
            case rel => exact ⟨i + 1, acc ++ [x], st2, _, by omega, by go_num, hlf, by simp; omega, hsz5, hF, HR5, HP5, HP05, HO5, HB5⟩
            case measure => simp [intOf]; omega
          refine AllReadyH.cons rfl (fun K hK => ?_) AllReadyH.nil
          rw [if_pos (by rfl)]
          refine wp_bsH 34 23 (.tmp 58) rfl x hxl (by rfl) Try.underlying34 Try.infoHash2 ?_
          intro qq191 wq192 eq193 sq194 bq195 nq196
          have hRq198 := refIs_below hq156 bq195
          have hPq199 := hPq159.below bq195 hPq159.lt
          have hP0q200 := hP0q160.below bq195 hP0q160.lt
          have hOq201 := hOq161.below bq195
          have hzq202 := bq195.size
          refine hK.out _ _ (hSq158.trans (bq195.mono hSq158.size)) (fun hSq197 => ?_)
          clear hK K hSq158 bq195 sq194 eq193 hq156 hPq159 hP0q160 hOq161
          refine wpAnyH_ready (rs := [1]) (by kernel_rfl) (by simp) ?_
          refine AllReadyH.cons rfl (fun K hK => ?_) AllReadyH.nil
          have hcq203 := hPq199.cell 2 _ rfl
          go_simp
          clear hcq203
          refine hK.out _ _ hSq197 (fun hSq204 => ?_)
          clear hK K hSq197
          refine wpAnyH_ready (rs := [5]) (by kernel_rfl) (by simp) ?_
          refine AllReadyH.cons rfl (fun K hK => ?_) AllReadyH.nil
          rw [if_pos (by rfl)]
          refine wp_append_h1k (.tmp 56) (.tmp 59) 34 rfl (pb + 1) 23 Try.underlying34 Try.infoHash3 _ acc (by rfl) hOq201 _ x hxl _ (by rfl) nq196 (by omega) (by omega) ?_
          intro vq205 wq206 hkq207 gq208
          have hRq210 := refIs_grownO hRq198 gq208 (fun q e => by have := (hOq201.lt _ e).1; omega)
          have hPq211 := hPq199.grown gq208 (fun e => by have := (hOq201.lt _ e.symm).1; omega)
          have hP0q212 := hP0q200.grown gq208 (fun e => by have := (hOq201.lt _ e.symm).1; omega)
          have hzq213 := gq208.size
          obtain ⟨ao9, c9, rfl⟩ := own_slice hkq207.2
          refine hK.out _ _ (hSq204.grown gq208 hSq204.size (fun q e => by have := (hOq201.lt _ e).1; omega)) (fun hSq209 => ?_)
          clear hK K hSq204 gq208 nq196 hRq198 hPq199 hP0q200 hOq201
          refine wpAnyH_take (i := 6) (v := .pointer (some ⟨pb, 2, none⟩)) rfl (by kernel_rfl) (by kernel_rfl) (by kernel_rfl) (fun _ _ _ h => h) (Or.inl ⟨by rfl, fun x hx => by go_simp⟩) hSq209 ?_
          simp only [Act.put, List.getElem_toArray, List.getElem_cons_zero, List.getElem_cons_succ, List.setIfInBounds_toArray, List.set_cons_zero, List.set_cons_succ]
          refine wpAnyH_ready (rs := [7]) (by kernel_rfl) (by simp) ?_
          refine AllReadyH.cons rfl (fun K hK => ?_) AllReadyH.nil
          have hcq214 := hPq211.cell 2 _ rfl
          have hfq215 := hPq211.free 2
          go_simp
          clear hcq214 hfq215
          obtain ⟨wnq217, hwq218⟩ : ∃ z, z = wq206.setCell ⟨pb, 2, none⟩ (.slice ao9 (acc ++ [x]).length c9) := ⟨_, rfl⟩
          have hgz : wq206.grownBy wnq217 (some pb) := by rw [hwq218]; exact Lib.grownBy_setCell wq206 pb 2 _
          have hR5 : RefIs wnq217 b st2 := Blk.grown hRq210 hgz (by simp; omega)
          have hP05 := hP0q212.grown hgz (by simp; omega)
          have hP5 : Blk wnq217 pb #[.int .i64 5, .string (str []), .slice ao9 (acc ++ [x]).length c9, .slice none 0 0] 107 := by rw [hwq218]; exact hPq211.set 2 _
          have hO5 := hkq207.kept hgz (.inr (fun e => by have := (hkq207.lt _ e).1; omega))
          have hs5 := hgz.size
          skip
          have hstwnq217 : wq206.setCell ⟨pb, 2, none⟩ (.slice ao9 (acc ++ [x]).length c9) = wnq217 := hwq218.symm
          first | rw [hstwnq217] | (rw [show (acc.length + 1) = (acc ++ [x]).length from by simp]; rw [hstwnq217])
          clear hwq218 hstwnq217
          refine hK.out _ _ (hSq209.grown hgz hSq209.size (fun q e => by cases e; omega)) (fun hSq216 => ?_)
          clear hK K hSq209 hgz hRq210 hPq211 hP0q212 hkq207
          refine wpAnyH_done (by kernel_rfl) ?_ _
          have HR5 := Lib.hid hR5
          have HP5 := Lib.hid hP5
          have HP05 := Lib.hid hP05
          have HO5 := Lib.hid hO5
          have HB5 := Lib.hid hSq216
          have hsz5 : pb < wnq217.heap.size := by omega
          clear hR5 hP5 hP05 hO5 hSq216 hz0 hzq162 hzq202 hzq213 hs5 c1 hxl
          go_wp2_with fail
          go_roundw
          case rel => exact ⟨i + 1, acc ++ [x], st2, _, by omega, by go_num, hlf, by simp; omega, hsz5, hF, HR5, HP5, HP05, HO5, HB5⟩
          case measure => simp [intOf]; omega
      · have hF : Hid (RR = (acc, (sl, se))) := by show _ = _; rw [hRe.out, readN_stop _ _ _ hse]; simp
        have hF2 := hF
        have hd : decide (se = 0) = false := decide_eq_false hse      
        clear hF2
        obtain ⟨s2, hs2⟩ : ∃ s : RSt, s = (sl, se) := ⟨_, rfl⟩
        have hls : s2.1.length ≤ 1000000 := by rw [hs2]; exact hst
        rw [← hs2] at hF hR
        clear hRe hs2
        have HU : Hid (unK bs = (⟨5, [], acc, []⟩, s2)) := by
          have := HU0.out
          rw [hF.out] at this
          exact this
        have HR := hR
        have HP := hP
        have HP0 := hP0
        have HB := hB
        have HI := Lib.hid hO.out.at
        have HNE1 := Lib.hid (ne_own (g := w.heap.size) hO.out.2 (by omega))
        have HO1 := Lib.hid (own_oneG hO.out.2)
        clear hR hP hP0 hB hO hF
        have hn1 : acc.length ≤ 1000 := by omega
        have hn2 : ([] : List (List UInt8)).length ≤ 1000 := Nat.zero_le _
        have HO2 : Hid ((Value.slice none 0 0).oneCell' = true) := rfl
        have HX := Lib.hid (tx_nil wr)
        have HNE2 := Lib.hid (ne_nil w.heap.size)
        have HTM : Hid (∀ t ∈ ([] : List (List UInt8)), t.length ≤ maxLen) := (fun t h => by cases h)
        have HSM : Hid (([] : List UInt8).length ≤ maxLen) := Nat.zero_le _
        go_wp2_with fail
        clear h0 hse1
        refine (RefREnd_calls b s2 _ HR.out (by omega)).mono ?_
        rintro e wy ⟨rfl, hwy⟩
        subst hwy
        obtain ⟨E, hE⟩ : ∃ E, E = rEnd s2 := ⟨_, rfl⟩
        have HE := Lib.hid hE
        rw [← hE]
        clear hE
        by_cases he : E = 0
        · subst he
          have hp0 := HP.out.cell 0 _ rfl
          have hp1 := HP.out.cell 1 _ rfl
          have hp2 := HP.out.cell 2 _ rfl
          have hp3 := HP.out.cell 3 _ rfl
          have hbz := HB.out
          by_cases hr : RightP (⟨5, [], acc, []⟩ : Pk)
          · have cR := RRight_calls (⟨5, [], acc, []⟩ : Pk) (.slice vao acc.length vc) (.slice none 0 0) wr HI.out HX.out hn1 hn2 HSM.out HTM.out true (by simpa using hr)
            have HRr := Lib.hid hr
            clear hr
            go_wp2_with fail
            refine cR.mono ?_
            rintro e w7 ⟨rfl, b7⟩
            have HP0y := Lib.hid (HP0.out.below b7 HP0.out.lt)
            have HPy := Lib.hid (HP.out.below b7 HP.out.lt)
            have hby := hbz.trans (b7.mono hbz.size)
            have HIy := Lib.hid (HI.out.below b7)
            have HXy := Lib.hid (HX.out.below b7)
            clear cR b7 hbz hp0 hp1 hp2 hp3
            have hp0 := HPy.out.cell 0 _ rfl
            have hp1 := HPy.out.cell 1 _ rfl
            have hp2 := HPy.out.cell 2 _ rfl
            have hp3 := HPy.out.cell 3 _ rfl
            go_wp2_with ((with_reducible show wpList _ _ _ (⟨none, Op.store _ (.tmp 2) _, _, _, _, _⟩ :: _) _ _); refine wpList_storeBlk rfl 107 (.tmp 2) (.tmp 96) rfl w.heap.size #[.int .i64 5, .string (str []), .slice vao acc.length vc, .slice none 0 0] (by rfl) (by rfl) _ _ HP0y.out (by exact Try.sizeRPk) (by rfl) (pk_all _ _ _ _ HO1.out HO2.out) ?_; intro w8 n8 g8)
            have hb8 := hby.grown g8 hby.size (fun q e => by cases e; exact Nat.le_refl _)
            have RES : UnRes bs w (.returned (.tuple #[.agg #[.int .i64 5, .string (str []), .slice vao acc.length vc, .slice none 0 0], .int .i64 0])) w8 := UnRes.mk (unT_right HU.out HE.out.symm HRr.out) (hashes_grownG HIy.out g8 HNE1.out) (tx_grownG HXy.out g8 HNE2.out) (hb8)
            refine ret_cellTmpG rfl w.heap.size 107 #[.int .i64 5, .string (str []), .slice vao acc.length vc, .slice none 0 0] _ (by rfl) n8 Try.underlying107 rfl (by exact Try.sizeRPk) rfl ?_
            exact RES
          · have cR := RRight_calls (⟨5, [], acc, []⟩ : Pk) (.slice vao acc.length vc) (.slice none 0 0) wr HI.out HX.out hn1 hn2 HSM.out HTM.out false (by simpa using hr)
            have HRr := Lib.hid hr
            clear hr
            go_wp2_with fail
            refine cR.mono ?_
            rintro e w7 ⟨rfl, b7⟩
            have HP0y := Lib.hid (HP0.out.below b7 HP0.out.lt)
            have hby := hbz.trans (b7.mono hbz.size)
            clear cR b7 hbz hp0 hp1 hp2 hp3
            go_wp2_with (first | ((with_reducible show wpList _ _ _ (⟨some 95, _, _, _, _, _⟩ :: _) _ _); refine wpList_buildCells rfl 107 #[] rfl pkZ Try.builtRPk0 ?_) | ((with_reducible show wpList _ _ _ (⟨none, Op.store _ (.tmp 2) _, _, _, _, _⟩ :: _) _ _); refine wpList_storeBlk rfl 107 (.tmp 2) (.tmp 95) rfl w.heap.size pkZ (by rfl) (by rfl) _ _ HP0y.out (by exact Try.sizeRPk) (by rfl) (pk_all 0 [] _ _ rfl rfl) ?_; intro w8 n8 g8))
            have hb8 := hby.grown g8 hby.size (fun q e => by cases e; exact Nat.le_refl _)
            have RES : UnRes bs w (.returned (.tuple #[.agg #[.int .i64 pk0.k, .string (str pk0.s), .slice none 0 0, .slice none 0 0], .int .i64 3])) w8 := UnRes.mk (unT_wrong HU.out HE.out.symm HRr.out) (hashes_nil _) (tx_nil _) (hb8)
            refine ret_cellTmpG rfl w.heap.size 107 #[.int .i64 pk0.k, .string (str pk0.s), .slice none 0 0, .slice none 0 0] _ (by rfl) n8 Try.underlying107 rfl (by exact Try.sizeRPk) rfl ?_
            exact RES
        · have hbz := HB.out
          have hE0 : decide (E = 0) = false := decide_eq_false he
          go_wp2_with ((with_reducible show wpList _ _ _ (⟨some 89, _, _, _, _, _⟩ :: _) _ _); refine wpList_buildCells rfl 107 #[] rfl pkZ Try.builtRPk0 ?_)
          refine (RefREnd_calls b s2 _ HR.out (by omega)).mono ?_
          rintro e wy ⟨rfl, hwy⟩
          subst hwy
          rw [← HE.out]
          go_wp2_with ((with_reducible show wpList _ _ _ (⟨none, Op.store _ (.tmp 2) _, _, _, _, _⟩ :: _) _ _); refine wpList_storeBlk rfl 107 (.tmp 2) (.tmp 89) rfl w.heap.size pkZ (by rfl) (by rfl) _ _ HP0.out (by exact Try.sizeRPk) (by rfl) (pk_all 0 [] _ _ rfl rfl) ?_; intro w8 n8 g8)
          have hb8 := hbz.grown g8 hbz.size (fun q e => by cases e; exact Nat.le_refl _)
          have RES : UnRes bs w (.returned (.tuple #[.agg #[.int .i64 pk0.k, .string (str pk0.s), .slice none 0 0, .slice none 0 0], .int .i64 E])) w8 := UnRes.mk (by rw [HE.out]; exact unT_bad HU.out (fun e => he (HE.out.trans e))) (hashes_nil _) (tx_nil _) (hb8)
          refine ret_cellTmpG rfl w.heap.size 107 #[.int .i64 pk0.k, .string (str pk0.s), .slice none 0 0, .slice none 0 0] _ (by rfl) n8 Try.underlying107 rfl (by exact Try.sizeRPk) rfl ?_
          exact RES
    · obtain rfl : N = i := by omega
      have hF : Hid (RR = (acc, (sl, se))) := by show _ = _; rw [hRe.out, Nat.sub_self]; simp [readN]
      have hF2 := hF    
      clear hF2
      obtain ⟨s2, hs2⟩ : ∃ s : RSt, s = (sl, se) := ⟨_, rfl⟩
      have hls : s2.1.length ≤ 1000000 := by rw [hs2]; exact hst
      rw [← hs2] at hF hR
      clear hRe hs2
      have HU : Hid (unK bs = (⟨5, [], acc, []⟩, s2)) := by
        have := HU0.out
        rw [hF.out] at this
        exact this
      have HR := hR
      have HP := hP
      have HP0 := hP0
      have HB := hB
      have HI := Lib.hid hO.out.at
      have HNE1 := Lib.hid (ne_own (g := w.heap.size) hO.out.2 (by omega))
      have HO1 := Lib.hid (own_oneG hO.out.2)
      clear hR hP hP0 hB hO hF
      have hn1 : acc.length ≤ 1000 := by omega
      have hn2 : ([] : List (List UInt8)).length ≤ 1000 := Nat.zero_le _
      have HO2 : Hid ((Value.slice none 0 0).oneCell' = true) := rfl
      have HX := Lib.hid (tx_nil wr)
      have HNE2 := Lib.hid (ne_nil w.heap.size)
      have HTM : Hid (∀ t ∈ ([] : List (List UInt8)), t.length ≤ maxLen) := (fun t h => by cases h)
      have HSM : Hid (([] : List UInt8).length ≤ maxLen) := Nat.zero_le _
      go_wp2_with fail
      clear h0 hse1
      refine (RefREnd_calls b s2 _ HR.out (by omega)).mono ?_
      rintro e wy ⟨rfl, hwy⟩
      subst hwy
      obtain ⟨E, hE⟩ : ∃ E, E = rEnd s2 := ⟨_, rfl⟩
      have HE := Lib.hid hE
      rw [← hE]
      clear hE
      by_cases he : E = 0
      · subst he
        have hp0 := HP.out.cell 0 _ rfl
        have hp1 := HP.out.cell 1 _ rfl
        have hp2 := HP.out.cell 2 _ rfl
        have hp3 := HP.out.cell 3 _ rfl
        have hbz := HB.out
        by_cases hr : RightP (⟨5, [], acc, []⟩ : Pk)
        · have cR := RRight_calls (⟨5, [], acc, []⟩ : Pk) (.slice vao acc.length vc) (.slice none 0 0) wr HI.out HX.out hn1 hn2 HSM.out HTM.out true (by simpa using hr)
          have HRr := Lib.hid hr
          clear hr
          go_wp2_with fail
          refine cR.mono ?_
          rintro e w7 ⟨rfl, b7⟩
          have HP0y := Lib.hid (HP0.out.below b7 HP0.out.lt)
          have HPy := Lib.hid (HP.out.below b7 HP.out.lt)
          have hby := hbz.trans (b7.mono hbz.size)
          have HIy := Lib.hid (HI.out.below b7)
          have HXy := Lib.hid (HX.out.below b7)
          clear cR b7 hbz hp0 hp1 hp2 hp3
          have hp0 := HPy.out.cell 0 _ rfl
          have hp1 := HPy.out.cell 1 _ rfl
          have hp2 := HPy.out.cell 2 _ rfl
          have hp3 := HPy.out.cell 3 _ rfl
          go_wp2_with ((with_reducible show wpList _ _ _ (⟨none, Op.store _ (.tmp 2) _, _, _, _, _⟩ :: _) _ _); refine wpList_storeBlk rfl 107 (.tmp 2) (.tmp 96) rfl w.heap.size #[.int .i64 5, .string (str []), .slice vao acc.length vc, .slice none 0 0] (by rfl) (by rfl) _ _ HP0y.out (by exact Try.sizeRPk) (by rfl) (pk_all _ _ _ _ HO1.out HO2.out) ?_; intro w8 n8 g8)
          have hb8 := hby.grown g8 hby.size (fun q e => by cases e; exact Nat.le_refl _)
          have RES : UnRes bs w (.returned (.tuple #[.agg #[.int .i64 5, .string (str []), .slice vao acc.length vc, .slice none 0 0], .int .i64 0])) w8 := UnRes.mk (unT_right HU.out HE.out.symm HRr.out) (hashes_grownG HIy.out g8 HNE1.out) (tx_grownG HXy.out g8 HNE2.out) (hb8)
          refine ret_cellTmpG rfl w.heap.size 107 #[.int .i64 5, .string (str []), .slice vao acc.length vc, .slice none 0 0] _ (by rfl) n8 Try.underlying107 rfl (by exact Try.sizeRPk) rfl ?_
          exact RES
        · have cR := RRight_calls (⟨5, [], acc, []⟩ : Pk) (.slice vao acc.length vc) (.slice none 0 0) wr HI.out HX.out hn1 hn2 HSM.out HTM.out false (by simpa using hr)
          have HRr := Lib.hid hr
          clear hr
          go_wp2_with fail
          refine cR.mono ?_
          rintro e w7 ⟨rfl, b7⟩
          have HP0y := Lib.hid (HP0.out.below b7 HP0.out.lt)
          have hby := hbz.trans (b7.mono hbz.size)
          clear cR b7 hbz hp0 hp1 hp2 hp3
          go_wp2_with (first | ((with_reducible show wpList _ _ _ (⟨some 95, _, _, _, _, _⟩ :: _) _ _); refine wpList_buildCells rfl 107 #[] rfl pkZ Try.builtRPk0 ?_) | ((with_reducible show wpList _ _ _ (⟨none, Op.store _ (.tmp 2) _, _, _, _, _⟩ :: _) _ _); refine wpList_storeBlk rfl 107 (.tmp 2) (.tmp 95) rfl w.heap.size pkZ (by rfl) (by rfl) _ _ HP0y.out (by exact Try.sizeRPk) (by rfl) (pk_all 0 [] _ _ rfl rfl) ?_; intro w8 n8 g8))
          have hb8 := hby.grown g8 hby.size (fun q e => by cases e; exact Nat.le_refl _)
          have RES : UnRes bs w (.returned (.tuple #[.agg #[.int .i64 pk0.k, .string (str pk0.s), .slice none 0 0, .slice none 0 0], .int .i64 3])) w8 := UnRes.mk (unT_wrong HU.out HE.out.symm HRr.out) (hashes_nil _) (tx_nil _) (hb8)
          refine ret_cellTmpG rfl w.heap.size 107 #[.int .i64 pk0.k, .string (str pk0.s), .slice none 0 0, .slice none 0 0] _ (by rfl) n8 Try.underlying107 rfl (by exact Try.sizeRPk) rfl ?_
          exact RES
      · have hbz := HB.out
        have hE0 : decide (E = 0) = false := decide_eq_false he
        go_wp2_with ((with_reducible show wpList _ _ _ (⟨some 89, _, _, _, _, _⟩ :: _) _ _); refine wpList_buildCells rfl 107 #[] rfl pkZ Try.builtRPk0 ?_)
        refine (RefREnd_calls b s2 _ HR.out (by omega)).mono ?_
        rintro e wy ⟨rfl, hwy⟩
        subst hwy
        rw [← HE.out]
        go_wp2_with ((with_reducible show wpList _ _ _ (⟨none, Op.store _ (.tmp 2) _, _, _, _, _⟩ :: _) _ _); refine wpList_storeBlk rfl 107 (.tmp 2) (.tmp 89) rfl w.heap.size pkZ (by rfl) (by rfl) _ _ HP0.out (by exact Try.sizeRPk) (by rfl) (pk_all 0 [] _ _ rfl rfl) ?_; intro w8 n8 g8)
        have hb8 := hbz.grown g8 hbz.size (fun q e => by cases e; exact Nat.le_refl _)
        have RES : UnRes bs w (.returned (.tuple #[.agg #[.int .i64 pk0.k, .string (str pk0.s), .slice none 0 0, .slice none 0 0], .int .i64 E])) w8 := UnRes.mk (by rw [HE.out]; exact unT_bad HU.out (fun e => he (HE.out.trans e))) (hashes_nil _) (tx_nil _) (hb8)
        refine ret_cellTmpG rfl w.heap.size 107 #[.int .i64 pk0.k, .string (str pk0.s), .slice none 0 0, .slice none 0 0] _ (by rfl) n8 Try.underlying107 rfl (by exact Try.sizeRPk) rfl ?_
        exact RES
set_option maxHeartbeats 40000000 in
set_option maxRecDepth 100000 in
theorem RUnpack6 (bs : List UInt8) (w : World) (hbs : bs.length ≤ 1000000) (hkk : (rNum 6 (bs, 0)).1 = 6) : Calls Try.prog 63 #[.string (str bs)] w (UnRes bs w) := by
  obtain ⟨k, hk⟩ : ∃ k, k = (rNum 6 (bs, 0)).1 := ⟨_, rfl⟩
  obtain ⟨s1, hs1⟩ : ∃ s, s = (rNum 6 (bs, 0)).2 := ⟨_, rfl⟩
  have HK : Hid (unK bs = unB k s1) := by show _ = _; rw [hk, hs1]; rfl
  have hkA : 0 ≤ k := by rw [hk]; exact rNum_nonneg 6 (bs, 0)
  have hkB : k ≤ 6 := by rw [hk]; exact rNum_le 6 (by omega) (bs, 0)
  have hs9 : s1.1.length ≤ 1000000 := by rw [hs1]; exact Nat.le_trans (rNum_len 6 (bs, 0)) hbs
  have cN : ∀ (b : Nat) (y : World), RefIs y b (bs, 0) → Calls Try.prog 129 #[.pointer (some ⟨b, 0, none⟩), .int .i64 6] y fun e w' => e = .returned (.int .i64 k) ∧ RefIs w' b s1 ∧ y.grownBy w' (some b) := fun b y hy => by
    rw [hk, hs1]; exact RefRNum_calls b (bs, 0) 6 y hy (by show bs.length ≤ _; omega)
  obtain rfl : k = 6 := hk.trans hkk
  clear hk hs1 hkA hkB hkk
  go_enter Try.func63, Try.ntmps63
  go_wp2_with (first | ((with_reducible show wpList _ _ _ (⟨some 2, _, _, _, _, _⟩ :: _) _ _); refine wpList_allocZ rfl 107 rfl _ Try.zeroRPk ?_; intro wa sa ba na; have HSA := Lib.hid sa; clear sa) | ((with_reducible show wpList _ _ _ (⟨some 11, _, _, _, _, _⟩ :: _) _ _); refine wpList_buildCells rfl 200 #[(0, .tmp 10)] rfl #[.string (str bs), .int .i64 0] (Try.builtRefG bs) ?_) | ((with_reducible show wpList _ _ _ (⟨some 13, _, _, _, _, _⟩ :: _) _ _); refine wpList_buildCells rfl 107 #[] rfl pkZ Try.builtRPk0 ?_) | ((with_reducible show wpList _ _ _ (⟨some 5, _, _, _, _, _⟩ :: _) _ _); refine wpList_allocZ rfl 107 rfl _ Try.zeroRPk ?_; intro we se be ne; have sa := HSA.out; obtain ⟨b, hbb⟩ : ∃ b, b = wa.heap.size := ⟨_, rfl⟩; obtain ⟨pb, hpb⟩ : ∃ p, p = (wa.alloc (.cells #[.string (str bs), .int .i64 0] 200)).heap.size := ⟨_, rfl⟩; have hpbb : pb = b + 1 := (by rw [hpb, hbb]; simp); have hRe : RefIs we b (bs, 0) := (Blk.below (B := pb) (by rw [hbb]; exact Blk.new _ _ _) (by rw [hpb]; exact be) (by omega)); have hP0e := (na.alloc (.cells #[.string (str bs), .int .i64 0] 200)).below be (by simp; omega); have hBe := (ba.alloc ba.size (.cells #[.string (str bs), .int .i64 0] 200)).trans (be.mono (by simp; omega)); have hRb : w.heap.size < b := (by omega); rw [← hpb] at ne se ⊢; rw [← hbb]; have hsb : b < pb := (by omega); clear na ba be hpb hbb sa hpbb HSA) | ((with_reducible show wpList _ _ _ (⟨none, Op.store _ (.tmp 5) _, _, _, _, _⟩ :: _) _ _); refine wpList_storeBlk rfl 107 (.tmp 5) (.tmp 13) rfl pb pkZ (by rfl) (by rfl) _ _ ne (by exact Try.sizeRPk) (by rfl) (pk_all 0 [] _ _ rfl rfl) ?_; intro wf hPf gf; have HR := Blk.grown hRe gf (by simp; omega); have HP0 := hP0e.grown gf (by simp; omega); have HB := hBe.grown gf (by have := hBe.size; omega) (fun q e => by cases e; omega); have hsf : pb < wf.heap.size := (by have := gf.size; omega); clear hRe hP0e hBe ne gf se))
  refine (cN b _ HR).mono ?_
  rintro e wg ⟨rfl, hrg, gg⟩
  have hPg := hPf.grown gg (by simp; omega)
  have hP0g := HP0.grown gg (by simp; omega)
  have hBg := HB.grown gg (by have := HB.size; omega) (fun q e => by cases e; omega)
  have hsg : pb < wg.heap.size := by have := gg.size; omega
  clear HR HP0 HB hPf gg cN hsf
  obtain ⟨wz, hwz⟩ : ∃ z, z = wg.setCell ⟨pb, 0, none⟩ (.int .i64 6) := ⟨_, rfl⟩
  have hp0 := hPg.cell 0 _ rfl
  have hf0 := hPg.free 0
  have HR : Hid (RefIs wz b s1) := by show RefIs _ _ _; rw [hwz]; exact Blk.setOther hrg _ _ (by show b ≠ pb; omega)
  have HP0 : Hid (Blk wz w.heap.size pkZ 107) := by show Blk _ _ _ _; rw [hwz]; exact hP0g.setOther _ _ (by show w.heap.size ≠ pb; omega)
  have hgz : wg.grownBy wz (some pb) := by rw [hwz]; exact Lib.grownBy_setCell wg pb 0 _
  have HB : Hid (Below w.heap.size w wz) := hBg.grown hgz hBg.size (fun q e => by cases e; omega)
  have hPz := hPg.set 0 (.int .i64 6)
  rw [← hwz] at hPz
  have hsz2 : pb < wz.heap.size := by have := hgz.size; omega
  have HP : Hid (Blk wz pb #[.int .i64 6, .string (str []), .slice none 0 0, .slice none 0 0] 107) := hPz
  have h0 : (wg.setCell ⟨pb, 0, none⟩ (.int .i64 6)).cell? ⟨pb, 0, none⟩ = some (.int .i64 6) := by rw [← hwz]; exact HP.out.cell 0 _ rfl
  have HWZ := Lib.hid hwz
  clear hwz hrg hP0g hBg hPg hPz hgz hsg
  go_wp2_with fail
  rw [← HWZ.out]
  clear HWZ h0 hp0 hf0
  refine (RefRNum_calls b s1 64 _ HR.out (by omega)).mono ?_
  rintro e wh ⟨rfl, hrh, gh⟩
  have hl0 := rNum_len 64 s1
  have hn0 := rNum_nonneg 64 s1
  have hl2 := rNum_le 64 (by omega) s1
  have HU0 : Hid (unK bs = (⟨6, [], [], (readN rTx (rNum 64 s1).1.toNat (rNum 64 s1).2).1⟩, (readN rTx (rNum 64 s1).1.toNat (rNum 64 s1).2).2)) := by show _ = _; rw [HK.out, unB_6]
  obtain ⟨N, hN⟩ : ∃ N, N = (rNum 64 s1).1.toNat := ⟨_, rfl⟩
  have HNI : Hid ((rNum 64 s1).1 = (N : Int)) := by show _ = _; omega
  obtain ⟨s0, hs0⟩ : ∃ s0, s0 = (rNum 64 s1).2 := ⟨_, rfl⟩
  rw [HNI.out]
  rw [← hs0] at hrh hl0 HU0
  rw [← hN] at HU0
  have hN9 : N ≤ 64 := by omega
  have hs09 : s0.1.length ≤ 1000000 := by omega
  clear hl0 hn0 hl2 hN hs0 HNI
  obtain ⟨RR, hRR⟩ : ∃ R, R = readN rTx N s0 := ⟨_, rfl⟩
  rw [← hRR] at HU0
  have HRR := Lib.hid hRR
  clear hRR
  have hPh := Lib.hid (HP.out.grown gh (by simp; omega))
  have hP0h := Lib.hid (HP0.out.grown gh (by simp; omega))
  have hBh := Lib.hid (HB.out.grown gh (by have := HB.out.size; omega) (fun q e => by cases e; omega))
  have hsh : pb < wh.heap.size := by have := gh.size; omega
  have hRh := Lib.hid hrh
  clear HR HP HP0 HB gh hsz2 hrh
  go_wp2_with fail
  go_loopw [9] (fun iv wr => ∃ (i : Nat) (acc : List (List UInt8)) (st : RSt) (v : Value), i ≤ N ∧ iv = .int .i64 i ∧ st.1.length ≤ 1000000 ∧ acc.length ≤ i ∧ pb < wr.heap.size ∧ Hid (RR = (acc ++ (readN rTx (N - i) st).1, (readN rTx (N - i) st).2)) ∧ Hid (RefIs wr b st) ∧ Hid (Blk wr pb #[.int .i64 6, .string (str []), .slice none 0 0, v] 107) ∧ Hid (Blk wr w.heap.size pkZ 107) ∧ Hid (TxOwn wr (pb + 1) 9 v acc) ∧ Hid (Below w.heap.size w wr)) (fun iv _ => N - (intOf iv).toNat)
  case atStart => exact ⟨0, [], s0, _, by omega, rfl, hs09, by simp, hsh, Lib.hid (by rw [HRR.out]; simp), hRh, hPh, hP0h, Lib.hid (ROwn.nil _ _ _), hBh⟩
  case round =>
    obtain ⟨i, acc, st, v, hi, rfl, hst, hal, hsr, hRe, hR, hP, hP0, hO, hB⟩ := hrel
    clear hRh hPh hP0h hBh hsh
    obtain ⟨vao, vc, rfl⟩ := ROwn.slice hO.out
    obtain ⟨sl, se⟩ := st
    have h0 := hP.out.cell 0 _ rfl
    have hse1 := refIs_err hR.out
    by_cases hlt : i < N
    · by_cases hse : se = 0
      · subst hse
        obtain ⟨j, hj⟩ : ∃ j, j = N - (i + 1) := ⟨_, rfl⟩
        have hF : Hid (RR = ((acc ++ [(rTx (sl, 0)).1]) ++ (readN rTx (N - (i + 1)) (rTx (sl, 0)).2).1, (readN rTx (N - (i + 1)) (rTx (sl, 0)).2).2)) := by
          show _ = _
          rw [hRe.out, show N - i = (N - (i + 1)) + 1 by omega, readN_succ _ _ _ rfl]; simp
        have hlf : (rTx (sl, 0)).2.1.length ≤ 1000000 := Nat.le_trans (rTx_left (sl, 0)) hst
        have hxl : (rTx (sl, 0)).1.length ≤ 65536 := rTx_len _
        obtain ⟨x, hx⟩ : ∃ x, x = (rTx (sl, 0)).1 := ⟨_, rfl⟩
        obtain ⟨st2, hst2⟩ : ∃ st, st = (rTx (sl, 0)).2 := ⟨_, rfl⟩
        have c1 : ∀ y, RefIs y b (sl, 0) → Calls Try.prog 131 #[.pointer (some ⟨b, 0, none⟩), .int .i64 65536] y fun e w' => e = .returned (.string (str x)) ∧ RefIs w' b st2 ∧ y.grownBy w' (some b) := fun y hy => by
          rw [hx, hst2]
          exact RefRText_calls b (sl, 0) 65536 y hy (by show sl.length ≤ _; have : sl.length ≤ 1000000 := hst; omega)
        rw [← hx, ← hst2] at hF
        rw [← hst2] at hlf
        rw [← hx] at hxl
        clear hj hRe hx hst2
        have hR3 : RefIs wr.drew b (sl, 0) := hR.out
        have hP3 := hP.out.drew
        have hP03 := hP0.out.drew
        have hO3 := hO.out.drew
        have hb3 := hB.out
        have hz0 : pb < wr.drew.heap.size := hsr
        go_wp2_with fail
        clear h0 hse1 hR hP hP0 hO hB
        · skip
          refine wp_region_held_drew (S := fun x => Below w.heap.size w x) (by kernel_rfl) (below_drewN hb3 1) (fun hSq219 => ?_)
          refine wpAnyH_take (i := 0) (v := .pointer (some ⟨pb, 3, none⟩)) rfl (by kernel_rfl) (by kernel_rfl) (by kernel_rfl) (fun _ _ _ h => h) (Or.inl ⟨by rfl, fun x hx => by go_simp⟩) hSq219 ?_
          simp only [Act.put, List.getElem_toArray, List.getElem_cons_zero, List.getElem_cons_succ, List.setIfInBounds_toArray, List.set_cons_zero, List.set_cons_succ]
          refine wpAnyH_take (i := 2) (v := .pointer (some ⟨b, 0, none⟩)) rfl (by kernel_rfl) (by kernel_rfl) (by kernel_rfl) (fun _ _ _ h => h) (Or.inl ⟨by rfl, fun x hx => by go_simp⟩) hSq219 ?_
          simp only [Act.put, List.getElem_toArray, List.getElem_cons_zero, List.getElem_cons_succ, List.setIfInBounds_toArray, List.set_cons_zero, List.set_cons_succ]
          refine wpAnyH_ready (rs := [1, 3]) (by kernel_rfl) (by simp) ?_
          refine AllReadyH.cons rfl (fun K hK => ?_) ?_
          · have hcq220 := hP3.cell 3 _ rfl
            go_simp
            clear hcq220
            refine hK.out _ _ hSq219 (fun hSq221 => ?_)
            clear hK K hSq219
            refine wpAnyH_ready (rs := [3]) (by kernel_rfl) (by simp) ?_
            refine AllReadyH.cons rfl (fun K hK => ?_) AllReadyH.nil
            go_simp
            go_wp2_with (go_at_call 131; refine (c1 _ hR3).mono ?_; rintro e yq222 ⟨rfl, hq223, gq224⟩)
            have hPq226 := hP3.grown gq224 (by simp; omega)
            have hP0q227 := hP03.grown gq224 (by simp; omega)
            have hOq228 := hO3.kept gq224 (.inr (fun e => by have := (hO3.lt _ e).1; omega))
            have hzq229 := gq224.size
            refine hK.out _ _ (hSq221.grown gq224 hSq221.size (fun q e => by cases e; omega)) (fun hSq225 => ?_)
            clear hK K hSq221 gq224 hR3 hP3 hP03 hO3
            refine wpAnyH_ready (rs := [4]) (by kernel_rfl) (by simp) ?_
            refine AllReadyH.cons rfl (fun K hK => ?_) AllReadyH.nil
            rw [if_pos (by rfl)]
            refine wp_bsV 83 9 (.tmp 82) rfl (.string (str x)) (by rfl) Try.underlying83 (.string ⟨#[]⟩) 1 Try.infoTx2 (by rfl) (by omega) (by omega) ?_
            intro wq231 sq233 bq234 nq235
            have hRq237 := refIs_below hq223 bq234
            have hPq238 := hPq226.below bq234 hPq226.lt
            have hP0q239 := hP0q227.below bq234 hP0q227.lt
            have hOq240 := hOq228.below bq234
            have hzq241 := bq234.size
            refine hK.out _ _ (hSq225.trans (bq234.mono hSq225.size)) (fun hSq236 => ?_)
            clear hK K hSq225 bq234 sq233 hq223 hPq226 hP0q227 hOq228
            refine wpAnyH_ready (rs := [5]) (by kernel_rfl) (by simp) ?_
            refine AllReadyH.cons rfl (fun K hK => ?_) AllReadyH.nil
            rw [if_pos (by rfl)]
            refine wp_append_R (.tmp 80) (.tmp 83) 83 rfl sCells_len sCells_one (pb + 1) 9 (.string ⟨#[]⟩) 16 Try.underlying83 Try.infoTx (by rfl) (by omega) (by omega) _ acc [x] (by rfl) hOq240 _ (by rfl) (RAt.blk nq235) (by intro _ e; cases e) (by simp; omega) (by omega) ?_
            intro vq242 wq243 hkq244 gq245
            have hRq247 := refIs_grownO hRq237 gq245 (fun q e => by have := (hOq240.lt _ e).1; omega)
            have hPq248 := hPq238.grown gq245 (fun e => by have := (hOq240.lt _ e.symm).1; omega)
            have hP0q249 := hP0q239.grown gq245 (fun e => by have := (hOq240.lt _ e.symm).1; omega)
            have hzq250 := gq245.size
            obtain ⟨ao9, c9, rfl⟩ := ROwn.slice hkq244
            refine hK.out _ _ (hSq236.grown gq245 hSq236.size (fun q e => by have := (hOq240.lt _ e).1; omega)) (fun hSq246 => ?_)
            clear hK K hSq236 gq245 nq235 hRq237 hPq238 hP0q239 hOq240
            refine wpAnyH_take (i := 6) (v := .pointer (some ⟨pb, 3, none⟩)) rfl (by kernel_rfl) (by kernel_rfl) (by kernel_rfl) (fun _ _ _ h => h) (Or.inl ⟨by rfl, fun x hx => by go_simp⟩) hSq246 ?_
            simp only [Act.put, List.getElem_toArray, List.getElem_cons_zero, List.getElem_cons_succ, List.setIfInBounds_toArray, List.set_cons_zero, List.set_cons_succ]
            refine wpAnyH_ready (rs := [7]) (by kernel_rfl) (by simp) ?_
            refine AllReadyH.cons rfl (fun K hK => ?_) AllReadyH.nil
            have hcq251 := hPq248.cell 3 _ rfl
            have hfq252 := hPq248.free 3
            go_simp
            clear hcq251 hfq252
            obtain ⟨wnq254, hwq255⟩ : ∃ z, z = wq243.setCell ⟨pb, 3, none⟩ (.slice ao9 (acc ++ [x]).length c9) := ⟨_, rfl⟩
            have hgz : wq243.grownBy wnq254 (some pb) := by rw [hwq255]; exact Lib.grownBy_setCell wq243 pb 3 _
            have hR5 : RefIs wnq254 b st2 := Blk.grown hRq247 hgz (by simp; omega)
            have hP05 := hP0q249.grown hgz (by simp; omega)
            have hP5 : Blk wnq254 pb #[.int .i64 6, .string (str []), .slice none 0 0, .slice ao9 (acc ++ [x]).length c9] 107 := by rw [hwq255]; exact hPq248.set 3 _
            have hO5 := hkq244.kept hgz (.inr (fun e => by have := (hkq244.lt _ e).1; omega))
            have hs5 := hgz.size
            skip
            have hstwnq254 : wq243.setCell ⟨pb, 3, none⟩ (.slice ao9 (acc ++ [x]).length c9) = wnq254 := hwq255.symm
            first | rw [hstwnq254] | (rw [show (acc.length + 1) = (acc ++ [x]).length from by simp]; rw [hstwnq254])
            clear hwq255 hstwnq254
            refine hK.out _ _ (hSq246.grown hgz hSq246.size (fun q e => by cases e; omega)) (fun hSq253 => ?_)
            clear hK K hSq246 hgz hRq247 hPq248 hP0q249 hkq244
            refine wpAnyH_done (by kernel_rfl) ?_ _
            have HR5 := Lib.hid hR5
            have HP5 := Lib.hid hP5
            have HP05 := Lib.hid hP05
            have HO5 := Lib.hid hO5
            have HB5 := Lib.hid hSq253
            have hsz5 : pb < wnq254.heap.size := by omega
            clear hR5 hP5 hP05 hO5 hSq253 hz0 hzq229 hzq241 hzq250 hs5 c1 hxl
            go_wp2_with fail
            go_roundw
            case rel => exact ⟨i + 1, acc ++ [x], st2, _, by omega, by go_num, hlf, by simp; omega, hsz5, hF, HR5, HP5, HP05, HO5, HB5⟩
            case measure => simp [intOf]; omega
          refine AllReadyH.cons rfl (fun K hK => ?_) AllReadyH.nil
          go_simp
          go_wp2_with (go_at_call 131; refine (c1 _ hR3).mono ?_; rintro e yq256 ⟨rfl, hq257, gq258⟩)
          have hPq260 := hP3.grown gq258 (by simp; omega)
          have hP0q261 := hP03.grown gq258 (by simp; omega)
          have hOq262 := hO3.kept gq258 (.inr (fun e => by have := (hO3.lt _ e).1; omega))
          have hzq263 := gq258.size
          refine hK.out _ _ (hSq219.grown gq258 hSq219.size (fun q e => by cases e; omega)) (fun hSq259 => ?_)
          clear hK K hSq219 gq258 hR3 hP3 hP03 hO3
          refine wpAnyH_ready (rs := [1, 4]) (by kernel_rfl) (by simp) ?_
          refine AllReadyH.cons rfl (fun K hK => ?_) ?_
          · have hcq264 := hPq260.cell 3 _ rfl
            go_simp
            clear hcq264
            refine hK.out _ _ hSq259 (fun hSq265 => ?_)
            clear hK K hSq259
            refine wpAnyH_ready (rs := [4]) (by kernel_rfl) (by simp) ?_
            refine AllReadyH.cons rfl (fun K hK => ?_) AllReadyH.nil
            rw [if_pos (by rfl)]
            refine wp_bsV 83 9 (.tmp 82) rfl (.string (str x)) (by rfl) Try.underlying83 (.string ⟨#[]⟩) 1 Try.infoTx2 (by rfl) (by omega) (by omega) ?_
            intro wq267 sq269 bq270 nq271
            have hRq273 := refIs_below hq257 bq270
            have hPq274 := hPq260.below bq270 hPq260.lt
            have hP0q275 := hP0q261.below bq270 hP0q261.lt
            have hOq276 := hOq262.below bq270
            have hzq277 := bq270.size
            refine hK.out _ _ (hSq265.trans (bq270.mono hSq265.size)) (fun hSq272 => ?_)
            clear hK K hSq265 bq270 sq269 hq257 hPq260 hP0q261 hOq262
            refine wpAnyH_ready (rs := [5]) (by kernel_rfl) (by simp) ?_
            refine AllReadyH.cons rfl (fun K hK => ?_) AllReadyH.nil
            rw [if_pos (by rfl)]
            refine wp_append_R (.tmp 80) (.tmp 83) 83 rfl sCells_len sCells_one (pb + 1) 9 (.string ⟨#[]⟩) 16 Try.underlying83 Try.infoTx (by rfl) (by omega) (by omega) _ acc [x] (by rfl) hOq276 _ (by rfl) (RAt.blk nq271) (by intro _ e; cases e) (by simp; omega) (by omega) ?_
            intro vq278 wq279 hkq280 gq281
            have hRq283 := refIs_grownO hRq273 gq281 (fun q e => by have := (hOq276.lt _ e).1; omega)
            have hPq284 := hPq274.grown gq281 (fun e => by have := (hOq276.lt _ e.symm).1; omega)
            have hP0q285 := hP0q275.grown gq281 (fun e => by have := (hOq276.lt _ e.symm).1; omega)
            have hzq286 := gq281.size
            obtain ⟨ao9, c9, rfl⟩ := ROwn.slice hkq280
            refine hK.out _ _ (hSq272.grown gq281 hSq272.size (fun q e => by have := (hOq276.lt _ e).1; omega)) (fun hSq282 => ?_)
            clear hK K hSq272 gq281 nq271 hRq273 hPq274 hP0q275 hOq276
            refine wpAnyH_take (i := 6) (v := .pointer (some ⟨pb, 3, none⟩)) rfl (by kernel_rfl) (by kernel_rfl) (by kernel_rfl) (fun _ _ _ h => h) (Or.inl ⟨by rfl, fun x hx => by go_simp⟩) hSq282 ?_
            simp only [Act.put, List.getElem_toArray, List.getElem_cons_zero, List.getElem_cons_succ, List.setIfInBounds_toArray, List.set_cons_zero, List.set_cons_succ]
            refine wpAnyH_ready (rs := [7]) (by kernel_rfl) (by simp) ?_
            refine AllReadyH.cons rfl (fun K hK => ?_) AllReadyH.nil
            have hcq287 := hPq284.cell 3 _ rfl
            have hfq288 := hPq284.free 3
            go_simp
            clear hcq287 hfq288
            obtain ⟨wnq290, hwq291⟩ : ∃ z, z = wq279.setCell ⟨pb, 3, none⟩ (.slice ao9 (acc ++ [x]).length c9) := ⟨_, rfl⟩
            have hgz : wq279.grownBy wnq290 (some pb) := by rw [hwq291]; exact Lib.grownBy_setCell wq279 pb 3 _
            have hR5 : RefIs wnq290 b st2 := Blk.grown hRq283 hgz (by simp; omega)
            have hP05 := hP0q285.grown hgz (by simp; omega)
            have hP5 : Blk wnq290 pb #[.int .i64 6, .string (str []), .slice none 0 0, .slice ao9 (acc ++ [x]).length c9] 107 := by rw [hwq291]; exact hPq284.set 3 _
            have hO5 := hkq280.kept hgz (.inr (fun e => by have := (hkq280.lt _ e).1; omega))
            have hs5 := hgz.size
            skip
            have hstwnq290 : wq279.setCell ⟨pb, 3, none⟩ (.slice ao9 (acc ++ [x]).length c9) = wnq290 := hwq291.symm
            first | rw [hstwnq290] | (rw [show (acc.length + 1) = (acc ++ [x]).length from by simp]; rw [hstwnq290])
            clear hwq291 hstwnq290
            refine hK.out _ _ (hSq282.grown hgz hSq282.size (fun q e => by cases e; omega)) (fun hSq289 => ?_)
            clear hK K hSq282 hgz hRq283 hPq284 hP0q285 hkq280
            refine wpAnyH_done (by kernel_rfl) ?_ _
            have HR5 := Lib.hid hR5
            have HP5 := Lib.hid hP5
            have HP05 := Lib.hid hP05
            have HO5 := Lib.hid hO5
            have HB5 := Lib.hid hSq289
            have hsz5 : pb < wnq290.heap.size := by omega
            clear hR5 hP5 hP05 hO5 hSq289 hz0 hzq263 hzq277 hzq286 hs5 c1 hxl
            go_wp2_with fail
            go_roundw
            case rel => exact ⟨i + 1, acc ++ [x], st2, _, by omega, by go_num, hlf, by simp; omega, hsz5, hF, HR5, HP5, HP05, HO5, HB5⟩
            case measure => simp [intOf]; omega
          refine AllReadyH.cons rfl (fun K hK => ?_) AllReadyH.nil
          rw [if_pos (by rfl)]
          refine wp_bsV 83 9 (.tmp 82) rfl (.string (str x)) (by rfl) Try.underlying83 (.string ⟨#[]⟩) 1 Try.infoTx2 (by rfl) (by omega) (by omega) ?_
          intro wq293 sq295 bq296 nq297
          have hRq299 := refIs_below hq257 bq296
          have hPq300 := hPq260.below bq296 hPq260.lt
          have hP0q301 := hP0q261.below bq296 hP0q261.lt
          have hOq302 := hOq262.below bq296
          have hzq303 := bq296.size
          refine hK.out _ _ (hSq259.trans (bq296.mono hSq259.size)) (fun hSq298 => ?_)
          clear hK K hSq259 bq296 sq295 hq257 hPq260 hP0q261 hOq262
          refine wpAnyH_ready (rs := [1]) (by kernel_rfl) (by simp) ?_
          refine AllReadyH.cons rfl (fun K hK => ?_) AllReadyH.nil
          have hcq304 := hPq300.cell 3 _ rfl
          go_simp
          clear hcq304
          refine hK.out _ _ hSq298 (fun hSq305 => ?_)
          clear hK K hSq298
          refine wpAnyH_ready (rs := [5]) (by kernel_rfl) (by simp) ?_
          refine AllReadyH.cons rfl (fun K hK => ?_) AllReadyH.nil
          rw [if_pos (by rfl)]
          refine wp_append_R (.tmp 80) (.tmp 83) 83 rfl sCells_len sCells_one (pb + 1) 9 (.string ⟨#[]⟩) 16 Try.underlying83 Try.infoTx (by rfl) (by omega) (by omega) _ acc [x] (by rfl) hOq302 _ (by rfl) (RAt.blk nq297) (by intro _ e; cases e) (by simp; omega) (by omega) ?_
          intro vq306 wq307 hkq308 gq309
          have hRq311 := refIs_grownO hRq299 gq309 (fun q e => by have := (hOq302.lt _ e).1; omega)
          have hPq312 := hPq300.grown gq309 (fun e => by have := (hOq302.lt _ e.symm).1; omega)
          have hP0q313 := hP0q301.grown gq309 (fun e => by have := (hOq302.lt _ e.symm).1; omega)
          have hzq314 := gq309.size
          obtain ⟨ao9, c9, rfl⟩ := ROwn.slice hkq308
          refine hK.out _ _ (hSq305.grown gq309 hSq305.size (fun q e => by have := (hOq302.lt _ e).1; omega)) (fun hSq310 => ?_)
          clear hK K hSq305 gq309 nq297 hRq299 hPq300 hP0q301 hOq302
          refine wpAnyH_take (i := 6) (v := .pointer (some ⟨pb, 3, none⟩)) rfl (by kernel_rfl) (by kernel_rfl) (by kernel_rfl) (fun _ _ _ h => h) (Or.inl ⟨by rfl, fun x hx => by go_simp⟩) hSq310 ?_
          simp only [Act.put, List.getElem_toArray, List.getElem_cons_zero, List.getElem_cons_succ, List.setIfInBounds_toArray, List.set_cons_zero, List.set_cons_succ]
          refine wpAnyH_ready (rs := [7]) (by kernel_rfl) (by simp) ?_
          refine AllReadyH.cons rfl (fun K hK => ?_) AllReadyH.nil
          have hcq315 := hPq312.cell 3 _ rfl
          have hfq316 := hPq312.free 3
          go_simp
          clear hcq315 hfq316
          obtain ⟨wnq318, hwq319⟩ : ∃ z, z = wq307.setCell ⟨pb, 3, none⟩ (.slice ao9 (acc ++ [x]).length c9) := ⟨_, rfl⟩
          have hgz : wq307.grownBy wnq318 (some pb) := by rw [hwq319]; exact Lib.grownBy_setCell wq307 pb 3 _
          have hR5 : RefIs wnq318 b st2 := Blk.grown hRq311 hgz (by simp; omega)
          have hP05 := hP0q313.grown hgz (by simp; omega)
          have hP5 : Blk wnq318 pb #[.int .i64 6, .string (str []), .slice none 0 0, .slice ao9 (acc ++ [x]).length c9] 107 := by rw [hwq319]; exact hPq312.set 3 _
          have hO5 := hkq308.kept hgz (.inr (fun e => by have := (hkq308.lt _ e).1; omega))
          have hs5 := hgz.size
          skip
          have hstwnq318 : wq307.setCell ⟨pb, 3, none⟩ (.slice ao9 (acc ++ [x]).length c9) = wnq318 := hwq319.symm
          first | rw [hstwnq318] | (rw [show (acc.length + 1) = (acc ++ [x]).length from by simp]; rw [hstwnq318])
          clear hwq319 hstwnq318
          refine hK.out _ _ (hSq310.grown hgz hSq310.size (fun q e => by cases e; omega)) (fun hSq317 => ?_)
          clear hK K hSq310 hgz hRq311 hPq312 hP0q313 hkq308
          refine wpAnyH_done (by kernel_rfl) ?_ _
          have HR5 := Lib.hid hR5
          have HP5 := Lib.hid hP5
          have HP05 := Lib.hid hP05
          have HO5 := Lib.hid hO5
          have HB5 := Lib.hid hSq317
          have hsz5 : pb < wnq318.heap.size := by omega
          clear hR5 hP5 hP05 hO5 hSq317 hz0 hzq263 hzq303 hzq314 hs5 c1 hxl
          go_wp2_with fail
          go_roundw
          case rel => exact ⟨i + 1, acc ++ [x], st2, _, by omega, by go_num, hlf, by simp; omega, hsz5, hF, HR5, HP5, HP05, HO5, HB5⟩
          case measure => simp [intOf]; omega
      · have hF : Hid (RR = (acc, (sl, se))) := by show _ = _; rw [hRe.out, readN_stop _ _ _ hse]; simp
        have hF2 := hF
        have hd : decide (se = 0) = false := decide_eq_false hse      
        have HTM : Hid (∀ t ∈ acc, t.length ≤ maxLen) := fun t ht => (readN_all rTx (fun t => t.length ≤ maxLen) (fun s => by have := rTx_len s; unfold maxLen; omega) N s0) t (by have := HRR.out; rw [hF2.out] at this; rw [← show acc = (readN rTx N s0).1 from congrArg Prod.fst this]; exact ht)
        clear hF2
        obtain ⟨s2, hs2⟩ : ∃ s : RSt, s = (sl, se) := ⟨_, rfl⟩
        have hls : s2.1.length ≤ 1000000 := by rw [hs2]; exact hst
        rw [← hs2] at hF hR
        clear hRe hs2
        have HU : Hid (unK bs = (⟨6, [], [], acc⟩, s2)) := by
          have := HU0.out
          rw [hF.out] at this
          exact this
        have HR := hR
        have HP := hP
        have HP0 := hP0
        have HB := hB
        have HX := Lib.hid hO.out.at
        have HNE2 := Lib.hid (ne_own (g := w.heap.size) hO.out (by omega))
        have HO2 := Lib.hid (own_oneG hO.out)
        clear hR hP hP0 hB hO hF
        have hn1 : ([] : List HsT).length ≤ 1000 := Nat.zero_le _
        have hn2 : acc.length ≤ 1000 := by omega
        have HO1 : Hid ((Value.slice none 0 0).oneCell' = true) := rfl
        have HI := Lib.hid (hashes_nil wr)
        have HNE1 := Lib.hid (ne_nil w.heap.size)
        have HSM : Hid (([] : List UInt8).length ≤ maxLen) := Nat.zero_le _
        go_wp2_with fail
        clear h0 hse1
        refine (RefREnd_calls b s2 _ HR.out (by omega)).mono ?_
        rintro e wy ⟨rfl, hwy⟩
        subst hwy
        obtain ⟨E, hE⟩ : ∃ E, E = rEnd s2 := ⟨_, rfl⟩
        have HE := Lib.hid hE
        rw [← hE]
        clear hE
        by_cases he : E = 0
        · subst he
          have hp0 := HP.out.cell 0 _ rfl
          have hp1 := HP.out.cell 1 _ rfl
          have hp2 := HP.out.cell 2 _ rfl
          have hp3 := HP.out.cell 3 _ rfl
          have hbz := HB.out
          by_cases hr : RightP (⟨6, [], [], acc⟩ : Pk)
          · have cR := RRight_calls (⟨6, [], [], acc⟩ : Pk) (.slice none 0 0) (.slice vao acc.length vc) wr HI.out HX.out hn1 hn2 HSM.out HTM.out true (by simpa using hr)
            have HRr := Lib.hid hr
            clear hr
            go_wp2_with fail
            refine cR.mono ?_
            rintro e w7 ⟨rfl, b7⟩
            have HP0y := Lib.hid (HP0.out.below b7 HP0.out.lt)
            have HPy := Lib.hid (HP.out.below b7 HP.out.lt)
            have hby := hbz.trans (b7.mono hbz.size)
            have HIy := Lib.hid (HI.out.below b7)
            have HXy := Lib.hid (HX.out.below b7)
            clear cR b7 hbz hp0 hp1 hp2 hp3
            have hp0 := HPy.out.cell 0 _ rfl
            have hp1 := HPy.out.cell 1 _ rfl
            have hp2 := HPy.out.cell 2 _ rfl
            have hp3 := HPy.out.cell 3 _ rfl
            go_wp2_with ((with_reducible show wpList _ _ _ (⟨none, Op.store _ (.tmp 2) _, _, _, _, _⟩ :: _) _ _); refine wpList_storeBlk rfl 107 (.tmp 2) (.tmp 96) rfl w.heap.size #[.int .i64 6, .string (str []), .slice none 0 0, .slice vao acc.length vc] (by rfl) (by rfl) _ _ HP0y.out (by exact Try.sizeRPk) (by rfl) (pk_all _ _ _ _ HO1.out HO2.out) ?_; intro w8 n8 g8)
            have hb8 := hby.grown g8 hby.size (fun q e => by cases e; exact Nat.le_refl _)
            have RES : UnRes bs w (.returned (.tuple #[.agg #[.int .i64 6, .string (str []), .slice none 0 0, .slice vao acc.length vc], .int .i64 0])) w8 := UnRes.mk (unT_right HU.out HE.out.symm HRr.out) (hashes_grownG HIy.out g8 HNE1.out) (tx_grownG HXy.out g8 HNE2.out) (hb8)
            refine ret_cellTmpG rfl w.heap.size 107 #[.int .i64 6, .string (str []), .slice none 0 0, .slice vao acc.length vc] _ (by rfl) n8 Try.underlying107 rfl (by exact Try.sizeRPk) rfl ?_
            exact RES
          · have cR := RRight_calls (⟨6, [], [], acc⟩ : Pk) (.slice none 0 0) (.slice vao acc.length vc) wr HI.out HX.out hn1 hn2 HSM.out HTM.out false (by simpa using hr)
            have HRr := Lib.hid hr
            clear hr
            go_wp2_with fail
            refine cR.mono ?_
            rintro e w7 ⟨rfl, b7⟩
            have HP0y := Lib.hid (HP0.out.below b7 HP0.out.lt)
            have hby := hbz.trans (b7.mono hbz.size)
            clear cR b7 hbz hp0 hp1 hp2 hp3
            go_wp2_with (first | ((with_reducible show wpList _ _ _ (⟨some 95, _, _, _, _, _⟩ :: _) _ _); refine wpList_buildCells rfl 107 #[] rfl pkZ Try.builtRPk0 ?_) | ((with_reducible show wpList _ _ _ (⟨none, Op.store _ (.tmp 2) _, _, _, _, _⟩ :: _) _ _); refine wpList_storeBlk rfl 107 (.tmp 2) (.tmp 95) rfl w.heap.size pkZ (by rfl) (by rfl) _ _ HP0y.out (by exact Try.sizeRPk) (by rfl) (pk_all 0 [] _ _ rfl rfl) ?_; intro w8 n8 g8))
            have hb8 := hby.grown g8 hby.size (fun q e => by cases e; exact Nat.le_refl _)
            have RES : UnRes bs w (.returned (.tuple #[.agg #[.int .i64 pk0.k, .string (str pk0.s), .slice none 0 0, .slice none 0 0], .int .i64 3])) w8 := UnRes.mk (unT_wrong HU.out HE.out.symm HRr.out) (hashes_nil _) (tx_nil _) (hb8)
            refine ret_cellTmpG rfl w.heap.size 107 #[.int .i64 pk0.k, .string (str pk0.s), .slice none 0 0, .slice none 0 0] _ (by rfl) n8 Try.underlying107 rfl (by exact Try.sizeRPk) rfl ?_
            exact RES
        · have hbz := HB.out
          have hE0 : decide (E = 0) = false := decide_eq_false he
          go_wp2_with ((with_reducible show wpList _ _ _ (⟨some 89, _, _, _, _, _⟩ :: _) _ _); refine wpList_buildCells rfl 107 #[] rfl pkZ Try.builtRPk0 ?_)
          refine (RefREnd_calls b s2 _ HR.out (by omega)).mono ?_
          rintro e wy ⟨rfl, hwy⟩
          subst hwy
          rw [← HE.out]
          go_wp2_with ((with_reducible show wpList _ _ _ (⟨none, Op.store _ (.tmp 2) _, _, _, _, _⟩ :: _) _ _); refine wpList_storeBlk rfl 107 (.tmp 2) (.tmp 89) rfl w.heap.size pkZ (by rfl) (by rfl) _ _ HP0.out (by exact Try.sizeRPk) (by rfl) (pk_all 0 [] _ _ rfl rfl) ?_; intro w8 n8 g8)
          have hb8 := hbz.grown g8 hbz.size (fun q e => by cases e; exact Nat.le_refl _)
          have RES : UnRes bs w (.returned (.tuple #[.agg #[.int .i64 pk0.k, .string (str pk0.s), .slice none 0 0, .slice none 0 0], .int .i64 E])) w8 := UnRes.mk (by rw [HE.out]; exact unT_bad HU.out (fun e => he (HE.out.trans e))) (hashes_nil _) (tx_nil _) (hb8)
          refine ret_cellTmpG rfl w.heap.size 107 #[.int .i64 pk0.k, .string (str pk0.s), .slice none 0 0, .slice none 0 0] _ (by rfl) n8 Try.underlying107 rfl (by exact Try.sizeRPk) rfl ?_
          exact RES
    · obtain rfl : N = i := by omega
      have hF : Hid (RR = (acc, (sl, se))) := by show _ = _; rw [hRe.out, Nat.sub_self]; simp [readN]
      have hF2 := hF    
      have HTM : Hid (∀ t ∈ acc, t.length ≤ maxLen) := fun t ht => (readN_all rTx (fun t => t.length ≤ maxLen) (fun s => by have := rTx_len s; unfold maxLen; omega) N s0) t (by have := HRR.out; rw [hF2.out] at this; rw [← show acc = (readN rTx N s0).1 from congrArg Prod.fst this]; exact ht)
      clear hF2
      obtain ⟨s2, hs2⟩ : ∃ s : RSt, s = (sl, se) := ⟨_, rfl⟩
      have hls : s2.1.length ≤ 1000000 := by rw [hs2]; exact hst
      rw [← hs2] at hF hR
      clear hRe hs2
      have HU : Hid (unK bs = (⟨6, [], [], acc⟩, s2)) := by
        have := HU0.out
        rw [hF.out] at this
        exact this
      have HR := hR
      have HP := hP
      have HP0 := hP0
      have HB := hB
      have HX := Lib.hid hO.out.at
      have HNE2 := Lib.hid (ne_own (g := w.heap.size) hO.out (by omega))
      have HO2 := Lib.hid (own_oneG hO.out)
      clear hR hP hP0 hB hO hF
      have hn1 : ([] : List HsT).length ≤ 1000 := Nat.zero_le _
      have hn2 : acc.length ≤ 1000 := by omega
      have HO1 : Hid ((Value.slice none 0 0).oneCell' = true) := rfl
      have HI := Lib.hid (hashes_nil wr)
      have HNE1 := Lib.hid (ne_nil w.heap.size)
      have HSM : Hid (([] : List UInt8).length ≤ maxLen) := Nat.zero_le _
      go_wp2_with fail
      clear h0 hse1
      refine (RefREnd_calls b s2 _ HR.out (by omega)).mono ?_
      rintro e wy ⟨rfl, hwy⟩
      subst hwy
      obtain ⟨E, hE⟩ : ∃ E, E = rEnd s2 := ⟨_, rfl⟩
      have HE := Lib.hid hE
      rw [← hE]
      clear hE
      by_cases he : E = 0
      · subst he
        have hp0 := HP.out.cell 0 _ rfl
        have hp1 := HP.out.cell 1 _ rfl
        have hp2 := HP.out.cell 2 _ rfl
        have hp3 := HP.out.cell 3 _ rfl
        have hbz := HB.out
        by_cases hr : RightP (⟨6, [], [], acc⟩ : Pk)
        · have cR := RRight_calls (⟨6, [], [], acc⟩ : Pk) (.slice none 0 0) (.slice vao acc.length vc) wr HI.out HX.out hn1 hn2 HSM.out HTM.out true (by simpa using hr)
          have HRr := Lib.hid hr
          clear hr
          go_wp2_with fail
          refine cR.mono ?_
          rintro e w7 ⟨rfl, b7⟩
          have HP0y := Lib.hid (HP0.out.below b7 HP0.out.lt)
          have HPy := Lib.hid (HP.out.below b7 HP.out.lt)
          have hby := hbz.trans (b7.mono hbz.size)
          have HIy := Lib.hid (HI.out.below b7)
          have HXy := Lib.hid (HX.out.below b7)
          clear cR b7 hbz hp0 hp1 hp2 hp3
          have hp0 := HPy.out.cell 0 _ rfl
          have hp1 := HPy.out.cell 1 _ rfl
          have hp2 := HPy.out.cell 2 _ rfl
          have hp3 := HPy.out.cell 3 _ rfl
          go_wp2_with ((with_reducible show wpList _ _ _ (⟨none, Op.store _ (.tmp 2) _, _, _, _, _⟩ :: _) _ _); refine wpList_storeBlk rfl 107 (.tmp 2) (.tmp 96) rfl w.heap.size #[.int .i64 6, .string (str []), .slice none 0 0, .slice vao acc.length vc] (by rfl) (by rfl) _ _ HP0y.out (by exact Try.sizeRPk) (by rfl) (pk_all _ _ _ _ HO1.out HO2.out) ?_; intro w8 n8 g8)
          have hb8 := hby.grown g8 hby.size (fun q e => by cases e; exact Nat.le_refl _)
          have RES : UnRes bs w (.returned (.tuple #[.agg #[.int .i64 6, .string (str []), .slice none 0 0, .slice vao acc.length vc], .int .i64 0])) w8 := UnRes.mk (unT_right HU.out HE.out.symm HRr.out) (hashes_grownG HIy.out g8 HNE1.out) (tx_grownG HXy.out g8 HNE2.out) (hb8)
          refine ret_cellTmpG rfl w.heap.size 107 #[.int .i64 6, .string (str []), .slice none 0 0, .slice vao acc.length vc] _ (by rfl) n8 Try.underlying107 rfl (by exact Try.sizeRPk) rfl ?_
          exact RES
        · have cR := RRight_calls (⟨6, [], [], acc⟩ : Pk) (.slice none 0 0) (.slice vao acc.length vc) wr HI.out HX.out hn1 hn2 HSM.out HTM.out false (by simpa using hr)
          have HRr := Lib.hid hr
          clear hr
          go_wp2_with fail
          refine cR.mono ?_
          rintro e w7 ⟨rfl, b7⟩
          have HP0y := Lib.hid (HP0.out.below b7 HP0.out.lt)
          have hby := hbz.trans (b7.mono hbz.size)
          clear cR b7 hbz hp0 hp1 hp2 hp3
          go_wp2_with (first | ((with_reducible show wpList _ _ _ (⟨some 95, _, _, _, _, _⟩ :: _) _ _); refine wpList_buildCells rfl 107 #[] rfl pkZ Try.builtRPk0 ?_) | ((with_reducible show wpList _ _ _ (⟨none, Op.store _ (.tmp 2) _, _, _, _, _⟩ :: _) _ _); refine wpList_storeBlk rfl 107 (.tmp 2) (.tmp 95) rfl w.heap.size pkZ (by rfl) (by rfl) _ _ HP0y.out (by exact Try.sizeRPk) (by rfl) (pk_all 0 [] _ _ rfl rfl) ?_; intro w8 n8 g8))
          have hb8 := hby.grown g8 hby.size (fun q e => by cases e; exact Nat.le_refl _)
          have RES : UnRes bs w (.returned (.tuple #[.agg #[.int .i64 pk0.k, .string (str pk0.s), .slice none 0 0, .slice none 0 0], .int .i64 3])) w8 := UnRes.mk (unT_wrong HU.out HE.out.symm HRr.out) (hashes_nil _) (tx_nil _) (hb8)
          refine ret_cellTmpG rfl w.heap.size 107 #[.int .i64 pk0.k, .string (str pk0.s), .slice none 0 0, .slice none 0 0] _ (by rfl) n8 Try.underlying107 rfl (by exact Try.sizeRPk) rfl ?_
          exact RES
      · have hbz := HB.out
        have hE0 : decide (E = 0) = false := decide_eq_false he
        go_wp2_with ((with_reducible show wpList _ _ _ (⟨some 89, _, _, _, _, _⟩ :: _) _ _); refine wpList_buildCells rfl 107 #[] rfl pkZ Try.builtRPk0 ?_)
        refine (RefREnd_calls b s2 _ HR.out (by omega)).mono ?_
        rintro e wy ⟨rfl, hwy⟩
        subst hwy
        rw [← HE.out]
        go_wp2_with ((with_reducible show wpList _ _ _ (⟨none, Op.store _ (.tmp 2) _, _, _, _, _⟩ :: _) _ _); refine wpList_storeBlk rfl 107 (.tmp 2) (.tmp 89) rfl w.heap.size pkZ (by rfl) (by rfl) _ _ HP0.out (by exact Try.sizeRPk) (by rfl) (pk_all 0 [] _ _ rfl rfl) ?_; intro w8 n8 g8)
        have hb8 := hbz.grown g8 hbz.size (fun q e => by cases e; exact Nat.le_refl _)
        have RES : UnRes bs w (.returned (.tuple #[.agg #[.int .i64 pk0.k, .string (str pk0.s), .slice none 0 0, .slice none 0 0], .int .i64 E])) w8 := UnRes.mk (by rw [HE.out]; exact unT_bad HU.out (fun e => he (HE.out.trans e))) (hashes_nil _) (tx_nil _) (hb8)
        refine ret_cellTmpG rfl w.heap.size 107 #[.int .i64 pk0.k, .string (str pk0.s), .slice none 0 0, .slice none 0 0] _ (by rfl) n8 Try.underlying107 rfl (by exact Try.sizeRPk) rfl ?_
        exact RES
theorem RUnpack_calls (bs : List UInt8) (w : World) (hbs : bs.length ≤ 1000000) : Calls Try.prog 63 #[.string (str bs)] w (UnRes bs w) := by
  have h0 := rNum_nonneg 6 (bs, 0)
  have h6 := rNum_le 6 (by omega) (bs, 0)
  by_cases k0 : (rNum 6 (bs, 0)).1 = 0
  · exact RUnpack0 bs w hbs k0
  by_cases k4 : (rNum 6 (bs, 0)).1 = 4
  · exact RUnpack4 bs w hbs k4
  by_cases k5 : (rNum 6 (bs, 0)).1 = 5
  · exact RUnpack5 bs w hbs k5
  by_cases k6 : (rNum 6 (bs, 0)).1 = 6
  · exact RUnpack6 bs w hbs k6
  · exact RUnpackD bs w hbs (by omega)
end Go.Proofs.Ytlomofcnknpciaa
