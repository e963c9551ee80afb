/-
  book: Follows.
-/
import Derived.Test.YtjlpdbaknhbgdaaBookKnown
import Derived.Test.YtjlpdbaknhbgdaaBookSort
set_option linter.unusedSimpArgs false
set_option linter.unusedVariables false
namespace Go.Proofs.Ytjlpdbaknhbgdaa
open Go.RowKit

section
variable {ok : List UInt8 → Prop} {enc : List UInt8 → Value}
theorem RangeIs.own_ne {w : World} {b r n : Nat} {look : List UInt8 → Option Value} {done : List (List UInt8)} {base : Nat} {e : TypeId} {size m : Nat} {v : Value} {xs : List Value} (h : RangeIs ok enc w b r n look done) (ho : w.ownsRow base e size v m xs) : some b ≠ v.ownBlock ∧ some r ≠ v.ownBlock := by
  obtain ⟨es, clock, since, seen, c0, hb, _, _, _, hr, _⟩ := h
  rcases ho.2 with ⟨rfl, _⟩ | ⟨g, cap, cur, rfl, _, hg, _⟩
  · simp [Value.ownBlock]
  · simp only [Value.ownBlock]
    constructor
    · intro e2
      obtain rfl : b = g := by simpa using e2
      rw [hb] at hg; cases hg
    · intro e2
      obtain rfl : r = g := by simpa using e2
      rw [hr] at hg; cases hg
theorem RangeIs.nodup {w : World} {b r n : Nat} {look : List UInt8 → Option Value} {done : List (List UInt8)} (h : RangeIs ok enc w b r n look done) : done.Nodup ∧ ∀ h ∈ done, ok h ∧ (look h).isSome = true := by
  obtain ⟨es, clock, since, seen, c0, hb, _, _, _, hr, _, _, _, _, h1, h2⟩ := h
  exact ⟨h1, h2⟩
end
/-- What 'known' answers. -/
def KnownPost (w : World) (a : List HsT) (fs : List FactT) (e : Ending) (w' : World) : Prop := ∃ mb O, e = .returned (.map (some mb)) ∧ (∀ h, h ∈ O ↔ Fol fs a h) ∧ O.Nodup ∧ (∀ h ∈ O, h.length = 32) ∧ MapIs hashOk hashEnc w' mb O.length (outLook O) ∧ O.length ≤ 500000 ∧ Below w.heap.size w w'
theorem outLook_some {O : List HsT} {h : HsT} : (outLook O h).isSome = true ↔ h ∈ O := by
  unfold outLook
  by_cases e : h ∈ O <;> simp [e]
set_option maxHeartbeats 8000000 in
set_option maxRecDepth 100000 in
theorem Follows_gen (pv v : Value) (a : List HsT) (fs : List FactT) (w : World) (hcall : Calls Try.prog 36 #[pv, v] w (KnownPost w a fs)) :
    Calls Try.prog 19 #[pv, v] w fun e w' => ∃ v' R, e = .returned v' ∧ HashesAt w' v' R ∧ Rises R ∧ (∀ h, h ∈ R ↔ Fol fs a h) ∧ R.length ≤ 500000 ∧ Below w.heap.size w w' := by
  unfold KnownPost at hcall
  obtain ⟨base, hbase⟩ : ∃ base, base = w.heap.size := ⟨_, rfl⟩
  have HBS : Hid (base = w.heap.size) := hbase
  rw [← hbase] at hcall ⊢
  go_enter Try.func19, Try.ntmps19
  go_wp2_with fail
  refine hcall.mono ?_
  rintro e w1 ⟨mb, O, rfl, hmem, hnd, h32, hm1, hOl, hB1⟩
  have HMEM := Lib.hid hmem
  have HND := Lib.hid hnd
  have H32 := Lib.hid h32
  have HOL := Lib.hid hOl
  clear hmem hnd h32 hOl hcall
  go_wp2_with (first | ((with_reducible show wpList _ _ _ (⟨some 10, _, _, _, _, _⟩ :: _) _ _); refine wpList_rangeM rfl (.tmp 9) 75 4 rfl Try.underlying75 mb O.length (outLook O) (by rfl) hm1 ?_; intro w2 hr2 b2; have hB2 := hB1.trans (b2.mono (Nat.le_trans (Nat.le_of_eq HBS.out) hB1.size)); have hrb : base ≤ w1.heap.size := Nat.le_trans (Nat.le_of_eq HBS.out) hB1.size; clear b2 hm1 hB1; simp only [Act.put, List.setIfInBounds_toArray, List.set_cons_succ, List.set_cons_zero]))
  obtain ⟨r, hr⟩ : ∃ r, r = w1.heap.size := ⟨_, rfl⟩
  rw [← hr] at hr2 hrb
  rw [← hr]
  have HR := Lib.hid hr2
  have HB := Lib.hid hB2
  clear hr hr2 hB2
  go_loopg [5, 11] O.length (fun gk s5 s11 wr => ∃ done : List HsT, gk = O.length - done.length ∧ Hid (HashOwn wr base 26 s5 done) ∧ Hid (RangeIs hashOk hashEnc wr mb r O.length (outLook O) done) ∧ Hid (Below base w wr))
  case atStart => exact ⟨[], by simp, Lib.hid (HashOwn.nil _ _ _), HR, HB⟩
  case round =>
    clear HR HB
    obtain ⟨done, hgk, HD, HR, HB⟩ := hrel
    have HGK := Lib.hid hgk
    have HSUB : Hid (∀ x ∈ done, x ∈ O) := fun x hx => outLook_some.1 (HR.out.nodup.2 x hx).2
    have HDN : Hid (done.length ≤ 1000000) := by
      show _ ≤ _
      have e1 := nodup_len HR.out.nodup.1 HSUB.out
      have e2 := HOL.out
      omega
    obtain ⟨dao, dc, rfl⟩ := HD.out.slice
    clear hgk
    go_wp2_with (first | ((with_reducible show wpList _ _ _ (⟨some 11, _, _, _, _, _⟩ :: _) _ _); refine wpList_nextM rfl Try.hashKey (.tmp 10) rfl mb r O.length (outLook O) done (by rfl) HR.out (fun hdone => ?_) (fun x u w2 hx hl hnd hrg hgr hen => ?_)) | ((with_reducible show wpList _ _ _ (⟨some 6, _, _, _, _, _⟩ :: _) _ _); have HX : Hid (x.length = 32) := hx; have HD2 := Lib.hid (HD.out.kept hgr (.inr (fun e => (HR.out.own_ne HD.out.2).2 e.symm))); have hB2 := HB.out.grown hgr (Nat.le_trans (Nat.le_of_eq HBS.out) HB.out.size) (fun q e => by cases e; exact hrb); have HR2 := Lib.hid hrg; clear HD HB HR hrg hgr hen; refine wpList_allocZ rfl 26 rfl _ Try.zeroHash ?_; intro wq1 hsq2 baq3 hNq4) | ((with_reducible show wpList _ _ _ (⟨none, Op.store _ (.tmp 6) _, _, _, _, _⟩ :: _) _ _); refine wpList_storeBlk rfl 26 (.tmp 6) (.tmp 14) rfl (w2.heap.size) ((x.map bv).toArray) (by rfl) (by rfl) _ _ hNq4 (by rw [bv_size, HX.out]; exact Try.sizeHash) (by rw [bv_size, HX.out, Z32_size]) (bv_all _) ?_; intro wq5 hKq6 gq7; have bbq8 := below_new baq3 gq7 (Nat.le_refl _) baq3.size; have hCq9 := Lib.hid (HD2.out.below bbq8); have hCq10 := Lib.hid (HR2.out.below bbq8); have hBq11 := hB2.trans (bbq8.mono (Nat.le_trans (Nat.le_of_eq HBS.out) hB2.size)); clear HD2 HR2 hB2; clear bbq8 baq3 hNq4 gq7 hsq2) | ((with_reducible show wpList _ _ _ (⟨some 16, _, _, _, _, _⟩ :: _) _ _); refine wpList_load_mid rfl 26 (.tmp 6) rfl (w2.heap.size) 0 (by rfl) (x.map bv) _ (blk_rangeP hKq6) Try.underlying26 rfl (by rw [List.length_map, HX.out]; exact Try.sizeHash) ?_) | ((with_reducible show wpList _ _ _ (⟨some 17, _, _, _, _, _⟩ :: _) _ _); refine wpList_bsH rfl 23 26 (.tmp 16) rfl x HX.out (by rfl) Try.underlying23 Try.infoHash2 ?_; intro q w3 eq3 sz3 b3 hN3; have ltq12 : w2.heap.size < wq5.heap.size := hKq6.lt; have hCq13 := Lib.hid (hCq9.out.below b3); have hCq14 := Lib.hid (hCq10.out.below b3); have hCq15 := hKq6.below b3 hKq6.lt; have hBq16 := hBq11.trans (b3.mono (Nat.le_trans (Nat.le_of_eq HBS.out) hBq11.size)); clear hCq9 hCq10 hKq6 hBq11; clear b3 eq3 sz3) | ((with_reducible show wpList _ _ _ (⟨some 18, _, _, _, _, _⟩ :: _) _ _); refine wpList_append_h rfl (.tmp 15) (.tmp 17) 23 rfl base 26 Try.underlying23 Try.infoHash3 _ done x HX.out (by rfl) hCq13.out q 1 (by rfl) _ hN3 HDN.out (Nat.le_trans (Nat.le_of_eq HBS.out) hBq16.size) ?_; intro v4 w4 hO4 g4; have HR4 := Lib.hid (hCq14.out.kept g4 (hCq14.out.own_ne hCq13.out.2).1 (hCq14.out.own_ne hCq13.out.2).2); have HB4 := Lib.hid (hBq16.grown g4 (Nat.le_trans (Nat.le_of_eq HBS.out) hBq16.size) (fun q e => (hCq13.out.lt q e).1)); have HO4 := Lib.hid hO4; clear hO4 hN3 g4 hCq13 hCq14 hCq15 hBq16))
    · have hO : ∀ x, x ∈ done ↔ x ∈ O := fun x => ⟨HSUB.out x, fun hx => hdone x (H32.out x hx) (outLook_some.2 hx)⟩
      have HO := Lib.hid hO
      clear hO hdone
      refine (Sort_calls base _ done wr HD.out HDN.out).mono ?_
      rintro e w3 ⟨rfl, R, hp, hs, hat, hgr⟩
      have HP := Lib.hid hp
      have HS := Lib.hid (hs HR.out.nodup.1)
      have HT := Lib.hid hat
      have HB3 := Lib.hid (HB.out.grown hgr (Nat.le_trans (Nat.le_of_eq HBS.out) HB.out.size) (fun q e => (HD.out.lt q e).1))
      clear hp hs hat hgr
      go_wp2_with fail
      go_returns
      exact ⟨_, R, rfl, HT.out, HS.out, fun h => by rw [HP.out.mem_iff, HO.out, HMEM.out], by rw [HP.out.length_eq]; exact Nat.le_trans (nodup_len HR.out.nodup.1 HSUB.out) HOL.out, HB3.out⟩
    · have hlt : done.length < O.length := by
        have e1 := nodup_len HR4.out.nodup.1 (fun y hy => outLook_some.1 (HR4.out.nodup.2 y hy).2)
        rw [List.length_append, List.length_singleton] at e1
        omega
      go_roundg (O.length - (done ++ [x]).length)
      case rel => exact ⟨done ++ [x], rfl, HO4, HR4, HB4⟩
      case measure => have e2 := HGK.out; rw [List.length_append, List.length_singleton]; omega
theorem fol_nil {a : List HsT} {h : HsT} : Fol [] a h ↔ h ∈ a :=
  ⟨fun h => by
    cases h with
    | base h => exact h
    | step hf _ _ => exact absurd hf (by simp), Fol.base⟩
set_option maxHeartbeats 8000000 in
set_option maxRecDepth 100000 in
theorem knownNil_calls (v : Value) (a : List HsT) (w : World) (hA : HashesAt w v a) (hU : a.length ≤ 500000) :
    Calls Try.prog 36 #[.pointer none, v] w (KnownPost w a []) := by
  unfold KnownPost
  obtain ⟨base, hbase⟩ : ∃ base, base = w.heap.size := ⟨_, rfl⟩
  have HA : Hid (∀ w', Below base w w' → HashesAt w' v a) := fun w' hb => by rw [hbase] at hb; exact hA.below hb
  have HV := Lib.hid hA.block_lt
  have HU := Lib.hid hU
  have HBS : Hid (base = w.heap.size) := hbase
  clear hA hU
  rw [← hbase] at HV ⊢
  go_enter Try.func36, Try.ntmps36
  go_wp2_with (first | ((with_reducible show wpList _ _ _ (⟨some 14, _, _, _, _, _⟩ :: _) _ _); refine wpList_makeM rfl 75 rfl hashOk hashEnc ?_; intro w1 s1 b1 m1; clear s1) | ((with_reducible show wpList _ _ _ (⟨some 5, _, _, _, _, _⟩ :: _) _ _); refine wpList_alloc1 rfl 75 rfl _ Try.zeroMapHB rfl ?_; intro w2 s2 b2 n2; clear s2) | ((with_reducible show wpList _ _ _ (⟨none, Op.store _ (.tmp 5) _, _, _, _, _⟩ :: _) _ _); refine wpList_storeL rfl 75 (.tmp 5) (.tmp 14) rfl w1.heap.size (.map (some w.heap.size)) (by rfl) (by rfl) _ _ n2 rfl rfl Try.sizeMapHB ?_; intro w3 n3 g3; have m3 := (m1.below b2).kept g3 (by have := m1.lt; simp; omega); have b3 := below_new b2 g3 (Nat.le_refl _) b2.size; clear b2 g3 n2) | ((with_reducible show wpList _ _ _ (⟨some 6, _, _, _, _, _⟩ :: _) _ _); refine wpList_alloc1 rfl 23 rfl _ Try.zeroHs rfl ?_; intro w4 s4 b4 n4; clear s4))
  have bw1 := b1.size
  have bw3 := b3.size
  have K4 := KPut.init (base := base) (n3.below b4 n3.lt) (m3.below b4) n4 (Nat.le_of_eq HBS.out) (by rw [HBS.out]; omega)
  obtain ⟨mb, hmb⟩ : ∃ x, x = w.heap.size := ⟨_, rfl⟩
  obtain ⟨ob, hob⟩ : ∃ x, x = w1.heap.size := ⟨_, rfl⟩
  obtain ⟨tb, htb⟩ : ∃ x, x = w3.heap.size := ⟨_, rfl⟩
  have B4 : Below base w w4 := by rw [HBS.out]; exact (b1.trans (b3.mono bw1)).trans (b4.mono (by omega))
  rw [← hmb, ← hob, ← htb] at K4
  rw [← hmb, ← hob, ← htb]
  have hw4 : base ≤ w4.heap.size := by rw [HBS.out]; exact HBS.out ▸ B4.size
  clear hmb hob htb b1 b3 b4 m1 m3 n3 n4 bw1 bw3
  have hul := HU.out
  refine (put_calls4 v a base ob mb tb [] [] w4 (HA.out _ B4) HV.out (by omega) (by simp; omega) (by simp; omega) hw4 K4).mono ?_
  rintro e w5 ⟨rfl, K5, F5, B5⟩
  rw [List.nil_append] at K5
  obtain ⟨k1, k2, -, -, k6⟩ := K5
  have K2 := Lib.hid k2
  have K6 := Lib.hid k6
  have HB := Lib.hid (B4.trans B5)
  clear K4 B4 F5 B5 hw4 k2 k6
  go_wp2_with ((with_reducible show wpList _ _ _ (⟨some 21, _, _, _, _, _⟩ :: _) _ _); refine wpList_load1 rfl 75 (.tmp 5) rfl ob 0 (by rfl) (.map (some mb)) _ (k1.cell 0 _ rfl) Try.underlying75 rfl ?_)
  go_returns
  exact ⟨mb, newT [] a, rfl, fun h => by rw [mem_newT, fol_nil]; simp, by simpa using nodup_newT a [] List.nodup_nil, K6.out, K2.out, Nat.le_trans (newT_len a []) hul, HB.out⟩

theorem known_post (v : Value) (a : List HsT) (b : Nat) (fs : List FactT) (w : World) (hA : HashesAt w v a) (hB : BookRd w b fs) (hU : (univ fs a).length ≤ 500000) (hF : fs.length ≤ 2000000) (hI : (fs.flatMap (·.ins)).length ≤ 1000000) :
    Calls Try.prog 36 #[.pointer (some ⟨b, 0, none⟩), v] w (KnownPost w a fs) := known_calls v a b fs w hA hB hU hF hI
end Go.Proofs.Ytjlpdbaknhbgdaa
