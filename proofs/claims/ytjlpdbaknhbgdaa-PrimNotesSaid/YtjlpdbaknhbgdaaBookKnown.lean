/-
  book: what follows.
-/
import Derived.Test.YtjlpdbaknhbgdaaBookRep
import Derived.WalkLawsBesides
import Derived.Outline
import Derived.Handy
import Derived.Deep.LoopGhost
set_option linter.unusedSimpArgs false
set_option linter.unusedVariables false
namespace Go.Proofs.Ytjlpdbaknhbgdaa
open Go.RowKit

theorem KPut.init {w : World} {base ob mb tb : Nat} (h1 : Blk w ob #[.map (some mb)] 75) (h2 : MapIs hashOk hashEnc w mb 0 (fun _ => none)) (h3 : Blk w tb #[.slice none 0 0] 23) (h4 : base ≤ mb) (h5 : base ≤ tb) : KPut w base ob mb tb [] [] :=
  ⟨h1, h2.congr (fun x _ => by simp [outLook]), ⟨_, h3, HashOwn.nil _ _ _⟩, ⟨h4, h5⟩, fun h hh => by cases hh⟩
theorem KPut.grown {w w' : World} {base ob mb tb g : Nat} {O T : List HsT} {cs : Array Value} {t : TypeId} (h : KPut w base ob mb tb O T) (hq : Blk w g cs t) (gr : w.grownBy w' (some g)) (h1 : t ≠ 75) (h2 : t ≠ 23) (h3 : t ≠ 26) : KPut w' base ob mb tb O T := by
  obtain ⟨k1, k2, ⟨tv, k3, k4⟩, k5, k6⟩ := h
  exact ⟨k1.grown gr (fun e => blk_ne k1 hq (Ne.symm h1) (by simpa using e)), k2.kept gr (fun e => k2.ne hq (by simpa using e)), ⟨tv, k3.grown gr (fun e => blk_ne k3 hq (Ne.symm h2) (by simpa using e)), k4.kept gr (.inr (fun e => k4.ne_blk hq (Ne.symm h3) e.symm))⟩, k5, k6⟩
theorem outs_le {fs : List FactT} {a : List HsT} {f : FactT} (h : f ∈ fs) : f.outs.length ≤ (univ fs a).length := by
  unfold univ
  rw [List.length_append]
  have : f.outs.length ≤ (fs.flatMap (·.outs)).length := by
    induction fs with
    | nil => cases h
    | cons g fs ih =>
      rw [List.flatMap_cons, List.length_append]
      rcases List.mem_cons.1 h with rfl | h
      · omega
      · have := ih h; omega
  omega
theorem ins_le {fs : List FactT} {f : FactT} (h : f ∈ fs) : f.ins.length ≤ (fs.flatMap (·.ins)).length := by
  induction fs with
  | nil => cases h
  | cons g fs ih =>
    rw [List.flatMap_cons, List.length_append]
    rcases List.mem_cons.1 h with rfl | h
    · omega
    · have := ih h; omega
theorem mi_set (fs : List FactT) (n k : Nat) (f : FactT) (hn : n = fs.length) (hf : fs[k]? = some f) : ((fs.take k).map (fun f : FactT => f.ins.length) ++ List.replicate (n - k) 0).set k f.ins.length = (fs.take (k + 1)).map (fun f : FactT => f.ins.length) ++ List.replicate (n - (k + 1)) 0 := by
  obtain ⟨h1, h2⟩ := List.getElem?_eq_some_iff.1 hf
  have e : n - k = n - (k + 1) + 1 := by omega
  rw [List.set_append_right _ _ (by simp [Nat.min_eq_left (Nat.le_of_lt h1)])]
  rw [List.take_succ_eq_append_getElem h1, h2, List.map_append, e, List.replicate_succ]
  simp [Nat.min_eq_left (Nat.le_of_lt h1)]
theorem Try.neIM : 3 ≠ 75 := by decide
theorem Try.neIS : 3 ≠ 23 := by decide
theorem Try.neIH : 3 ≠ 26 := by decide
set_option maxHeartbeats 16000000 in
set_option maxRecDepth 100000 in
theorem known_calls (v : Value) (a : List HsT) (b : Nat) (fs : List FactT) (w : World) (hA : HashesAt w v a) (hB : BookRd w b fs) (hU : (univ fs a).length ≤ 500000) (hF : fs.length ≤ 2000000) (hI : (fs.flatMap (·.ins)).length ≤ 1000000) :
    Calls Try.prog 36 #[.pointer (some ⟨b, 0, none⟩), v] w fun e w' => ∃ mb O, e = .returned (.map (some mb)) ∧ (∀ h, h ∈ O ↔ Fol fs a h) ∧ O.Nodup ∧ (∀ h ∈ O, h.length = 32) ∧ MapIs hashOk hashEnc w' mb O.length (outLook O) ∧ O.length ≤ 500000 ∧ Below w.heap.size w w' := by
  obtain ⟨base, hbase⟩ : ∃ base, base = w.heap.size := ⟨_, rfl⟩
  obtain ⟨n, hn⟩ : ∃ n, n = fs.length := ⟨_, rfl⟩
  obtain ⟨fv, sv, dv, nm, N, look, hk1, hk2, hk3, hk4⟩ := hB
  obtain ⟨fao, fc, rfl, hfc⟩ := hk2.slice
  rw [← hn] at hk1 hk2 hfc hF
  have HBK : Hid (∀ w', Below base w w' → Blk w' b #[.slice fao n fc, sv, .map (some nm), dv] 64 ∧ FactsAt w' (.slice fao n fc) fs ∧ MapIs hashOk hashEnc w' nm N look ∧ ∀ h, hashOk h → IntsAt w' ((look h).getD (.slice none 0 0)) (needsT fs h)) := fun w' hb => by
    rw [hbase] at hb
    exact ⟨hk1.below hb hk1.lt, hk2.below hb, hk3.below hb, fun h hh => (hk4 h hh).below hb⟩
  have HA : Hid (∀ w', Below base w w' → HashesAt w' v a) := fun w' hb => by rw [hbase] at hb; exact hA.below hb
  have HV := Lib.hid hA.block_lt
  have HFK : Hid (∀ k f, fs[k]? = some f → ∃ g o x y, fao = some ⟨g, o, none⟩ ∧ ∀ w', Below base w w' → w'.rangeAt g (o + k * 2) [x, y] ∧ HashesAt w' x f.ins ∧ HashesAt w' y f.outs ∧ w'.cell? ⟨g, o + k * 2 + 1, none⟩ = some y ∧ LowV y f.outs base) := fun k f hf => by
    obtain ⟨g, o, x, y, h1, hg, h2, h3, h4, h5, h6⟩ := hk2.fact k f hf
    have hl := h6.block_lt
    refine ⟨g, o, x, y, h1, fun w' hb => ?_⟩
    rw [hbase] at hb ⊢
    exact ⟨range2 ((hb.cell (p := ⟨g, o + k * 2, none⟩) hg).trans h3) ((hb.cell (p := ⟨g, o + k * 2 + 1, none⟩) hg).trans h4), h5.below hb, h6.below hb, (hb.cell (p := ⟨g, o + k * 2 + 1, none⟩) hg).trans h4, hl⟩
  have HU := Lib.hid hU
  have HI := Lib.hid hI
  have HF := Lib.hid hF
  have HN := Lib.hid hn
  have HFC := hfc
  have HBS : Hid (base = w.heap.size) := hbase
  clear hA hU hI hF hk1 hk2 hk3 hk4 hn
  rw [← hbase] at HV ⊢
  go_enter Try.func36, Try.ntmps36
  go_wp2_with (first | ((with_reducible show wpList _ _ _ (⟨some 14, _, _, _, _, _⟩ :: _) _ _); refine wpList_makeM rfl 75 rfl hashOk hashEnc ?_; intro w1 s1 b1 m1; clear s1) | ((with_reducible show wpList _ _ _ (⟨some 5, _, _, _, _, _⟩ :: _) _ _); refine wpList_alloc1 rfl 75 rfl _ Try.zeroMapHB rfl ?_; intro w2 s2 b2 n2; clear s2) | ((with_reducible show wpList _ _ _ (⟨none, Op.store _ (.tmp 5) _, _, _, _, _⟩ :: _) _ _); refine wpList_storeL rfl 75 (.tmp 5) (.tmp 14) rfl w1.heap.size (.map (some w.heap.size)) (by rfl) (by rfl) _ _ n2 rfl rfl Try.sizeMapHB ?_; intro w3 n3 g3; have m3 := (m1.below b2).kept g3 (by have := m1.lt; simp; omega); have b3 := below_new b2 g3 (Nat.le_refl _) b2.size; clear b2 g3 n2) | ((with_reducible show wpList _ _ _ (⟨some 6, _, _, _, _, _⟩ :: _) _ _); refine wpList_alloc1 rfl 23 rfl _ Try.zeroHs rfl ?_; intro w4 s4 b4 n4; clear s4))
  have bw1 := b1.size
  have bw3 := b3.size
  have K4 := KPut.init (base := base) (n3.below b4 n3.lt) (m3.below b4) n4 (Nat.le_of_eq HBS.out) (by rw [HBS.out]; omega)
  obtain ⟨mb, hmb⟩ : ∃ x, x = w.heap.size := ⟨_, rfl⟩
  obtain ⟨ob, hob⟩ : ∃ x, x = w1.heap.size := ⟨_, rfl⟩
  obtain ⟨tb, htb⟩ : ∃ x, x = w3.heap.size := ⟨_, rfl⟩
  have B4 : Below base w w4 := by rw [HBS.out]; exact (b1.trans (b3.mono bw1)).trans (b4.mono (by omega))
  rw [← hmb, ← hob, ← htb] at K4
  rw [← hmb, ← hob, ← htb]
  have hw4 : base ≤ w4.heap.size := by rw [HBS.out]; exact HBS.out ▸ B4.size
  clear hmb hob htb b1 b3 b4 m1 m3 n3 n4 bw1 bw3
  refine (put_calls4 v a base ob mb tb [] [] w4 (HA.out _ B4) HV.out (by have := HU.out; unfold univ at this; rw [List.length_append] at this; omega) (by have := HU.out; unfold univ at this; rw [List.length_append] at this; simp; omega) (by have := HU.out; unfold univ at this; rw [List.length_append] at this; simp; omega) hw4 K4).mono ?_
  rintro e w5 ⟨rfl, K5, F5, B5⟩
  rw [List.nil_append] at K5
  have HK := Lib.hid K5
  have HB := Lib.hid (B4.trans B5)
  have hw5 : base ≤ w5.heap.size := Nat.le_trans hw4 B5.size
  clear K4 B4 K5 F5 B5 hw4
  obtain ⟨hk, -, -, -⟩ := HBK.out _ HB.out
  go_wp2_with (first | ((with_reducible show wpList _ _ _ (⟨some 25, _, _, _, _, _⟩ :: _) _ _); refine wpList_load1 rfl 62 (.tmp 24) rfl b 0 (by rfl) _ _ (hk.cell 0 _ rfl) Try.underlying62 rfl ?_) | ((with_reducible show wpList _ _ _ (⟨some 27, _, _, _, _, _⟩ :: _) _ _); refine wpList_makeI rfl (.tmp 26) (.tmp 26) 85 3 rfl Try.underlying85 Try.infoInt3 n (by rfl) (by rfl) (by have := HF.out; omega) ?_; intro w6 s6 b6 hm6; clear s6; have hk6 := hk.below b6 hk.lt; have HK6 := Lib.hid (HK.out.below b6); have HB6 := Lib.hid (HB.out.trans (b6.mono hw5)); have hw6 := Nat.le_trans hw5 b6.size; clear b6 hk HK HB) | ((with_reducible show wpList _ _ _ (⟨some 31, _, _, _, _, _⟩ :: _) _ _); refine wpList_load1 rfl 62 (.tmp 30) rfl b 0 (by rfl) _ _ (hk6.cell 0 _ rfl) Try.underlying62 rfl ?_))
  obtain ⟨mi, hmi⟩ : ∃ x, x = w5.heap.size := ⟨_, rfl⟩
  rw [← hmi] at hm6 hw5
  rw [← hmi]
  have HM6 := Lib.hid hm6
  clear hmi hk6 hm6
  go_loopw [33] (fun i wr => ∃ (k : Nat) (O : List HsT), k ≤ n ∧ i = .int .i64 (k : Nat) ∧ Hid (KPut wr base ob mb tb O O) ∧ Hid (KStart fs a O k) ∧ Hid (Blk wr mi (((fs.take k).map (fun f : FactT => f.ins.length) ++ List.replicate (n - k) 0).map iv).toArray 3) ∧ Hid (Below base w wr)) (fun i _ => n - (intOf i).toNat)
  case atStart => exact ⟨0, newT [] a, by omega, rfl, HK6, Lib.hid (KStart.init fs a), Lib.hid (by simpa using HM6.out), HB6⟩
  case round =>
    clear HK6 HM6 HB6
    obtain ⟨k, O, hk, rfl, HK, HS, HM, HB⟩ := hrel
    have hF2 := HF.out
    by_cases hlt : k < n
    · obtain ⟨f, hf⟩ : ∃ f, fs[k]? = some f := ⟨fs[k]'(by rw [← HN.out]; exact hlt), List.getElem?_eq_getElem _⟩
      obtain ⟨g, o, x, y, rfl, hall⟩ := HFK.out k f hf
      obtain ⟨hr, hx, hy, -, hyb⟩ := hall _ HB.out
      obtain ⟨xa, xc, rfl, -⟩ := hx.slice
      obtain ⟨ya, yc, rfl, -⟩ := hy.slice
      obtain ⟨p, hp⟩ : ∃ p, p = f.outs.length := ⟨_, rfl⟩
      rw [← hp] at hr hy hyb hall
      obtain ⟨L, hL⟩ : ∃ L, L = (fs.take k).map (fun f : FactT => f.ins.length) ++ List.replicate (n - k) 0 := ⟨_, rfl⟩
      have hM := HM.out
      rw [← hL] at hM
      have HLk : Hid (k < L.length) := by
        show _ < _
        have := HN.out
        rw [hL]; simp; omega
      have HLs : Hid (L.set k f.ins.length = (fs.take (k + 1)).map (fun f : FactT => f.ins.length) ++ List.replicate (n - (k + 1)) 0) := by show _ = _; rw [hL]; exact mi_set fs n k f HN.out hf
      obtain ⟨m, hm⟩ : ∃ m, m = f.ins.length := ⟨_, rfl⟩
      rw [← hm] at hr HLs
      have HLc : Hid (((L.set k m).map iv)[k]? = some (iv m)) := by
        show _ = _
        rw [List.getElem?_map, List.getElem?_set_self HLk.out]; rfl
      have HMF := Lib.hid hm
      have HFk := Lib.hid hf
      have HX := Lib.hid hr
      have HY : Hid (∀ w', Below base w w' → HashesAt w' (.slice ya p yc) f.outs) := fun w' hb => (hall w' hb).2.2.1
      have HYB := Lib.hid hyb
      have hB := HB.out
      have HP := Lib.hid hp
      clear hL hr hx hy hyb hall hm hf HM HB hp
      by_cases hz : m = 0
      · subst hz
        go_wp2_with (first | ((with_reducible show wpList _ _ _ (⟨some 37, _, _, _, _, _⟩ :: _) _ _); refine wpList_load_mid rfl 68 (.tmp 36) rfl g (o + k * 2) (by rfl) [.slice xa 0 xc, .slice ya p yc] _ HX.out Try.underlying68 rfl Try.sizeFact ?_) | ((with_reducible show wpList _ _ _ (⟨some 10, _, _, _, _, _⟩ :: _) _ _); refine wpList_allocZ rfl 68 rfl _ Try.zeroFact ?_; intro wq1 hsq2 baq3 hNq4) | ((with_reducible show wpList _ _ _ (⟨none, Op.store _ (.tmp 10) _, _, _, _, _⟩ :: _) _ _); refine wpList_storeBlk rfl 68 (.tmp 10) (.tmp 37) rfl (wr.heap.size) (#[.slice xa 0 xc, .slice ya p yc]) (by rfl) (by rfl) _ _ hNq4 (Try.sizeFact) (rfl) (by simp [Value.oneCell']) ?_; intro wq5 hKq6 gq7; have bbq8 := below_new baq3 gq7 (Nat.le_refl _) baq3.size; have ltq9 : mi < wr.heap.size := hM.lt; have hCq10 := Lib.hid (HK.out.below bbq8); have hCq11 := hM.below bbq8 hM.lt; have hBq12 := hB.trans (bbq8.mono (Nat.le_trans (Nat.le_of_eq HBS.out) hB.size)); clear HK hM hB; clear bbq8 baq3 hNq4 gq7 hsq2) | ((with_reducible show wpList _ _ _ (⟨some 41, _, _, _, _, _⟩ :: _) _ _); refine wpList_load1 rfl 23 (.tmp 40) rfl (wr.heap.size) 0 (by rfl) _ _ (hKq6.cell 0 _ rfl) Try.underlying23 rfl ?_) | ((with_reducible show wpList _ _ _ (⟨none, Op.store _ (.tmp 43) _, _, _, _, _⟩ :: _) _ _); refine wpList_storeI rfl 3 (.tmp 43) (.tmp 42) rfl mi k 0 (by rfl) (by rfl) _ L hCq11 HLk.out Try.sizeInt ?_; intro w8 hM8 g8; have HK8 := Lib.hid (hCq10.out.grown hCq11 g8 Try.neIM Try.neIS Try.neIH); have hF8 := hKq6.grown g8 (by simp; omega); have hB8 := hBq12.grown g8 (Nat.le_trans (Nat.le_of_eq HBS.out) hBq12.size) (fun q e => by cases e; exact hw5); clear g8 hCq10 hCq11 hKq6 hBq12) | ((with_reducible show wpList _ _ _ (⟨some 47, _, _, _, _, _⟩ :: _) _ _); refine wpList_load1 rfl 3 (.tmp 46) rfl mi k (by rfl) _ _ (hM8.cell k _ (by rw [List.getElem?_toArray]; exact HLc.out)) Try.underlying3 rfl ?_) | ((with_reducible show wpList _ _ _ (⟨some 51, _, _, _, _, _⟩ :: _) _ _); refine wpList_load1 rfl 23 (.tmp 50) rfl (wr.heap.size) 1 (by rfl) _ _ (hF8.cell 1 _ rfl) Try.underlying23 rfl ?_))
        have hol := outs_le (a := a) (List.mem_of_getElem? HFk.out)
        have hou := HU.out
        have hob := HS.out.bound
        refine (put_calls4 (.slice ya p yc) f.outs base ob mb tb O O w8 (HY.out _ hB8) HYB.out (by omega) (by omega) (by omega) (Nat.le_trans (Nat.le_of_eq HBS.out) hB8.size) HK8.out).mono ?_
        rintro e w9 ⟨rfl, K9, F9, B9⟩
        have HK9 := Lib.hid K9
        have hM9 := F9 _ _ _ hM8 Try.neIH Try.neIS
        have hB9 := hB8.trans B9
        clear hol hou hob K9 F9 B9 hB8 hM8 HK8 hF8
        go_wp2_with fail
        go_roundw
        case rel => exact ⟨k + 1, O ++ newT O f.outs, by omega, by go_num, HK9, Lib.hid (HS.out.put HFk.out (List.eq_nil_of_length_eq_zero HMF.out.symm)), Lib.hid (by rw [← HLs.out]; exact hM9), Lib.hid hB9⟩
        case measure => simp [intOf]; omega
      · obtain ⟨m', rfl⟩ : ∃ m', m = m' + 1 := ⟨m - 1, by omega⟩
        go_wp2_with (first | ((with_reducible show wpList _ _ _ (⟨some 37, _, _, _, _, _⟩ :: _) _ _); refine wpList_load_mid rfl 68 (.tmp 36) rfl g (o + k * 2) (by rfl) [.slice xa (m' + 1) xc, .slice ya p yc] _ HX.out Try.underlying68 rfl Try.sizeFact ?_) | ((with_reducible show wpList _ _ _ (⟨some 10, _, _, _, _, _⟩ :: _) _ _); refine wpList_allocZ rfl 68 rfl _ Try.zeroFact ?_; intro wq13 hsq14 baq15 hNq16) | ((with_reducible show wpList _ _ _ (⟨none, Op.store _ (.tmp 10) _, _, _, _, _⟩ :: _) _ _); refine wpList_storeBlk rfl 68 (.tmp 10) (.tmp 37) rfl (wr.heap.size) (#[.slice xa (m' + 1) xc, .slice ya p yc]) (by rfl) (by rfl) _ _ hNq16 (Try.sizeFact) (rfl) (by simp [Value.oneCell']) ?_; intro wq17 hKq18 gq19; have bbq20 := below_new baq15 gq19 (Nat.le_refl _) baq15.size; have ltq21 : mi < wr.heap.size := hM.lt; have hCq22 := Lib.hid (HK.out.below bbq20); have hCq23 := hM.below bbq20 hM.lt; have hBq24 := hB.trans (bbq20.mono (Nat.le_trans (Nat.le_of_eq HBS.out) hB.size)); clear HK hM hB; clear bbq20 baq15 hNq16 gq19 hsq14) | ((with_reducible show wpList _ _ _ (⟨some 41, _, _, _, _, _⟩ :: _) _ _); refine wpList_load1 rfl 23 (.tmp 40) rfl (wr.heap.size) 0 (by rfl) _ _ (hKq18.cell 0 _ rfl) Try.underlying23 rfl ?_) | ((with_reducible show wpList _ _ _ (⟨none, Op.store _ (.tmp 43) _, _, _, _, _⟩ :: _) _ _); refine wpList_storeI rfl 3 (.tmp 43) (.tmp 42) rfl mi k (m' + 1) (by rfl) (by rfl) _ L hCq23 HLk.out Try.sizeInt ?_; intro w8 hM8 g8; have HK8 := Lib.hid (hCq22.out.grown hCq23 g8 Try.neIM Try.neIS Try.neIH); have hF8 := hKq18.grown g8 (by simp; omega); have hB8 := hBq24.grown g8 (Nat.le_trans (Nat.le_of_eq HBS.out) hBq24.size) (fun q e => by cases e; exact hw5); clear g8 hCq22 hCq23 hKq18 hBq24) | ((with_reducible show wpList _ _ _ (⟨some 47, _, _, _, _, _⟩ :: _) _ _); refine wpList_load1 rfl 3 (.tmp 46) rfl mi k (by rfl) _ _ (hM8.cell k _ (by rw [List.getElem?_toArray]; exact HLc.out)) Try.underlying3 rfl ?_))
        go_roundw
        case rel => exact ⟨k + 1, O, by omega, by go_num, HK8, Lib.hid (HS.out.skip HFk.out (fun e => by have := HMF.out; rw [e] at this; simp at this)), Lib.hid (by rw [← HLs.out]; exact hM8), Lib.hid hB8⟩
        case measure => simp [intOf]; omega
    · have hkn : k = n := by omega
      rw [hkn] at HS HM
      have HJ : Hid (KInv fs a O O (fs.map fun f => f.ins.length) []) := by
        have e := HS.out
        rw [HN.out] at e
        exact e.inv
      have hM := HM.out
      rw [Nat.sub_self, List.replicate_zero, List.append_nil, List.take_of_length_le (Nat.le_of_eq HN.out.symm)] at hM
      have HM := Lib.hid hM
      clear HS hM
      go_wp2_with fail
      obtain ⟨U, hU⟩ : ∃ U, U = (univ fs a).length := ⟨_, rfl⟩
      have HUU := Lib.hid hU
      go_loopg [54] U (fun gk s54 wr => ∃ (O T : List HsT) (M : List Nat) (D : List HsT), gk = U - D.length ∧ Hid (KPut wr base ob mb tb O T) ∧ Hid (KInv fs a O T M D) ∧ Hid (Blk wr mi (M.map iv).toArray 3) ∧ Hid (Below base w wr))
      case atStart => exact ⟨O, O, _, [], by simp, HK, HJ, HM, HB⟩
      case round =>
        clear HK HJ HM HB O hU hkn hlt
        obtain ⟨O, T, M, D, hgk, HK, HI2, HM, HB⟩ := hrel
        obtain ⟨k1, k2, ⟨tv, k3, k4⟩, k5, k6⟩ := HK.out
        rcases List.eq_nil_or_concat T with hT | ⟨T1, x0, hT⟩
        · rw [hT] at HI2 k4
          obtain ⟨tao, tc, rfl⟩ := k4.slice
          have K2 := Lib.hid k2
          have K6 := Lib.hid k6
          have hB := HB.out
          clear k2 k6 k4 hT HB HM HK hgk
          go_wp2_with (first | ((with_reducible show wpList _ _ _ (⟨some 54, _, _, _, _, _⟩ :: _) _ _); refine wpList_load1 rfl 23 (.tmp 6) rfl tb 0 (by rfl) _ _ (k3.cell 0 _ rfl) Try.underlying23 rfl ?_) | ((with_reducible show wpList _ _ _ (⟨some 101, _, _, _, _, _⟩ :: _) _ _); refine wpList_load1 rfl 75 (.tmp 5) rfl ob 0 (by rfl) _ _ (k1.cell 0 _ rfl) Try.underlying75 rfl ?_))
          go_returns
          exact ⟨mb, O, rfl, fun h => HI2.out.done h, HI2.out.nodup, K6.out, K2.out, Nat.le_trans HI2.out.bound.1 HU.out, hB⟩
        · rw [hT, List.concat_eq_append] at HI2 k4
          have HIN := Lib.hid HI2.out.start
          obtain ⟨tao, tc, rfl, htc⟩ := k4.at.slice
          obtain ⟨m, hm⟩ : ∃ m, m = T1.length := ⟨_, rfl⟩
          have HH : Hid (x0.length = 32) := k4.1 x0 (by simp)
          have hpop := k4.pop
          obtain ⟨tg, to', rfl, hr⟩ := k4.at.range m x0 (by rw [hm]; simp)
          have hmb : m ≤ 500000 := by
            have := HIN.out.bound
            have := HU.out
            omega
          have HDb : Hid (D.length < U) := by
            show _ < _
            have := HIN.out.bound
            rw [HUU.out]; omega
          rw [List.length_append, List.length_singleton, ← hm] at k4 k3 htc
          rw [← hm] at hpop
          have HR := Lib.hid hr
          have HP := Lib.hid hpop
          have K2 := Lib.hid k2
          have HAB := Lib.hid k5
          have HOK := Lib.hid k6
          have hM := HM.out
          have hB := HB.out
          have HD := Lib.hid hgk
          clear hr hpop k2 k4 k5 k6 hgk HK HI2 HM HB hm hT
          go_wp2_with (first | ((with_reducible show wpList _ _ _ (⟨some 54, _, _, _, _, _⟩ :: _) _ _); refine wpList_load1 rfl 23 (.tmp 6) rfl (tb) 0 (by rfl) _ _ (k3.cell 0 _ rfl) Try.underlying23 rfl ?_) | ((with_reducible show wpList _ _ _ (⟨some 57, _, _, _, _, _⟩ :: _) _ _); refine wpList_load1 rfl 23 (.tmp 6) rfl (tb) 0 (by rfl) _ _ (k3.cell 0 _ rfl) Try.underlying23 rfl ?_) | ((with_reducible show wpList _ _ _ (⟨some 58, _, _, _, _, _⟩ :: _) _ _); refine wpList_load1 rfl 23 (.tmp 6) rfl (tb) 0 (by rfl) _ _ (k3.cell 0 _ rfl) Try.underlying23 rfl ?_) | ((with_reducible show wpList _ _ _ (⟨some 62, _, _, _, _, _⟩ :: _) _ _); refine wpList_load_mid rfl 26 (.tmp 61) rfl tg (to' + m * 32) (by rfl) (x0.map bv) _ HR.out Try.underlying26 rfl (by rw [List.length_map, HH.out]; exact Try.sizeHash) ?_) | ((with_reducible show wpList _ _ _ (⟨some 11, _, _, _, _, _⟩ :: _) _ _); refine wpList_allocZ rfl 26 rfl _ Try.zeroHash ?_; intro wq25 hsq26 baq27 hNq28) | ((with_reducible show wpList _ _ _ (⟨none, Op.store _ (.tmp 11) _, _, _, _, _⟩ :: _) _ _); refine wpList_storeBlk rfl 26 (.tmp 11) (.tmp 62) rfl (wr.heap.size) ((x0.map bv).toArray) (by rfl) (by rfl) _ _ hNq28 (by rw [bv_size, HH.out]; exact Try.sizeHash) (by rw [bv_size, HH.out, Z32_size]) (bv_all _) ?_; intro wq29 hKq30 gq31; have bbq32 := below_new baq27 gq31 (Nat.le_refl _) baq27.size; have ltq33 : ob < wr.heap.size := k1.lt; have ltq34 : mi < wr.heap.size := hM.lt; have ltq35 : tb < wr.heap.size := k3.lt; have hCq36 := k1.below bbq32 k1.lt; have hCq37 := Lib.hid (K2.out.below bbq32); have hCq38 := hM.below bbq32 hM.lt; have hCq39 := k3.below bbq32 k3.lt; have hCq40 := Lib.hid (HP.out.below bbq32); have hBq41 := hB.trans (bbq32.mono (Nat.le_trans (Nat.le_of_eq HBS.out) hB.size)); clear k1 K2 hM k3 HP hB; clear bbq32 baq27 hNq28 gq31 hsq26) | ((with_reducible show wpList _ _ _ (⟨some 63, _, _, _, _, _⟩ :: _) _ _); refine wpList_load1 rfl 23 (.tmp 6) rfl (tb) 0 (by rfl) _ _ (hCq39.cell 0 _ rfl) Try.underlying23 rfl ?_) | ((with_reducible show wpList _ _ _ (⟨some 64, _, _, _, _, _⟩ :: _) _ _); refine wpList_load1 rfl 23 (.tmp 6) rfl (tb) 0 (by rfl) _ _ (hCq39.cell 0 _ rfl) Try.underlying23 rfl ?_) | ((with_reducible show wpList _ _ _ (⟨none, Op.store _ (.tmp 6) _, _, _, _, _⟩ :: _) _ _); refine wpList_storeL rfl 23 (.tmp 6) (.tmp 67) rfl tb (.slice (some ⟨tg, to', none⟩) m tc) (by rfl) (by rfl) _ _ hCq39 rfl rfl Try.sizeHs ?_; intro w8 hT8 g8; have hK18 := hCq36.grown g8 (fun e => blk_ne hCq36 hCq39 Try.neMS (by simpa using e)); have hK28 := hCq37.out.kept g8 (fun e => hCq37.out.ne hCq39 (by simpa using e)); have hP8 := hCq40.out.kept g8 (.inr (fun e => hCq40.out.ne_blk hCq39 Try.neHS e.symm)); have hM8 := hCq38.grown g8 (fun e => blk_ne hCq38 hCq39 Try.neIS (by simpa using e)); have hH8 := hKq30.grown g8 (fun e => blk_ne hKq30 hCq39 Try.neHS (by simpa using e)); have hB8 := hBq41.grown g8 (Nat.le_trans (Nat.le_of_eq HBS.out) hBq41.size) (fun q e => by cases e; exact HAB.out.2); have HK8 : Hid (KPut w8 base ob mb tb O T1) := ⟨hK18, hK28, ⟨_, hT8, hP8⟩, HAB.out, HOK.out⟩; clear g8 hK18 hK28 hP8 hT8 hCq36 hCq37 hCq38 hCq39 hCq40 hKq30 hBq41))
          simp only [Act.put, List.setIfInBounds_toArray, List.set_cons_succ, List.set_cons_zero]
          obtain ⟨hbk, hfa, hmn, hni⟩ := HBK.out _ hB8
          obtain ⟨nao, nc, hnv, hnc⟩ := (hni x0 HH.out).slice
          have HNI := Lib.hid (hni x0 HH.out)
          rw [hnv] at HNI
          obtain ⟨J, hJ⟩ : ∃ J, J = (needsT fs x0).length := ⟨_, rfl⟩
          rw [← hJ] at hnv hnc HNI
          have HNV := Lib.hid hnv
          have HMN := Lib.hid hmn
          have HJJ := Lib.hid hJ
          clear hnv hmn hJ hni hfa
          refine wp_region_quiet_lit (by kernel_rfl) (by kernel_rfl) ?_
          repeat (first | ((with_reducible show wpQuiet _ _ _ _ (⟨some 71, _, _, _, _, _⟩ :: _) _); refine wpQuiet_load1 (by rfl) 60 (.tmp 70) rfl b 2 (by rfl) (.map (some nm)) _ (fun w' hw' => by obtain ⟨nq, rfl⟩ := hw'; exact hbk.cell 2 _ rfl) Try.underlying60 rfl ?_; simp only [Act.put, List.setIfInBounds_toArray, List.set_cons_succ, List.set_cons_zero]) | ((with_reducible show wpQuiet _ _ _ _ (⟨some 72, _, _, _, _, _⟩ :: _) _); refine wpQuiet_loadMid (by rfl) 26 (.tmp 11) rfl wr.heap.size 0 (by rfl) (x0.map bv) _ (fun w' hw' => by obtain ⟨nq, rfl⟩ := hw'; exact blk_rangeP hH8) Try.underlying26 rfl (by rw [List.length_map, HH.out]; exact Try.sizeHash) ?_; simp only [Act.put, List.setIfInBounds_toArray, List.set_cons_succ, List.set_cons_zero]) | ((with_reducible show wpQuiet _ _ _ _ (⟨some 73, _, _, _, _, _⟩ :: _) _); refine wpQuiet_lookV (by rfl) Try.hashKey (.tmp 71) (.tmp 72) 60 85 rfl Try.underlying60 (.slice none 0 0) (Try.zeroInts) nm N look (by rfl) (fun w' hw' => by obtain ⟨nq, rfl⟩ := hw'; exact HMN.out) x0 HH.out (by rfl) _ HNV.out ?_; simp only [Act.put, List.setIfInBounds_toArray, List.set_cons_succ, List.set_cons_zero]) | go_big_quiet_step (fail))
          refine wpQuiet_nil ?_
          intro _ hw'
          obtain ⟨nq, hw''⟩ := hw'
          subst hw''
          have hd := below_drewN (Below.refl w8.heap.size w8) nq
          obtain ⟨wd, hwd⟩ : ∃ x, x = w8.drewN nq := ⟨_, rfl⟩
          rw [← hwd] at hd
          rw [← hwd]
          have HK9 := Lib.hid (HK8.out.below hd)
          have HM9 := Lib.hid (hM8.below hd hM8.lt)
          have hB9 : Below base w wd := hB8.trans (hd.mono (Nat.le_trans (Nat.le_of_eq HBS.out) hB8.size))
          have HB9 := Lib.hid hB9
          clear hwd hd HK8 hM8 hB8 hB9 hH8 hbk HMN HNI
          clear hmb
          have hJb : J ≤ 1000000 := by
            have e1 := needs1_len x0 fs 0
            have e2 := HI.out
            have e3 := HJJ.out
            unfold needsT at e3
            omega
          go_wp2_with fail
          go_loopw [75] (fun i wr => ∃ (j : Nat) (O T : List HsT) (M : List Nat), j ≤ J ∧ i = .int .i64 (j : Nat) ∧ Hid (KPut wr base ob mb tb O T) ∧ Hid (KIn fs a O T M D x0 j) ∧ Hid (Blk wr mi (M.map iv).toArray 3) ∧ Hid (Below base w wr)) (fun i _ => J - (intOf i).toNat)
          case atStart => exact ⟨0, _, _, _, by omega, rfl, HK9, HIN, HM9, HB9⟩
          case round =>
            clear HK9 HM9 HB9 HIN HOK
            obtain ⟨j, O, T, M, hj, rfl, HK, HN3, HM, HB⟩ := hrel
            by_cases hjl : j < J
            · obtain ⟨i, hi⟩ : ∃ i, (needsT fs x0)[j]? = some i := ⟨(needsT fs x0)[j]'(by rw [← HJJ.out]; exact hjl), List.getElem?_eq_getElem _⟩
              obtain ⟨f, m, hf, hMi, -, -⟩ := HN3.out.pos hi
              have hin : i < n := by
                have := needsT_lt fs x0 i (List.mem_of_getElem? hi)
                rw [HN.out]; exact this
              have hni := (HBK.out _ HB.out).2.2.2 x0 HH.out
              rw [HNV.out] at hni
              obtain ⟨ng, no, rfl, hc⟩ := hni.cell j i hi
              have HC := Lib.hid hc
              obtain ⟨g, o, x, y, rfl, hall⟩ := HFK.out i f hf
              have hml : m + 1 ≤ 1000000 := by
                have e1 := HN3.out.mi i f hf
                rw [hMi] at e1
                have e2 : m + 1 ≤ mis D f := by simp at e1; omega
                have e3 : mis D f ≤ f.ins.length := List.length_filter_le _ _
                have e4 : f.ins.length ≤ (fs.flatMap (·.ins)).length := ins_le (List.mem_of_getElem? hf)
                have := HI.out
                omega
              have HIL : Hid (i < M.length) := (List.getElem?_eq_some_iff.1 hMi).1
              have HALL : Hid (∀ w', Below base w w' → HashesAt w' y f.outs ∧ w'.cell? ⟨g, o + i * 2 + 1, none⟩ = some y ∧ LowV y f.outs base) := fun w' hb => ⟨(hall w' hb).2.2.1, (hall w' hb).2.2.2.1, (hall w' hb).2.2.2.2⟩
              have HFI := Lib.hid hf
              have HJI := Lib.hid hi
              have hM := HM.out
              have hB := HB.out
              clear hall hf hi hc hni HM HB
              by_cases hz : m = 0
              · subst hz
                have HMI := Lib.hid hMi
                have HMc : Hid ((M.map iv)[i]? = some (.int .i64 1)) := by show _ = _; rw [List.getElem?_map, HMI.out]; rfl
                have HMd : Hid (((M.set i 0).map iv)[i]? = some (.int .i64 0)) := by show _ = _; rw [List.getElem?_map, List.getElem?_set_self HIL.out]; rfl
                clear hMi
                go_wp2_with (first | ((with_reducible show wpList _ _ _ (⟨some 78, _, _, _, _, _⟩ :: _) _ _); refine wpList_load1 rfl 3 (.tmp 77) rfl ng (no + j) (by rfl) _ _ HC.out Try.underlying3 rfl ?_) | ((with_reducible show wpList _ _ _ (⟨some 82, _, _, _, _, _⟩ :: _) _ _); refine wpList_load1 rfl 3 (.tmp 81) rfl mi i (by rfl) _ _ (hM.cell i _ (by rw [List.getElem?_toArray]; exact HMc.out)) Try.underlying3 rfl ?_) | ((with_reducible show wpList _ _ _ (⟨none, Op.store _ (.tmp 84) _, _, _, _, _⟩ :: _) _ _); refine wpList_storeI rfl 3 (.tmp 84) (.tmp 83) rfl mi i 0 (by rfl) (by first | rfl | exact congrArg (Value.int .i64) (by omega)) _ M hM HIL.out Try.sizeInt ?_; intro w8 hM8 g8; have HK8 := Lib.hid (HK.out.grown hM g8 Try.neIM Try.neIS Try.neIH); have hB8 := hB.grown g8 (Nat.le_trans (Nat.le_of_eq HBS.out) hB.size) (fun q e => by cases e; exact hw5); clear g8 HK hM hB; obtain ⟨hbk8, -, -, -⟩ := HBK.out _ hB8) | ((with_reducible show wpList _ _ _ (⟨some 88, _, _, _, _, _⟩ :: _) _ _); refine wpList_load1 rfl 3 (.tmp 87) rfl mi i (by rfl) _ _ (hM8.cell i _ (by rw [List.getElem?_toArray]; exact HMd.out)) Try.underlying3 rfl ?_) | ((with_reducible show wpList _ _ _ (⟨some 94, _, _, _, _, _⟩ :: _) _ _); refine wpList_load1 rfl 62 (.tmp 93) rfl b 0 (by rfl) _ _ (hbk8.cell 0 _ rfl) Try.underlying62 rfl ?_) | ((with_reducible show wpList _ _ _ (⟨some 98, _, _, _, _, _⟩ :: _) _ _); refine wpList_load1 rfl 23 (.tmp 97) rfl g (o + i * 2 + 1) (by rfl) _ _ ((HALL.out _ hB8).2.1) Try.underlying23 rfl ?_))
                have hol := outs_le (a := a) (List.mem_of_getElem? HFI.out)
                have hou := HU.out
                have hob := HN3.out.bound
                refine (put_calls4 y f.outs base ob mb tb O T w8 (HALL.out _ hB8).1 (HALL.out _ hB8).2.2 (by omega) (by omega) (by omega) (Nat.le_trans (Nat.le_of_eq HBS.out) hB8.size) HK8.out).mono ?_
                rintro e w9 ⟨rfl, K9, F9, B9⟩
                have HK9 := Lib.hid K9
                have hM9 := F9 _ _ _ hM8 Try.neIH Try.neIS
                have hB9 := hB8.trans B9
                clear hol hou hob K9 F9 B9 hB8 hM8 HK8 hbk8
                go_wp2_with fail
                go_roundw
                case rel => exact ⟨j + 1, _, _, _, by omega, by go_num, HK9, Lib.hid (HN3.out.put HJI.out HMI.out HFI.out), Lib.hid hM9, Lib.hid hB9⟩
                case measure => simp [intOf]; omega
              · obtain ⟨m', rfl⟩ : ∃ m', m = m' + 1 := ⟨m - 1, by omega⟩
                have HMI := Lib.hid hMi
                have HMc : Hid ((M.map iv)[i]? = some (iv (m' + 1 + 1))) := by show _ = _; rw [List.getElem?_map, HMI.out]; rfl
                have HMd : Hid (((M.set i (m' + 1)).map iv)[i]? = some (iv (m' + 1))) := by show _ = _; rw [List.getElem?_map, List.getElem?_set_self HIL.out]; rfl
                clear hMi
                go_wp2_with (first | ((with_reducible show wpList _ _ _ (⟨some 78, _, _, _, _, _⟩ :: _) _ _); refine wpList_load1 rfl 3 (.tmp 77) rfl ng (no + j) (by rfl) _ _ HC.out Try.underlying3 rfl ?_) | ((with_reducible show wpList _ _ _ (⟨some 82, _, _, _, _, _⟩ :: _) _ _); refine wpList_load1 rfl 3 (.tmp 81) rfl mi i (by rfl) _ _ (hM.cell i _ (by rw [List.getElem?_toArray]; exact HMc.out)) Try.underlying3 rfl ?_) | ((with_reducible show wpList _ _ _ (⟨none, Op.store _ (.tmp 84) _, _, _, _, _⟩ :: _) _ _); refine wpList_storeI rfl 3 (.tmp 84) (.tmp 83) rfl mi i (m' + 1) (by rfl) (by first | rfl | exact congrArg (Value.int .i64) (by omega)) _ M hM HIL.out Try.sizeInt ?_; intro w8 hM8 g8; have HK8 := Lib.hid (HK.out.grown hM g8 Try.neIM Try.neIS Try.neIH); have hB8 := hB.grown g8 (Nat.le_trans (Nat.le_of_eq HBS.out) hB.size) (fun q e => by cases e; exact hw5); clear g8 HK hM hB; obtain ⟨hbk8, -, -, -⟩ := HBK.out _ hB8) | ((with_reducible show wpList _ _ _ (⟨some 88, _, _, _, _, _⟩ :: _) _ _); refine wpList_load1 rfl 3 (.tmp 87) rfl mi i (by rfl) _ _ (hM8.cell i _ (by rw [List.getElem?_toArray]; exact HMd.out)) Try.underlying3 rfl ?_))
                go_roundw
                case rel => exact ⟨j + 1, O, T, _, by omega, by go_num, HK8, Lib.hid (HN3.out.skip HJI.out HMI.out (by omega)), Lib.hid hM8, Lib.hid hB8⟩
                case measure => simp [intOf]; omega
            · have hjJ : j = (needsT fs x0).length := by rw [← HJJ.out]; omega
              have HF3 := Lib.hid (HN3.out.finish hjJ)
              clear HN3 hjJ
              go_wp2_with fail
              go_roundg (U - (x0 :: D).length)
              case rel => exact ⟨O, T, M, x0 :: D, rfl, HK, HF3, HM, HB⟩
              case measure => have e1 := HDb.out; have e2 := HD.out; rw [List.length_cons]; omega

end Go.Proofs.Ytjlpdbaknhbgdaa
