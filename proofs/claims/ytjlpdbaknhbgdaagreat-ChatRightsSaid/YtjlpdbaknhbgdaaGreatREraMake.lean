/-
  bevyref12.Make.
-/
import Derived.Test.YtjlpdbaknhbgdaaGreatQEra
import Derived.Test.YtjlpdbaknhbgdaaGreatQRefK
import Derived.Test.YtjlpdbaknhbgdaaGreatRefCopy
import Derived.WalkLawsBesides
import Derived.Deep.RegionHeld
import Derived.Outline
import Derived.Handy
set_option linter.unusedSimpArgs false
set_option linter.unusedVariables false
namespace Go.Proofs.YtjlpdbaknhbgdaaGreat
open Go.RowKit

theorem Tryz.zsRow6 : (Tryz.prog.info? 42).map (fun i => (i.zero, i.size)) = some (some (.agg zR6.toArray), 34) := by kernel_rfl
theorem Tryz.infoRow63 : (Tryz.prog.info? 42).map (fun i => (i.zero, i.size, i.bytes)) = some (some (.agg zR6.toArray), 34, 64) := by kernel_rfl
theorem Tryz.sizeRow6 : (Tryz.prog.info? 42).map (·.size) = some 34 := by kernel_rfl
theorem Tryz.sizeRows : (Tryz.prog.info? 43).map (·.size) = some 1 := by kernel_rfl
/-- What Make has built: so many rows. -/
structure RmSt (N eb n m : Nat) (f : FrA) (S7 : List Value) (FC : Array Value) (T : TreeT) (me : Int) (lao pao ao3 : Option Addr) (lc pc2 c3 : Nat) (cur : List Value) (In : List UInt8) (av : Value) (Ap : List UInt8) (hA : Ap.length = 32) (i : Nat) (Ex Ep : List UInt8) (wr : World) : Prop where
  pe : Blk wr eb (reraCells f (.slice lao n lc) (.slice pao m pc2) me (.slice ao3 0 c3) In 32 (.slice none 0 0) 0 av 0 Ex Ep).toArray 45
  ps : Blk wr (N + 1) S7.toArray 133
  pf : Blk wr N FC 39
  pz : Blk wr (N + 2) zeroRE.toArray 45
  pt : TreeOwn wr N lao n lc pao m pc2 cur T
  pk : ROwn KeyA.cells 33 wr N 142 (.slice ao3 0 c3) []
  pav : ROwn rrowC 34 wr N 42 av ((rappsOf Ap hA i).zip (List.replicate i (.slice none 0 0)))
section
variable {N eb n m : Nat} {f : FrA} {S7 : List Value} {FC : Array Value} {T : TreeT} {me : Int} {lao pao ao3 : Option Addr} {lc pc2 c3 : Nat} {cur : List Value} {In : List UInt8} {av : Value} {Ap : List UInt8} {hA : Ap.length = 32} {i : Nat} {Ex Ep : List UInt8} {wr : World}
theorem RmSt.below {wr' : World} (h : RmSt N eb n m f S7 FC T me lao pao ao3 lc pc2 c3 cur In av Ap hA i Ex Ep wr) (b : Below wr.heap.size wr wr') : RmSt N eb n m f S7 FC T me lao pao ao3 lc pc2 c3 cur In av Ap hA i Ex Ep wr' :=
  ⟨h.pe.below b h.pe.lt, h.ps.below b h.ps.lt, h.pf.below b h.pf.lt, h.pz.below b h.pz.lt, h.pt.below b, h.pk.below b, h.pav.below b⟩
end
theorem rapps_succ (Ap : List UInt8) (h : Ap.length = 32) (i : Nat) : (rappsOf Ap h (i + 1)).zip (List.replicate (i + 1) (Value.slice none 0 0)) = (rappsOf Ap h i).zip (List.replicate i (Value.slice none 0 0)) ++ [(⟨appT Ap i, 8, [], appT_len _ _⟩, .slice none 0 0)] := by
  rw [rappsOf, List.range_succ, List.map_append, List.replicate_succ', List.zip_append (by simp)]; rfl
theorem TreeOwn.lowR {w : World} {b1 b2 : Nat} {lo po : Option Addr} {n ac m pc : Nat} {lvs : List Value} {T : TreeT} (h : TreeOwn w b1 lo n ac po m pc lvs T) (hb : b2 ≤ b1) : TreeOwn w b2 lo n ac po m pc lvs T :=
  ⟨h.ln, h.lm, h.lv, h.el.low hb, h.ep.low hb, fun i q u e1 e2 => (h.lo i q u e1 e2).low hb, h.wf, h.wl⟩
theorem TreeOwn.rowK {α : Type} {cells : α → List Value} {size : Nat} {w w' : World} {base b2 : Nat} {lo po : Option Addr} {n ac m pc : Nat} {lvs : List Value} {T : TreeT} {v : Value} {e : TypeId} {L : List α} (h : TreeOwn w b2 lo n ac po m pc lvs T) (gr : w.grownBy w' v.ownBlock) (ho : ROwn cells size w base e v L) (h1 : 144 ≠ e) (h2 : 126 ≠ e) (h3 : 3 ≠ e) : TreeOwn w' b2 lo n ac po m pc lvs T :=
  ⟨h.ln, h.lm, h.lv, h.el.kept gr (rows_apart h.el ho h1), h.ep.kept gr (rows_apart h.ep ho h2), fun i q u e1 e2 => by
    obtain ⟨ao, c, h4, h5⟩ := h.lo i q u e1 e2
    exact ⟨ao, c, h4, h5.kept gr (rows_apart h5 ho h3)⟩, h.wf, h.wl⟩
theorem rer_allV {α : Type} {cells : α → List Value} {size : Nat} {w : World} {base : Nat} {e : TypeId} {L : List α} {f : FrA} {lv pv kv iv : Value} {me : Int} {ir : List UInt8} {ib : Nat} {fk : Int} {av : Value} {sn : Int} {ex ep : List UInt8} (ho : ROwn cells size w base e av L) (hl : lv.oneCell' = true := by rfl) (hp : pv.oneCell' = true := by rfl) (hk : kv.oneCell' = true := by rfl) (hi : iv.oneCell' = true := by rfl) : (reraCells f lv pv me kv ir ib iv fk av sn ex ep).toArray.all (·.oneCell') = true := by
  obtain ⟨ao, c, rfl⟩ := ROwn.slice ho
  exact reraCells_all _ _ _ _ _ _ _ _ _ _ _ _ _ hl hp hk hi rfl
theorem rapps_len (Ap : List UInt8) (h : Ap.length = 32) (i : Nat) : ((rappsOf Ap h i).zip (List.replicate i (Value.slice none 0 0))).length = i := by simp [rappsOf]
theorem bad_at {l : List Int} (h : l.any badN = false) {i : Nat} {x : Int} (hx : l[i]? = some x) : ¬ x < 0 ∧ ¬ 4611686018427387903 < x := by
  have := List.any_eq_false.1 h x (List.mem_of_getElem? hx)
  simp [badN] at this
  omega
set_option maxHeartbeats 16000000 in
set_option maxRecDepth 100000 in
theorem REMake_calls (f : FrA) (lo po : Option Addr) (n ac m pc : Nat) (lvs : List Value) (T : TreeT) (me : Int) (J Wl Ep In Cf Ap Ex : List UInt8) (w : World) (hT : TreeIs w lo n ac po m pc lvs T) (hn : n ≤ 64) (hm : m ≤ 1000000) (hw : ∀ q ∈ T.pars, q.loose.length ≤ 1000000)
    (hR : rightT T = true) (hp : ¬ (if me < 1 then -1 else firstL me T.leaves) < 0) (hd0 : 0 ≤ f.dep) (hd1 : f.dep ≤ 4611686018427387903) (hti : f.times.any badN = false)
    (h1 : J.length = 32) (h2 : Wl.length = 32) (h3 : Ep.length = 32) (h4 : In.length = 32) (h5 : Cf.length = 32) (h6 : Ap.length = 32) (h7 : Ex.length = 32) :
    Calls Tryz.prog 54 #[.agg (f.cells (.slice lo n ac) (.slice po m pc)).toArray, .int .i64 me, .slice none 0 0, .agg ((s7 J Wl Ep In Cf Ap Ex).map bv).toArray] w fun e w' => ∃ M, e = .returned (.tuple #[.agg (rerC M ⟨f, T, me, In, rappsOf Ap h6 n, 0, Ex, Ep, h4, h7, h3⟩).toArray, .int .i64 0]) ∧ RMemIs w' w.heap.size M ⟨f, T, me, In, rappsOf Ap h6 n, 0, Ex, Ep, h4, h7, h3⟩ ∧ Below w.heap.size w w' := by
  obtain ⟨N, hN⟩ : ∃ N, N = w.heap.size := ⟨_, rfl⟩
  have HN : Hid (N = w.heap.size) := hN
  have hF : Blk (((w.alloc (.cells (f.cells (.slice lo n ac) (.slice po m pc)).toArray 39)).alloc (.cells ((s7 J Wl Ep In Cf Ap Ex).map bv).toArray 133)).alloc (.cells Tryz.zeroCells45 45)) N (f.cells (.slice lo n ac) (.slice po m pc)).toArray 39 := by rw [hN]; exact ((Blk.new _ _ _).alloc _).alloc _
  have hS : Blk (((w.alloc (.cells (f.cells (.slice lo n ac) (.slice po m pc)).toArray 39)).alloc (.cells ((s7 J Wl Ep In Cf Ap Ex).map bv).toArray 133)).alloc (.cells Tryz.zeroCells45 45)) (N + 1) ((s7 J Wl Ep In Cf Ap Ex).map bv).toArray 133 := by rw [hN]; exact (blk_nxt _ _ _ _).alloc _
  have hZ : Blk (((w.alloc (.cells (f.cells (.slice lo n ac) (.slice po m pc)).toArray 39)).alloc (.cells ((s7 J Wl Ep In Cf Ap Ex).map bv).toArray 133)).alloc (.cells Tryz.zeroCells45 45)) (N + 2) zeroRE.toArray 45 := by have h := Blk.new ((w.alloc (.cells (f.cells (.slice lo n ac) (.slice po m pc)).toArray 39)).alloc (.cells ((s7 J Wl Ep In Cf Ap Ex).map bv).toArray 133)) Tryz.zeroCells45 45; have e : ((w.alloc (.cells (f.cells (.slice lo n ac) (.slice po m pc)).toArray 39)).alloc (.cells ((s7 J Wl Ep In Cf Ap Ex).map bv).toArray 133)).heap.size = N + 2 := (by rw [hN]; simp); rw [e] at h; exact (show Tryz.zeroCells45 = zeroRE.toArray by kernel_rfl) ▸ h
  have hb0 : Below N w (((w.alloc (.cells (f.cells (.slice lo n ac) (.slice po m pc)).toArray 39)).alloc (.cells ((s7 J Wl Ep In Cf Ap Ex).map bv).toArray 133)).alloc (.cells Tryz.zeroCells45 45)) := by rw [hN]; exact (((Below.refl _ _).alloc (Nat.le_refl _) _).alloc (by simp) _).alloc (by simp; omega) _
  have HTB : Hid (∀ y, Below N w y → TreeIs y lo n ac po m pc lvs T) := fun y hy => hT.below (by rw [← hN]; exact hy)
  have cR : ∀ y, TreeIs y lo n ac po m pc lvs T → Calls Tryz.prog 129 #[.agg #[.slice lo n ac, .slice po m pc]] y fun e w' => e = .returned (.bool true) ∧ Below y.heap.size y w' := fun y hy => by rw [← hR]; exact RRight_calls lo po n ac m pc lvs T y hy (by omega) hm
  obtain ⟨pl, hpl⟩ : ∃ pl, pl = (if me < 1 then -1 else firstL me T.leaves) := ⟨_, rfl⟩
  have cP : ∀ y, TreeIs y lo n ac po m pc lvs T → Calls Tryz.prog 89 #[.agg #[.slice lo n ac, .slice po m pc], .int .i64 me] y fun e w' => e = .returned (.int .i64 pl) ∧ Below y.heap.size y w' := fun y hy => by rw [hpl]; exact RPlace_calls _ _ _ _ _ _ _ _ _ y hy (by omega)
  have cK : ∀ y, N ≤ y.heap.size → TreeIs y lo n ac po m pc lvs T → Calls Tryz.prog 130 #[.agg #[.slice lo n ac, .slice po m pc], .slice none 0 0] y fun e w' => ∃ ao c, e = .returned (.slice ao 0 c) ∧ Hid (ROwn KeyA.cells 33 w' N 142 (.slice ao 0 c) []) ∧ Below y.heap.size y w' := fun y hle hy => (RKeep0_calls lo po n ac m pc lvs T y hy (by omega) hm hR).mono (by rintro e w' ⟨ao, c, he, h2, h3⟩; exact ⟨ao, c, he, h2.low hle, h3⟩)
  have cC : ∀ y, N ≤ y.heap.size → TreeIs y lo n ac po m pc lvs T → Calls Tryz.prog 131 #[.agg #[.slice lo n ac, .slice po m pc]] y fun e w' => ∃ lao lc pao pc2 cur, e = .returned (.agg #[.slice lao n lc, .slice pao m pc2]) ∧ Hid (TreeOwn w' N lao n lc pao m pc2 cur T) ∧ Below y.heap.size y w' := fun y hle hy => (RCopy_calls lo po n ac m pc lvs T y hy (by omega) hm hw).mono (by rintro e w' ⟨lao, lc, pao, pc2, cur, he, h2, h3⟩; exact ⟨lao, lc, pao, pc2, cur, he, h2.lowR hle, h3⟩)
  have hnp : ¬ pl < 0 := by rw [hpl]; exact hp
  have hd2 : ¬ f.dep < 0 := by omega
  have hd3 : ¬ 4611686018427387903 < f.dep := by omega
  have HTI := Lib.hid hti
  have HN64 := Lib.hid hn
  have cA : ∀ y (i : Nat), i < 64 → Calls Tryz.prog 132 #[.agg (Ap.map bv).toArray, .int .i64 i] y fun e w' => e = .returned (.agg ((appT Ap i).map bv).toArray) ∧ Below y.heap.size y w' := fun y i hi => by have h := RefApp_calls Ap (i : Int) y h6 (by omega) (by omega); rwa [Int.toNat_natCast] at h
  have H3 := Lib.hid h3
  have H4 := Lib.hid h4
  have H6 : Hid (Ap.length = 32) := h6
  have H7 := Lib.hid h7
  have hsx : ∀ y : World, y.rangeAt (N + 1) 0 ((s7 J Wl Ep In Cf Ap Ex).map bv) → y.rangeAt (N + 1) 64 (Ep.map bv) ∧ y.rangeAt (N + 1) 96 (In.map bv) ∧ y.rangeAt (N + 1) 160 (Ap.map bv) ∧ y.rangeAt (N + 1) 192 (Ex.map bv) := fun y hy => by
    have := s7_at h1 h2 h3 h4 h5 h6 hy
    simpa using this
  have HLN := Lib.hid hT.ln
  clear hT hn hm hw hR hp hd0 hd1 hti h1 h2 h5 hpl
  go_enter Tryz.func54, Tryz.ntmps54
  go_upto_region 1 with (fail)
  rw [← hN]
  rw [show N + 1 + 1 = N + 2 from rfl]
  clear hN
  obtain ⟨w0, hw0⟩ : ∃ z, z = ((w.alloc (.cells (f.cells (.slice lo n ac) (.slice po m pc)).toArray 39)).alloc (.cells ((s7 J Wl Ep In Cf Ap Ex).map bv).toArray 133)).alloc (.cells Tryz.zeroCells45 45) := ⟨_, rfl⟩
  rw [← hw0] at hF hS hZ hb0 ⊢
  clear hw0
  have ltree := fr_tree _ _ _ (blk_rangeP hF)
  have hcd := hF.cell 64 _ (by rw [List.getElem?_toArray]; exact fr_dep _ _ _)
  go_wp2_with ((with_reducible show wpList _ _ _ (⟨some 14, _, _, _, _, _⟩ :: _) _ _); refine wpList_load_mid rfl 27 (.tmp 13) rfl (N) 65 (by rfl) ([.slice lo n ac, .slice po m pc]) _ (ltree) Tryz.underlying27 rfl (Tryz.sizeTree) ?_)
  have ltq3 : N < w0.heap.size := hF.lt
  have ltq4 : (N + 1) < w0.heap.size := hS.lt
  have ltq5 : (N + 2) < w0.heap.size := hZ.lt
  refine (cR _ (HTB.out _ hb0)).mono ?_
  rintro e wq1 ⟨rfl, bq2⟩
  have hCq6 := hF.below bq2 hF.lt
  have hCq7 := hS.below bq2 hS.lt
  have hCq8 := hZ.below bq2 hZ.lt
  have hBq9 := hb0.trans (bq2.mono (Nat.le_trans (Nat.le_of_eq HN.out) hb0.size))
  clear hF hS hZ hb0
  clear bq2
  have hcd2 := hCq6.cell 64 _ (by rw [List.getElem?_toArray]; exact fr_dep _ _ _)
  clear hcd ltree
  go_wp2_with (first | ((with_reducible show wpList _ _ _ (⟨some 19, _, _, _, _, _⟩ :: _) _ _); refine wpList_if (by rfl) (wp_load1 3 (.tmp 18) rfl (N) 64 (by rfl) _ _ (hcd2) Tryz.underlying3 rfl ?_)) | ((with_reducible show wpList _ _ _ (⟨some 24, _, _, _, _, _⟩ :: _) _ _); refine wpList_if (by rfl) (wp_load1 3 (.tmp 23) rfl (N) 64 (by rfl) _ _ (hcd2) Tryz.underlying3 rfl ?_)))
  clear hcd2
  have HF1 := Lib.hid hCq6
  have HS1 := Lib.hid hCq7
  have HZ1 := Lib.hid hCq8
  have HB1 := Lib.hid hBq9
  obtain ⟨w1, hw1⟩ : ∃ z, z = wq1 := ⟨_, rfl⟩
  rw [← hw1] at HF1 HS1 HZ1 HB1 ⊢
  clear hw1 hCq6 hCq7 hCq8 hBq9
  go_loopw [10] (fun j wr => ∃ (i : Nat), i ≤ 64 ∧ j = .int .i64 i ∧ wr = w1) (fun j _ => 64 - (intOf j).toNat)
  case atStart => exact ⟨0, by omega, rfl, rfl⟩
  case round =>
    obtain ⟨i, hi, rfl, rfl⟩ := hrel
    by_cases hlt : i < 64
    · obtain ⟨x, hx⟩ : ∃ x, f.times[i]? = some x := ⟨_, List.getElem?_eq_getElem (by rw [f.ht]; exact hlt)⟩
      obtain ⟨hx0, hx1⟩ := bad_at HTI.out hx
      have hct := HF1.out.cell (99 + i) _ (by rw [List.getElem?_toArray]; exact fr_time _ _ _ i x hx)
      clear hx
      go_wp2_with (first | ((with_reducible show wpList _ _ _ (⟨some 35, _, _, _, _, _⟩ :: _) _ _); refine wpList_load1 rfl 3 (.tmp 34) rfl N (99 + i) (by rfl) _ _ hct Tryz.underlying3 rfl ?_) | ((with_reducible show wpList _ _ _ (⟨some 41, _, _, _, _, _⟩ :: _) _ _); refine wpList_if (by rfl) (wp_load1 3 (.tmp 40) rfl N (99 + i) (by rfl) _ _ hct Tryz.underlying3 rfl ?_)))
      go_roundw
      case rel => exact ⟨i + 1, by omega, by go_num, trivial⟩
      case measure => simp [intOf]; omega
    · obtain rfl : i = 64 := by omega
      have hF1 := HF1.out
      have hS1 := HS1.out
      have hZ1 := HZ1.out
      have hB1 := HB1.out
      have ltree := fr_tree _ _ _ (blk_rangeP hF1)
      clear HF1 HS1 HZ1 HB1
      go_wp2_with ((with_reducible show wpList _ _ _ (⟨some 46, _, _, _, _, _⟩ :: _) _ _); refine wpList_load_mid rfl 27 (.tmp 45) rfl (N) 65 (by rfl) ([.slice lo n ac, .slice po m pc]) _ (ltree) Tryz.underlying27 rfl (Tryz.sizeTree) ?_)
      have ltq12 : N < wr.heap.size := hF1.lt
      have ltq13 : (N + 1) < wr.heap.size := hS1.lt
      have ltq14 : (N + 2) < wr.heap.size := hZ1.lt
      refine (cP _ (HTB.out _ hB1)).mono ?_
      rintro e wq10 ⟨rfl, bq11⟩
      have hCq15 := hF1.below bq11 hF1.lt
      have hCq16 := hS1.below bq11 hS1.lt
      have hCq17 := hZ1.below bq11 hZ1.lt
      have hBq18 := hB1.trans (bq11.mono (Nat.le_trans (Nat.le_of_eq HN.out) hB1.size))
      clear hF1 hS1 hZ1 hB1
      clear bq11
      clear ltree
      go_wp2_with fail
      refine wp_region_held_drew (S := fun x => Blk x (N) (f.cells (.slice lo n ac) (.slice po m pc)).toArray 39 ∧ Blk x (N + 1) ((s7 J Wl Ep In Cf Ap Ex).map bv).toArray 133 ∧ Blk x (N + 2) zeroRE.toArray 45 ∧ Below N w x) (by kernel_rfl) ⟨hCq15.drew, hCq16.drew, hCq17.drew, below_drewN hBq18 1⟩ (fun hSq19 => ?_)
      refine wpAnyH_take (i := 0) rfl (by kernel_rfl) (by kernel_rfl) (by kernel_rfl) (fun _ _ _ h => h) (yieldsIf_load_mid (by rfl) 39 (.tmp 4) rfl (N) (0) (by rfl) ((f.cells (.slice lo n ac) (.slice po m pc))) _ (fun x hx => blk_rangeP hx.1) Tryz.underlying39 rfl (by rw [FrA.cells_len]; exact Tryz.sizeRFrame)) hSq19 ?_
      simp only [Act.put, List.getElem_toArray, List.getElem_cons_zero, List.getElem_cons_succ, List.setIfInBounds_toArray, List.set_cons_zero, List.set_cons_succ]
      refine wpAnyH_take (i := 1) (v := .int .i64 me) rfl (by kernel_rfl) (by kernel_rfl) (by kernel_rfl) (fun _ _ _ h => h) (Or.inl ⟨by rfl, fun x hx => by go_simp⟩) hSq19 ?_
      simp only [Act.put, List.getElem_toArray, List.getElem_cons_zero, List.getElem_cons_succ, List.setIfInBounds_toArray, List.set_cons_zero, List.set_cons_succ]
      refine wpAnyH_take (i := 2) (v := .pointer (some ⟨N, 65, none⟩)) rfl (by kernel_rfl) (by kernel_rfl) (by kernel_rfl) (fun _ _ _ h => h) (Or.inl ⟨by rfl, fun x hx => by go_simp⟩) hSq19 ?_
      simp only [Act.put, List.getElem_toArray, List.getElem_cons_zero, List.getElem_cons_succ, List.setIfInBounds_toArray, List.set_cons_zero, List.set_cons_succ]
      refine wpAnyH_take (i := 3) rfl (by kernel_rfl) (by kernel_rfl) (by kernel_rfl) (fun _ _ _ h => h) (yieldsIf_load_mid (by rfl) 27 (.tmp 53) rfl (N) (65) (by rfl) ([.slice lo n ac, .slice po m pc]) _ (fun x hx => fr_tree _ _ _ (blk_rangeP hx.1)) Tryz.underlying27 rfl (Tryz.sizeTree)) hSq19 ?_
      simp only [Act.put, List.getElem_toArray, List.getElem_cons_zero, List.getElem_cons_succ, List.setIfInBounds_toArray, List.set_cons_zero, List.set_cons_succ]
      refine wpAnyH_take (i := 4) (v := .slice none 0 0) rfl (by kernel_rfl) (by kernel_rfl) (by kernel_rfl) (fun _ _ _ h => h) (Or.inl ⟨by rfl, fun x hx => by go_simp⟩) hSq19 ?_
      simp only [Act.put, List.getElem_toArray, List.getElem_cons_zero, List.getElem_cons_succ, List.setIfInBounds_toArray, List.set_cons_zero, List.set_cons_succ]
      refine wpAnyH_take (i := 6) (v := .pointer (some ⟨N + 1, 192, none⟩)) rfl (by kernel_rfl) (by kernel_rfl) (by kernel_rfl) (fun _ _ _ h => h) (Or.inl ⟨by rfl, fun x hx => by go_simp⟩) hSq19 ?_
      simp only [Act.put, List.getElem_toArray, List.getElem_cons_zero, List.getElem_cons_succ, List.setIfInBounds_toArray, List.set_cons_zero, List.set_cons_succ]
      refine wpAnyH_take (i := 7) rfl (by kernel_rfl) (by kernel_rfl) (by kernel_rfl) (fun _ _ _ h => h) (yieldsIf_load_mid (by rfl) 22 (.tmp 57) rfl (N + 1) (192) (by rfl) ((Ex.map bv)) _ (fun x hx => (hsx _ (blk_rangeP hx.2.1)).2.2.2) Tryz.underlying22 rfl (by rw [List.length_map, H7.out]; exact Tryz.sizeA32)) hSq19 ?_
      simp only [Act.put, List.getElem_toArray, List.getElem_cons_zero, List.getElem_cons_succ, List.setIfInBounds_toArray, List.set_cons_zero, List.set_cons_succ]
      refine wpAnyH_take (i := 8) (v := .pointer (some ⟨N + 1, 64, none⟩)) rfl (by kernel_rfl) (by kernel_rfl) (by kernel_rfl) (fun _ _ _ h => h) (Or.inl ⟨by rfl, fun x hx => by go_simp⟩) hSq19 ?_
      simp only [Act.put, List.getElem_toArray, List.getElem_cons_zero, List.getElem_cons_succ, List.setIfInBounds_toArray, List.set_cons_zero, List.set_cons_succ]
      refine wpAnyH_take (i := 9) rfl (by kernel_rfl) (by kernel_rfl) (by kernel_rfl) (fun _ _ _ h => h) (yieldsIf_load_mid (by rfl) 22 (.tmp 59) rfl (N + 1) (64) (by rfl) ((Ep.map bv)) _ (fun x hx => (hsx _ (blk_rangeP hx.2.1)).1) Tryz.underlying22 rfl (by rw [List.length_map, H3.out]; exact Tryz.sizeA32)) hSq19 ?_
      simp only [Act.put, List.getElem_toArray, List.getElem_cons_zero, List.getElem_cons_succ, List.setIfInBounds_toArray, List.set_cons_zero, List.set_cons_succ]
      refine wpAnyH_ready (rs := [5, 11]) (by kernel_rfl) (by simp) ?_
      refine AllReadyH.cons rfl (fun K hK => ?_) ?_
      · go_simp
        go_wp2_with (go_at_call 130; refine (cK _ (Nat.le_trans (Nat.le_of_eq HN.out) hSq19.2.2.2.size) (HTB.out _ hSq19.2.2.2)).mono ?_; rintro e yq20 ⟨ao3, c3, rfl, HKO, bq21⟩)
        refine hK.out _ _ ⟨hSq19.1.below bq21 hSq19.1.lt, hSq19.2.1.below bq21 hSq19.2.1.lt, hSq19.2.2.1.below bq21 hSq19.2.2.1.lt, hSq19.2.2.2.trans (bq21.mono (Nat.le_trans (Nat.le_of_eq HN.out) hSq19.2.2.2.size))⟩ (fun hSq22 => ?_)
        clear hK K hSq19 bq21
        refine wpAnyH_take (i := 10) rfl (by kernel_rfl) (by kernel_rfl) (by kernel_rfl) (fun _ _ _ h => h) (yieldsIf_build (by rfl) 45 #[(0, .tmp 51), (1, .tmp 52), (2, .tmp 56), (7, .tmp 58), (8, .tmp 60)] rfl (reraCells f (.slice lo n ac) (.slice po m pc) me (.slice ao3 0 c3) z32L 0 (.slice none 0 0) 0 (.slice none 0 0) 0 Ex Ep).toArray (Tryz.builtREra f _ _ me _ Ex Ep rfl H7.out H3.out)) hSq22 ?_
        simp only [Act.put, List.getElem_toArray, List.getElem_cons_zero, List.getElem_cons_succ, List.setIfInBounds_toArray, List.set_cons_zero, List.set_cons_succ]
        refine wpAnyH_ready (rs := [11]) (by kernel_rfl) (by simp) ?_
        refine AllReadyH.cons rfl (fun K hK => ?_) AllReadyH.nil
        rw [if_pos (by rfl)]
        refine wp_allocZ 45 rfl _ Tryz.zeroREra ?_
        intro gq26 yq24 egq27 ezq28 bq23 hEq25
        have lgq29 : N ≤ gq26 := by rw [egq27]; exact Nat.le_trans (Nat.le_of_eq HN.out) hSq22.2.2.2.size
        have lbq30 : N < gq26 := by rw [egq27]; exact hSq22.1.lt
        have lbq31 : N + 1 < gq26 := by rw [egq27]; exact hSq22.2.1.lt
        have lbq32 : N + 2 < gq26 := by rw [egq27]; exact hSq22.2.2.1.lt
        have hHq33 := Lib.hid (HKO.out.below bq23)
        refine hK.out _ _ ⟨hSq22.1.below bq23 hSq22.1.lt, hSq22.2.1.below bq23 hSq22.2.1.lt, hSq22.2.2.1.below bq23 hSq22.2.2.1.lt, hSq22.2.2.2.trans (bq23.mono (Nat.le_trans (Nat.le_of_eq HN.out) hSq22.2.2.2.size))⟩ (fun hSq34 => ?_)
        clear hK K hSq22 bq23 egq27 ezq28
        refine wpAnyH_ready (rs := [12]) (by kernel_rfl) (by simp) ?_
        refine AllReadyH.cons rfl (fun K hK => ?_) AllReadyH.nil
        rw [if_pos (by rfl)]
        refine wp_storeBlk 45 (.tmp 11) (.tmp 61) rfl gq26 (reraCells f (.slice lo n ac) (.slice po m pc) me (.slice ao3 0 c3) z32L 0 (.slice none 0 0) 0 (.slice none 0 0) 0 Ex Ep).toArray (by rfl) (by rfl) _ _ hEq25 (by rw [List.size_toArray, reraCells_len _ _ _ _ _ _ _ _ _ _ _ _ _ (by rfl) H7.out H3.out]; exact Tryz.sizeREra) (by rw [List.size_toArray, List.size_toArray, reraCells_len _ _ _ _ _ _ _ _ _ _ _ _ _ (by rfl) H7.out H3.out]; exact reraCells_len _ _ _ _ _ _ _ _ _ _ _ _ _ rfl rfl rfl) (reraCells_all _ _ _ _ _ _ _ _ _ _ _ _ _ rfl rfl rfl rfl rfl) ?_
        intro yq35 hEq36 grq37
        have hHq38 := Lib.hid (hHq33.out.other grq37 hEq25 (by decide))
        refine hK.out _ _ ⟨hSq34.1.grown grq37 (by first | (simp; done) | (simp; omega) | omega), hSq34.2.1.grown grq37 (by first | (simp; done) | (simp; omega) | omega), hSq34.2.2.1.grown grq37 (by first | (simp; done) | (simp; omega) | omega), below_new hSq34.2.2.2 grq37 lgq29 (Nat.le_trans (Nat.le_of_eq HN.out) hSq34.2.2.2.size)⟩ (fun hSq39 => ?_)
        clear hK K hSq34
        refine wpAnyH_done (by kernel_rfl) ?_ _
        obtain ⟨eb, heb⟩ : ∃ z, z = gq26 := ⟨_, rfl⟩
        have HEB : Hid (N + 2 < gq26) := by show N + 2 < _; assumption
        rw [← heb] at HEB hEq36 lgq29 ⊢
        have HLE : Hid (N ≤ eb) := lgq29
        have HF5 := Lib.hid (hSq39.1)
        have HS5 := Lib.hid (hSq39.2.1)
        have HZ5 := Lib.hid (hSq39.2.2.1)
        have HB5 := Lib.hid (hSq39.2.2.2)
        have HE5 := Lib.hid hEq36
        have HK5 : Hid (ROwn KeyA.cells 33 yq35 N 142 (.slice ao3 0 c3) []) := hHq38.out
        clear heb hSq39 hEq36 lgq29 hHq38
        have ltree := fr_tree _ _ _ (blk_rangeP HF5.out)
        go_wp2_with ((with_reducible show wpList _ _ _ (⟨some 63, _, _, _, _, _⟩ :: _) _ _); refine wpList_load_mid rfl 27 (.tmp 62) rfl (N) 65 (by rfl) ([.slice lo n ac, .slice po m pc]) _ (ltree) Tryz.underlying27 rfl (Tryz.sizeTree) ?_)
        clear ltree
        refine (cC _ (Nat.le_trans (Nat.le_of_eq HN.out) HB5.out.size) (HTB.out _ HB5.out)).mono ?_
        rintro e w6 ⟨lao, lc, pao, pc2, cur, rfl, HT6, b6⟩
        have hE6 := HE5.out.below b6 HE5.out.lt
        have hS6 := HS5.out.below b6 HS5.out.lt
        have hF6 := HF5.out.below b6 HF5.out.lt
        have hZ6 := HZ5.out.below b6 HZ5.out.lt
        have HK6 := Lib.hid (HK5.out.below b6)
        have hB6 := HB5.out.trans (b6.mono (Nat.le_trans (Nat.le_of_eq HN.out) HB5.out.size))
        clear HE5 HS5 HK5 HB5 HF5 HZ5 b6 cC
        go_wp2_with (first | ((with_reducible show wpList _ _ _ (⟨none, Op.store _ (.tmp 66) _, _, _, _, _⟩ :: _) _ _); refine wpList_storeV rfl 27 (.tmp 66) (.tmp 64) rfl eb 65 (.agg #[.slice lao n lc, .slice pao m pc2]) (by rfl) (by rfl) 45 _ _ _ _ [.slice lao n lc, .slice pao m pc2] hE6 (rer_splitT ..) (fr_preT f) (by rfl) (by rfl) (by intro x hx; simp at hx; rcases hx with rfl | rfl <;> rfl) Tryz.sizeTree ?_; intro w7 hE7 g7; rw [← rer_splitT] at hE7; have hS7 := hS6.grown g7 (fun e => by have := HEB.out; have e2 := Option.some.inj e; omega); have hF7 := hF6.grown g7 (fun e => by have := HEB.out; have e2 := Option.some.inj e; omega); have hZ7 := hZ6.grown g7 (fun e => by have := HEB.out; have e2 := Option.some.inj e; omega); have HK7 := Lib.hid (HK6.out.other g7 hE6 (by decide)); have HT7 := Lib.hid (HT6.out.other g7 hE6 (by decide) (by decide) (by decide)); have hB7 := hB6.grown g7 (Nat.le_trans (Nat.le_of_eq HN.out) hB6.size) (fun q e => by cases e; exact HLE.out); clear hE6 hS6 hF6 hZ6 HK6 HT6 hB6 g7; have hin := (hsx _ (blk_rangeP hS7)).2.1) | ((with_reducible show wpList _ _ _ (⟨some 68, _, _, _, _, _⟩ :: _) _ _); refine wpList_load_mid rfl 22 (.tmp 67) rfl (N + 1) 96 (by rfl) (In.map bv) _ (hin) Tryz.underlying22 rfl (by rw [List.length_map, H4.out]; exact Tryz.sizeA32) ?_) | ((with_reducible show wpList _ _ _ (⟨some 69, _, _, _, _, _⟩ :: _) _ _); refine wpList_buildCells rfl 42 #[(0, .tmp 68), (1, .const (.int .i64 32))] rfl ((rcells In 32 (Value.slice none 0 0)).toArray) (Tryz.builtR6 32 In H4.out) ?_) | ((with_reducible show wpList _ _ _ (⟨none, Op.store _ (.tmp 70) _, _, _, _, _⟩ :: _) _ _); refine wpList_storeV rfl 42 (.tmp 70) (.tmp 69) rfl eb 165 (.agg (rcells In 32 (Value.slice none 0 0)).toArray) (by rfl) (by rfl) 45 _ _ _ _ (rcells In 32 (Value.slice none 0 0)) hE7 (rer_splitI ..) (rer_preI ..) (by rw [rcells_len _ _ _ (by rfl), rcells_len _ _ _ H4.out]) (by rfl) (rrowC_one (⟨In, 32, [], H4.out⟩, (Value.slice none 0 0))) (by rw [rcells_len _ _ _ H4.out]; exact Tryz.sizeRow6) ?_; intro w8 hE8 g8; rw [← rer_splitI] at hE8; have hS8 := hS7.grown g8 (fun e => by have := HEB.out; have e2 := Option.some.inj e; omega); have hF8 := hF7.grown g8 (fun e => by have := HEB.out; have e2 := Option.some.inj e; omega); have hZ8 := hZ7.grown g8 (fun e => by have := HEB.out; have e2 := Option.some.inj e; omega); have HK8 := Lib.hid (HK7.out.other g8 hE7 (by decide)); have HT8 := Lib.hid (HT7.out.other g8 hE7 (by decide) (by decide) (by decide)); have hB8 := hB7.grown g8 (Nat.le_trans (Nat.le_of_eq HN.out) hB7.size) (fun q e => by cases e; exact HLE.out); clear hE7 hS7 hF7 hZ7 HK7 HT7 hB7 g8 hin))
        have HMI : Hid (RmSt N eb n m f ((s7 J Wl Ep In Cf Ap Ex).map bv) (f.cells (.slice lo n ac) (.slice po m pc)).toArray T me lao pao ao3 lc pc2 c3 cur In (Value.slice none 0 0) Ap H6.out 0 Ex Ep w8) := ⟨hE8, hS8, hF8, hZ8, HT8.out, HK8.out, ROwn.nil _ _ _⟩
        have HB8 := Lib.hid hB8
        clear hE8 hS8 hF8 hZ8 HT8 HK8 hB8
        go_loopw [12] (fun j wr => ∃ (i : Nat) (av : Value), i ≤ n ∧ j = .int .i64 i ∧ Hid (RmSt N eb n m f ((s7 J Wl Ep In Cf Ap Ex).map bv) (f.cells (.slice lo n ac) (.slice po m pc)).toArray T me lao pao ao3 lc pc2 c3 cur In av Ap H6.out i Ex Ep wr) ∧ Hid (Below N w wr)) (fun j _ => n - (intOf j).toNat)
        case atStart => exact ⟨0, _, by omega, rfl, HMI, HB8⟩
        case round =>
          clear HMI HB8
          obtain ⟨i, av, hi, rfl, HM, HB⟩ := hrel
          have hcl := HM.out.pf.cell 65 _ (by rw [List.getElem?_toArray]; exact fr_lv _ _ _)
          by_cases hlt : i < n
          · have H64 : Hid (i < 64) := by have := HN64.out; show i < 64; omega
            have HTK : Hid (((rappsOf Ap H6.out i).zip (List.replicate i (Value.slice none 0 0))).length = i) := rapps_len _ _ _
            have hR := HM.out.pav.drew
            have hO := HM.out.pe.drew
            have hT := HM.out.pt.below (below_drewN (Below.refl _ _) 1)
            have hKy := HM.out.pk.drew
            have hF := HM.out.pf
            have hS := HM.out.ps
            have hZ := HM.out.pz
            have hB := HB.out
            clear HM HB
            go_wp2_with ((with_reducible show wpList _ _ _ (⟨some 74, _, _, _, _, _⟩ :: _) _ _); refine wpList_load1 rfl 24 (.tmp 73) rfl N 65 (by rfl) _ _ hcl Tryz.underlying24 rfl ?_)
            clear hcl
            refine wp_region_held_drew (S := fun x => Blk x (N) (f.cells (.slice lo n ac) (.slice po m pc)).toArray 39 ∧ Blk x (N + 1) ((s7 J Wl Ep In Cf Ap Ex).map bv).toArray 133 ∧ Blk x (N + 2) zeroRE.toArray 45 ∧ Below N w x) (by kernel_rfl) ⟨hF.drew, hS.drew, hZ.drew, below_drewN hB 1⟩ (fun hSq40 => ?_)
            refine wpAnyH_take (i := 0) (v := .pointer (some ⟨eb, 200, none⟩)) rfl (by kernel_rfl) (by kernel_rfl) (by kernel_rfl) (fun _ _ _ h => h) (Or.inl ⟨by rfl, fun x hx => by go_simp⟩) hSq40 ?_
            simp only [Act.put, List.getElem_toArray, List.getElem_cons_zero, List.getElem_cons_succ, List.setIfInBounds_toArray, List.set_cons_zero, List.set_cons_succ]
            refine wpAnyH_take (i := 2) (v := .pointer (some ⟨N + 1, 160, none⟩)) rfl (by kernel_rfl) (by kernel_rfl) (by kernel_rfl) (fun _ _ _ h => h) (Or.inl ⟨by rfl, fun x hx => by go_simp⟩) hSq40 ?_
            simp only [Act.put, List.getElem_toArray, List.getElem_cons_zero, List.getElem_cons_succ, List.setIfInBounds_toArray, List.set_cons_zero, List.set_cons_succ]
            refine wpAnyH_take (i := 3) rfl (by kernel_rfl) (by kernel_rfl) (by kernel_rfl) (fun _ _ _ h => h) (yieldsIf_load_mid (by rfl) 22 (.tmp 81) rfl (N + 1) (160) (by rfl) ((Ap.map bv)) _ (fun x hx => (hsx _ (blk_rangeP hx.2.1)).2.2.1) Tryz.underlying22 rfl (by rw [List.length_map, H6.out]; exact Tryz.sizeA32)) hSq40 ?_
            simp only [Act.put, List.getElem_toArray, List.getElem_cons_zero, List.getElem_cons_succ, List.setIfInBounds_toArray, List.set_cons_zero, List.set_cons_succ]
            refine wpAnyH_take (i := 4) (v := .int .i64 i) rfl (by kernel_rfl) (by kernel_rfl) (by kernel_rfl) (fun _ _ _ h => h) (Or.inl ⟨by rfl, fun x hx => by go_simp⟩) hSq40 ?_
            simp only [Act.put, List.getElem_toArray, List.getElem_cons_zero, List.getElem_cons_succ, List.setIfInBounds_toArray, List.set_cons_zero, List.set_cons_succ]
            refine wpAnyH_ready (rs := [1, 5]) (by kernel_rfl) (by simp) ?_
            refine AllReadyH.cons rfl (fun K hK => ?_) ?_
            · have hcq41 := hO.cell 200 _ (rer_cellA _ _ _ _ _ _ _ _ _ _ _ _ _ H4.out)
              go_simp
              clear hcq41
              refine hK.out _ _ hSq40 (fun hSq42 => ?_)
              clear hK K hSq40
              refine wpAnyH_ready (rs := [5]) (by kernel_rfl) (by simp) ?_
              refine AllReadyH.cons rfl (fun K hK => ?_) AllReadyH.nil
              go_simp
              go_wp2_with (go_at_call 132; refine (cA _ i H64.out).mono ?_; rintro e yq43 ⟨rfl, bq44⟩)
              have hRq46 := hR.below bq44
              have hOq47 := hO.below bq44 hO.lt
              have hTq48 := hT.below bq44
              have hKq49 := hKy.below bq44
              refine hK.out _ _ ⟨hSq42.1.below bq44 hSq42.1.lt, hSq42.2.1.below bq44 hSq42.2.1.lt, hSq42.2.2.1.below bq44 hSq42.2.2.1.lt, hSq42.2.2.2.trans (bq44.mono (Nat.le_trans (Nat.le_of_eq HN.out) hSq42.2.2.2.size))⟩ (fun hSq45 => ?_)
              clear hK K hSq42 bq44 hR hO hT hKy
              refine wpAnyH_take (i := 6) rfl (by kernel_rfl) (by kernel_rfl) (by kernel_rfl) (fun _ _ _ h => h) (yieldsIf_build (by rfl) 42 #[(0, .tmp 84), (1, .const (.int .i64 8))] rfl (rcells (appT Ap i) 8 (Value.slice none 0 0)).toArray (Tryz.builtR6 8 (appT Ap i) (appT_len _ _))) hSq45 ?_
              simp only [Act.put, List.getElem_toArray, List.getElem_cons_zero, List.getElem_cons_succ, List.setIfInBounds_toArray, List.set_cons_zero, List.set_cons_succ]
              refine wpAnyH_ready (rs := [7]) (by kernel_rfl) (by simp) ?_
              refine AllReadyH.cons rfl (fun K hK => ?_) AllReadyH.nil
              rw [if_pos (by rfl)]
              refine wp_bsV 43 42 (.tmp 85) rfl (.agg (rcells (appT Ap i) 8 (Value.slice none 0 0)).toArray) (by rfl) Tryz.underlying43 (.agg zR6.toArray) 34 Tryz.zsRow6 (by show (rcells (appT Ap i) 8 (.slice none 0 0)).toArray.size = 34; rw [List.size_toArray]; exact rcells_len _ _ _ (appT_len _ _)) (by omega) (by omega) ?_
              intro yq50 szq51 bq52 nbq53
              have hRq55 := hRq46.below bq52
              have hOq56 := hOq47.below bq52 hOq47.lt
              have hTq57 := hTq48.below bq52
              have hKq58 := hKq49.below bq52
              refine hK.out _ _ ⟨hSq45.1.below bq52 hSq45.1.lt, hSq45.2.1.below bq52 hSq45.2.1.lt, hSq45.2.2.1.below bq52 hSq45.2.2.1.lt, hSq45.2.2.2.trans (bq52.mono (Nat.le_trans (Nat.le_of_eq HN.out) hSq45.2.2.2.size))⟩ (fun hSq54 => ?_)
              clear hK K hSq45 bq52 szq51 hRq46 hOq47 hTq48 hKq49
              refine wpAnyH_ready (rs := [8]) (by kernel_rfl) (by simp) ?_
              refine AllReadyH.cons rfl (fun K hK => ?_) AllReadyH.nil
              rw [if_pos (by rfl)]
              refine wp_append_R (.tmp 80) (.tmp 86) 43 rfl rrowC_len rrowC_one N 42 (.agg zR6.toArray) 64 Tryz.underlying43 Tryz.infoRow63 (by rfl) (by omega) (by omega) _ ((rappsOf Ap H6.out i).zip (List.replicate i (Value.slice none 0 0))) [((⟨appT Ap i, 8, [], appT_len _ _⟩, Value.slice none 0 0) : RRow × Value)] (by rfl) hRq55 _ (by rfl) (RAt.blk nbq53) (by intro _ e; cases e) (by rw [HTK.out]; have := H64.out; simp; omega) (Nat.le_trans (Nat.le_of_eq HN.out) hSq54.2.2.2.size) ?_
              intro vq59 yq60 hRq61 gq62
              obtain ⟨aoq64, cq65, rfl⟩ := ROwn.slice hRq61
              have hRq66 := hRq55
              have hOq67 := hOq56.grown gq62 (fun e => own_ne hRq55 hOq56 (by decide) e.symm)
              have hTq68 := hTq57.rowK gq62 hRq55 (by decide) (by decide) (by decide)
              have hKq69 := ROwn.kept hKq58 gq62 (rows_apart hKq58 hRq55 (by decide))
              refine hK.out _ _ ⟨hSq54.1.grown gq62 (fun e => own_ne hRq55 hSq54.1 (by decide) e.symm), hSq54.2.1.grown gq62 (fun e => own_ne hRq55 hSq54.2.1 (by decide) e.symm), hSq54.2.2.1.grown gq62 (fun e => own_ne hRq55 hSq54.2.2.1 (by decide) e.symm), hSq54.2.2.2.grown gq62 (Nat.le_trans (Nat.le_of_eq HN.out) hSq54.2.2.2.size) (fun q e => (ROwn.lt hRq55 q e).1)⟩ (fun hSq63 => ?_)
              clear hK K hSq54 gq62 hRq55 hOq56 hTq57 hKq58 nbq53
              refine wpAnyH_take (i := 9) (v := .pointer (some ⟨eb, 200, none⟩)) rfl (by kernel_rfl) (by kernel_rfl) (by kernel_rfl) (fun _ _ _ h => h) (Or.inl ⟨by rfl, fun x hx => by go_simp⟩) hSq63 ?_
              simp only [Act.put, List.getElem_toArray, List.getElem_cons_zero, List.getElem_cons_succ, List.setIfInBounds_toArray, List.set_cons_zero, List.set_cons_succ]
              refine wpAnyH_ready (rs := [10]) (by kernel_rfl) (by simp) ?_
              refine AllReadyH.cons rfl (fun K hK => ?_) AllReadyH.nil
              rw [if_pos (by rfl)]
              refine wp_store1 43 (.tmp 88) (.tmp 87) rfl eb 200 (.slice aoq64 (((rappsOf Ap H6.out i).zip (List.replicate i (Value.slice none 0 0))) ++ [((⟨appT Ap i, 8, [], appT_len _ _⟩, Value.slice none 0 0) : RRow × Value)]).length cq65) (by rfl) (by rfl) _ _ hOq67 (by rw [List.size_toArray, reraCells_len _ _ _ _ _ _ _ _ _ _ _ _ _ H4.out H7.out H3.out]; omega) Tryz.sizeRows rfl rfl ?_
              intro yq70 hOq71 gq72
              have hOq74 : Blk yq70 eb (reraCells f (.slice lao n lc) (.slice pao m pc2) me (.slice ao3 0 c3) In 32 (.slice none 0 0) 0 (.slice aoq64 (((rappsOf Ap H6.out i).zip (List.replicate i (Value.slice none 0 0))) ++ [((⟨appT Ap i, 8, [], appT_len _ _⟩, Value.slice none 0 0) : RRow × Value)]).length cq65) 0 Ex Ep).toArray 45 := by rw [rer_setA _ _ _ _ _ _ _ _ _ _ _ _ _ H4.out] at hOq71; exact hOq71
              have hRq75 := hRq61.other gq72 hOq67 (by decide)
              have hOq76 := hOq67
              have hTq77 := hTq68.other gq72 hOq67 (by decide) (by decide) (by decide)
              have hKq78 := hKq69.other gq72 hOq67 (by decide)
              refine hK.out _ _ ⟨hSq63.1.grown gq72 (fun e => by have := HEB.out; have e2 := Option.some.inj e; omega), hSq63.2.1.grown gq72 (fun e => by have := HEB.out; have e2 := Option.some.inj e; omega), hSq63.2.2.1.grown gq72 (fun e => by have := HEB.out; have e2 := Option.some.inj e; omega), hSq63.2.2.2.grown gq72 (Nat.le_trans (Nat.le_of_eq HN.out) hSq63.2.2.2.size) (fun q e => by cases e; exact HLE.out)⟩ (fun hSq73 => ?_)
              clear hK K hSq63 gq72 hOq71 hRq61 hOq67 hTq68 hKq69
              refine wpAnyH_done (by kernel_rfl) ?_ _
              have HR9 : Hid (ROwn rrowC 34 yq70 N 42 (.slice aoq64 (((rappsOf Ap H6.out i).zip (List.replicate i (Value.slice none 0 0))) ++ [((⟨appT Ap i, 8, [], appT_len _ _⟩, Value.slice none 0 0) : RRow × Value)]).length cq65) ((rappsOf Ap H6.out (i + 1)).zip (List.replicate (i + 1) (Value.slice none 0 0)))) := by show ROwn _ _ _ _ _ _ _; rw [rapps_succ]; exact hRq75
              have HM9 : Hid (RmSt N eb n m f ((s7 J Wl Ep In Cf Ap Ex).map bv) (f.cells (.slice lo n ac) (.slice po m pc)).toArray T me lao pao ao3 lc pc2 c3 cur In (.slice aoq64 (((rappsOf Ap H6.out i).zip (List.replicate i (Value.slice none 0 0))) ++ [((⟨appT Ap i, 8, [], appT_len _ _⟩, Value.slice none 0 0) : RRow × Value)]).length cq65) Ap H6.out (i + 1) Ex Ep yq70) := ⟨hOq74, hSq73.2.1, hSq73.1, hSq73.2.2.1, hTq77, hKq78, HR9.out⟩
              have HB9 := Lib.hid (hSq73.2.2.2)
              clear hSq73 hOq74 hRq75 hTq77 hKq78 HR9
              have HW64 : Hid (wrap64 ((i : Int) + 1) = ((i + 1 : Nat) : Int)) := wrap_succ i H64.out
              go_wp2_with fail
              go_roundw
              case rel => exact ⟨i + 1, _, by omega, by rw [HW64.out], HM9, HB9⟩
              case measure => exact meas64 n i _ HW64.out hlt
            refine AllReadyH.cons rfl (fun K hK => ?_) AllReadyH.nil
            go_simp
            go_wp2_with (go_at_call 132; refine (cA _ i H64.out).mono ?_; rintro e yq79 ⟨rfl, bq80⟩)
            have hRq82 := hR.below bq80
            have hOq83 := hO.below bq80 hO.lt
            have hTq84 := hT.below bq80
            have hKq85 := hKy.below bq80
            refine hK.out _ _ ⟨hSq40.1.below bq80 hSq40.1.lt, hSq40.2.1.below bq80 hSq40.2.1.lt, hSq40.2.2.1.below bq80 hSq40.2.2.1.lt, hSq40.2.2.2.trans (bq80.mono (Nat.le_trans (Nat.le_of_eq HN.out) hSq40.2.2.2.size))⟩ (fun hSq81 => ?_)
            clear hK K hSq40 bq80 hR hO hT hKy
            refine wpAnyH_take (i := 6) rfl (by kernel_rfl) (by kernel_rfl) (by kernel_rfl) (fun _ _ _ h => h) (yieldsIf_build (by rfl) 42 #[(0, .tmp 84), (1, .const (.int .i64 8))] rfl (rcells (appT Ap i) 8 (Value.slice none 0 0)).toArray (Tryz.builtR6 8 (appT Ap i) (appT_len _ _))) hSq81 ?_
            simp only [Act.put, List.getElem_toArray, List.getElem_cons_zero, List.getElem_cons_succ, List.setIfInBounds_toArray, List.set_cons_zero, List.set_cons_succ]
            refine wpAnyH_ready (rs := [1, 7]) (by kernel_rfl) (by simp) ?_
            refine AllReadyH.cons rfl (fun K hK => ?_) ?_
            · have hcq86 := hOq83.cell 200 _ (rer_cellA _ _ _ _ _ _ _ _ _ _ _ _ _ H4.out)
              go_simp
              clear hcq86
              refine hK.out _ _ hSq81 (fun hSq87 => ?_)
              clear hK K hSq81
              refine wpAnyH_ready (rs := [7]) (by kernel_rfl) (by simp) ?_
              refine AllReadyH.cons rfl (fun K hK => ?_) AllReadyH.nil
              rw [if_pos (by rfl)]
              refine wp_bsV 43 42 (.tmp 85) rfl (.agg (rcells (appT Ap i) 8 (Value.slice none 0 0)).toArray) (by rfl) Tryz.underlying43 (.agg zR6.toArray) 34 Tryz.zsRow6 (by show (rcells (appT Ap i) 8 (.slice none 0 0)).toArray.size = 34; rw [List.size_toArray]; exact rcells_len _ _ _ (appT_len _ _)) (by omega) (by omega) ?_
              intro yq88 szq89 bq90 nbq91
              have hRq93 := hRq82.below bq90
              have hOq94 := hOq83.below bq90 hOq83.lt
              have hTq95 := hTq84.below bq90
              have hKq96 := hKq85.below bq90
              refine hK.out _ _ ⟨hSq87.1.below bq90 hSq87.1.lt, hSq87.2.1.below bq90 hSq87.2.1.lt, hSq87.2.2.1.below bq90 hSq87.2.2.1.lt, hSq87.2.2.2.trans (bq90.mono (Nat.le_trans (Nat.le_of_eq HN.out) hSq87.2.2.2.size))⟩ (fun hSq92 => ?_)
              clear hK K hSq87 bq90 szq89 hRq82 hOq83 hTq84 hKq85
              refine wpAnyH_ready (rs := [8]) (by kernel_rfl) (by simp) ?_
              refine AllReadyH.cons rfl (fun K hK => ?_) AllReadyH.nil
              rw [if_pos (by rfl)]
              refine wp_append_R (.tmp 80) (.tmp 86) 43 rfl rrowC_len rrowC_one N 42 (.agg zR6.toArray) 64 Tryz.underlying43 Tryz.infoRow63 (by rfl) (by omega) (by omega) _ ((rappsOf Ap H6.out i).zip (List.replicate i (Value.slice none 0 0))) [((⟨appT Ap i, 8, [], appT_len _ _⟩, Value.slice none 0 0) : RRow × Value)] (by rfl) hRq93 _ (by rfl) (RAt.blk nbq91) (by intro _ e; cases e) (by rw [HTK.out]; have := H64.out; simp; omega) (Nat.le_trans (Nat.le_of_eq HN.out) hSq92.2.2.2.size) ?_
              intro vq97 yq98 hRq99 gq100
              obtain ⟨aoq102, cq103, rfl⟩ := ROwn.slice hRq99
              have hRq104 := hRq93
              have hOq105 := hOq94.grown gq100 (fun e => own_ne hRq93 hOq94 (by decide) e.symm)
              have hTq106 := hTq95.rowK gq100 hRq93 (by decide) (by decide) (by decide)
              have hKq107 := ROwn.kept hKq96 gq100 (rows_apart hKq96 hRq93 (by decide))
              refine hK.out _ _ ⟨hSq92.1.grown gq100 (fun e => own_ne hRq93 hSq92.1 (by decide) e.symm), hSq92.2.1.grown gq100 (fun e => own_ne hRq93 hSq92.2.1 (by decide) e.symm), hSq92.2.2.1.grown gq100 (fun e => own_ne hRq93 hSq92.2.2.1 (by decide) e.symm), hSq92.2.2.2.grown gq100 (Nat.le_trans (Nat.le_of_eq HN.out) hSq92.2.2.2.size) (fun q e => (ROwn.lt hRq93 q e).1)⟩ (fun hSq101 => ?_)
              clear hK K hSq92 gq100 hRq93 hOq94 hTq95 hKq96 nbq91
              refine wpAnyH_take (i := 9) (v := .pointer (some ⟨eb, 200, none⟩)) rfl (by kernel_rfl) (by kernel_rfl) (by kernel_rfl) (fun _ _ _ h => h) (Or.inl ⟨by rfl, fun x hx => by go_simp⟩) hSq101 ?_
              simp only [Act.put, List.getElem_toArray, List.getElem_cons_zero, List.getElem_cons_succ, List.setIfInBounds_toArray, List.set_cons_zero, List.set_cons_succ]
              refine wpAnyH_ready (rs := [10]) (by kernel_rfl) (by simp) ?_
              refine AllReadyH.cons rfl (fun K hK => ?_) AllReadyH.nil
              rw [if_pos (by rfl)]
              refine wp_store1 43 (.tmp 88) (.tmp 87) rfl eb 200 (.slice aoq102 (((rappsOf Ap H6.out i).zip (List.replicate i (Value.slice none 0 0))) ++ [((⟨appT Ap i, 8, [], appT_len _ _⟩, Value.slice none 0 0) : RRow × Value)]).length cq103) (by rfl) (by rfl) _ _ hOq105 (by rw [List.size_toArray, reraCells_len _ _ _ _ _ _ _ _ _ _ _ _ _ H4.out H7.out H3.out]; omega) Tryz.sizeRows rfl rfl ?_
              intro yq108 hOq109 gq110
              have hOq112 : Blk yq108 eb (reraCells f (.slice lao n lc) (.slice pao m pc2) me (.slice ao3 0 c3) In 32 (.slice none 0 0) 0 (.slice aoq102 (((rappsOf Ap H6.out i).zip (List.replicate i (Value.slice none 0 0))) ++ [((⟨appT Ap i, 8, [], appT_len _ _⟩, Value.slice none 0 0) : RRow × Value)]).length cq103) 0 Ex Ep).toArray 45 := by rw [rer_setA _ _ _ _ _ _ _ _ _ _ _ _ _ H4.out] at hOq109; exact hOq109
              have hRq113 := hRq99.other gq110 hOq105 (by decide)
              have hOq114 := hOq105
              have hTq115 := hTq106.other gq110 hOq105 (by decide) (by decide) (by decide)
              have hKq116 := hKq107.other gq110 hOq105 (by decide)
              refine hK.out _ _ ⟨hSq101.1.grown gq110 (fun e => by have := HEB.out; have e2 := Option.some.inj e; omega), hSq101.2.1.grown gq110 (fun e => by have := HEB.out; have e2 := Option.some.inj e; omega), hSq101.2.2.1.grown gq110 (fun e => by have := HEB.out; have e2 := Option.some.inj e; omega), hSq101.2.2.2.grown gq110 (Nat.le_trans (Nat.le_of_eq HN.out) hSq101.2.2.2.size) (fun q e => by cases e; exact HLE.out)⟩ (fun hSq111 => ?_)
              clear hK K hSq101 gq110 hOq109 hRq99 hOq105 hTq106 hKq107
              refine wpAnyH_done (by kernel_rfl) ?_ _
              have HR9 : Hid (ROwn rrowC 34 yq108 N 42 (.slice aoq102 (((rappsOf Ap H6.out i).zip (List.replicate i (Value.slice none 0 0))) ++ [((⟨appT Ap i, 8, [], appT_len _ _⟩, Value.slice none 0 0) : RRow × Value)]).length cq103) ((rappsOf Ap H6.out (i + 1)).zip (List.replicate (i + 1) (Value.slice none 0 0)))) := by show ROwn _ _ _ _ _ _ _; rw [rapps_succ]; exact hRq113
              have HM9 : Hid (RmSt N eb n m f ((s7 J Wl Ep In Cf Ap Ex).map bv) (f.cells (.slice lo n ac) (.slice po m pc)).toArray T me lao pao ao3 lc pc2 c3 cur In (.slice aoq102 (((rappsOf Ap H6.out i).zip (List.replicate i (Value.slice none 0 0))) ++ [((⟨appT Ap i, 8, [], appT_len _ _⟩, Value.slice none 0 0) : RRow × Value)]).length cq103) Ap H6.out (i + 1) Ex Ep yq108) := ⟨hOq112, hSq111.2.1, hSq111.1, hSq111.2.2.1, hTq115, hKq116, HR9.out⟩
              have HB9 := Lib.hid (hSq111.2.2.2)
              clear hSq111 hOq112 hRq113 hTq115 hKq116 HR9
              have HW64 : Hid (wrap64 ((i : Int) + 1) = ((i + 1 : Nat) : Int)) := wrap_succ i H64.out
              go_wp2_with fail
              go_roundw
              case rel => exact ⟨i + 1, _, by omega, by rw [HW64.out], HM9, HB9⟩
              case measure => exact meas64 n i _ HW64.out hlt
            refine AllReadyH.cons rfl (fun K hK => ?_) AllReadyH.nil
            rw [if_pos (by rfl)]
            refine wp_bsV 43 42 (.tmp 85) rfl (.agg (rcells (appT Ap i) 8 (Value.slice none 0 0)).toArray) (by rfl) Tryz.underlying43 (.agg zR6.toArray) 34 Tryz.zsRow6 (by show (rcells (appT Ap i) 8 (.slice none 0 0)).toArray.size = 34; rw [List.size_toArray]; exact rcells_len _ _ _ (appT_len _ _)) (by omega) (by omega) ?_
            intro yq117 szq118 bq119 nbq120
            have hRq122 := hRq82.below bq119
            have hOq123 := hOq83.below bq119 hOq83.lt
            have hTq124 := hTq84.below bq119
            have hKq125 := hKq85.below bq119
            refine hK.out _ _ ⟨hSq81.1.below bq119 hSq81.1.lt, hSq81.2.1.below bq119 hSq81.2.1.lt, hSq81.2.2.1.below bq119 hSq81.2.2.1.lt, hSq81.2.2.2.trans (bq119.mono (Nat.le_trans (Nat.le_of_eq HN.out) hSq81.2.2.2.size))⟩ (fun hSq121 => ?_)
            clear hK K hSq81 bq119 szq118 hRq82 hOq83 hTq84 hKq85
            refine wpAnyH_ready (rs := [1]) (by kernel_rfl) (by simp) ?_
            refine AllReadyH.cons rfl (fun K hK => ?_) AllReadyH.nil
            have hcq126 := hOq123.cell 200 _ (rer_cellA _ _ _ _ _ _ _ _ _ _ _ _ _ H4.out)
            go_simp
            clear hcq126
            refine hK.out _ _ hSq121 (fun hSq127 => ?_)
            clear hK K hSq121
            refine wpAnyH_ready (rs := [8]) (by kernel_rfl) (by simp) ?_
            refine AllReadyH.cons rfl (fun K hK => ?_) AllReadyH.nil
            rw [if_pos (by rfl)]
            refine wp_append_R (.tmp 80) (.tmp 86) 43 rfl rrowC_len rrowC_one N 42 (.agg zR6.toArray) 64 Tryz.underlying43 Tryz.infoRow63 (by rfl) (by omega) (by omega) _ ((rappsOf Ap H6.out i).zip (List.replicate i (Value.slice none 0 0))) [((⟨appT Ap i, 8, [], appT_len _ _⟩, Value.slice none 0 0) : RRow × Value)] (by rfl) hRq122 _ (by rfl) (RAt.blk nbq120) (by intro _ e; cases e) (by rw [HTK.out]; have := H64.out; simp; omega) (Nat.le_trans (Nat.le_of_eq HN.out) hSq127.2.2.2.size) ?_
            intro vq128 yq129 hRq130 gq131
            obtain ⟨aoq133, cq134, rfl⟩ := ROwn.slice hRq130
            have hRq135 := hRq122
            have hOq136 := hOq123.grown gq131 (fun e => own_ne hRq122 hOq123 (by decide) e.symm)
            have hTq137 := hTq124.rowK gq131 hRq122 (by decide) (by decide) (by decide)
            have hKq138 := ROwn.kept hKq125 gq131 (rows_apart hKq125 hRq122 (by decide))
            refine hK.out _ _ ⟨hSq127.1.grown gq131 (fun e => own_ne hRq122 hSq127.1 (by decide) e.symm), hSq127.2.1.grown gq131 (fun e => own_ne hRq122 hSq127.2.1 (by decide) e.symm), hSq127.2.2.1.grown gq131 (fun e => own_ne hRq122 hSq127.2.2.1 (by decide) e.symm), hSq127.2.2.2.grown gq131 (Nat.le_trans (Nat.le_of_eq HN.out) hSq127.2.2.2.size) (fun q e => (ROwn.lt hRq122 q e).1)⟩ (fun hSq132 => ?_)
            clear hK K hSq127 gq131 hRq122 hOq123 hTq124 hKq125 nbq120
            refine wpAnyH_take (i := 9) (v := .pointer (some ⟨eb, 200, none⟩)) rfl (by kernel_rfl) (by kernel_rfl) (by kernel_rfl) (fun _ _ _ h => h) (Or.inl ⟨by rfl, fun x hx => by go_simp⟩) hSq132 ?_
            simp only [Act.put, List.getElem_toArray, List.getElem_cons_zero, List.getElem_cons_succ, List.setIfInBounds_toArray, List.set_cons_zero, List.set_cons_succ]
            refine wpAnyH_ready (rs := [10]) (by kernel_rfl) (by simp) ?_
            refine AllReadyH.cons rfl (fun K hK => ?_) AllReadyH.nil
            rw [if_pos (by rfl)]
            refine wp_store1 43 (.tmp 88) (.tmp 87) rfl eb 200 (.slice aoq133 (((rappsOf Ap H6.out i).zip (List.replicate i (Value.slice none 0 0))) ++ [((⟨appT Ap i, 8, [], appT_len _ _⟩, Value.slice none 0 0) : RRow × Value)]).length cq134) (by rfl) (by rfl) _ _ hOq136 (by rw [List.size_toArray, reraCells_len _ _ _ _ _ _ _ _ _ _ _ _ _ H4.out H7.out H3.out]; omega) Tryz.sizeRows rfl rfl ?_
            intro yq139 hOq140 gq141
            have hOq143 : Blk yq139 eb (reraCells f (.slice lao n lc) (.slice pao m pc2) me (.slice ao3 0 c3) In 32 (.slice none 0 0) 0 (.slice aoq133 (((rappsOf Ap H6.out i).zip (List.replicate i (Value.slice none 0 0))) ++ [((⟨appT Ap i, 8, [], appT_len _ _⟩, Value.slice none 0 0) : RRow × Value)]).length cq134) 0 Ex Ep).toArray 45 := by rw [rer_setA _ _ _ _ _ _ _ _ _ _ _ _ _ H4.out] at hOq140; exact hOq140
            have hRq144 := hRq130.other gq141 hOq136 (by decide)
            have hOq145 := hOq136
            have hTq146 := hTq137.other gq141 hOq136 (by decide) (by decide) (by decide)
            have hKq147 := hKq138.other gq141 hOq136 (by decide)
            refine hK.out _ _ ⟨hSq132.1.grown gq141 (fun e => by have := HEB.out; have e2 := Option.some.inj e; omega), hSq132.2.1.grown gq141 (fun e => by have := HEB.out; have e2 := Option.some.inj e; omega), hSq132.2.2.1.grown gq141 (fun e => by have := HEB.out; have e2 := Option.some.inj e; omega), hSq132.2.2.2.grown gq141 (Nat.le_trans (Nat.le_of_eq HN.out) hSq132.2.2.2.size) (fun q e => by cases e; exact HLE.out)⟩ (fun hSq142 => ?_)
            clear hK K hSq132 gq141 hOq140 hRq130 hOq136 hTq137 hKq138
            refine wpAnyH_done (by kernel_rfl) ?_ _
            have HR9 : Hid (ROwn rrowC 34 yq139 N 42 (.slice aoq133 (((rappsOf Ap H6.out i).zip (List.replicate i (Value.slice none 0 0))) ++ [((⟨appT Ap i, 8, [], appT_len _ _⟩, Value.slice none 0 0) : RRow × Value)]).length cq134) ((rappsOf Ap H6.out (i + 1)).zip (List.replicate (i + 1) (Value.slice none 0 0)))) := by show ROwn _ _ _ _ _ _ _; rw [rapps_succ]; exact hRq144
            have HM9 : Hid (RmSt N eb n m f ((s7 J Wl Ep In Cf Ap Ex).map bv) (f.cells (.slice lo n ac) (.slice po m pc)).toArray T me lao pao ao3 lc pc2 c3 cur In (.slice aoq133 (((rappsOf Ap H6.out i).zip (List.replicate i (Value.slice none 0 0))) ++ [((⟨appT Ap i, 8, [], appT_len _ _⟩, Value.slice none 0 0) : RRow × Value)]).length cq134) Ap H6.out (i + 1) Ex Ep yq139) := ⟨hOq143, hSq142.2.1, hSq142.1, hSq142.2.2.1, hTq146, hKq147, HR9.out⟩
            have HB9 := Lib.hid (hSq142.2.2.2)
            clear hSq142 hOq143 hRq144 hTq146 hKq147 HR9
            have HW64 : Hid (wrap64 ((i : Int) + 1) = ((i + 1 : Nat) : Int)) := wrap_succ i H64.out
            go_wp2_with fail
            go_roundw
            case rel => exact ⟨i + 1, _, by omega, by rw [HW64.out], HM9, HB9⟩
            case measure => exact meas64 n i _ HW64.out hlt
          · obtain rfl : i = n := by omega
            have hE := HM.out.pe
            have hZ := HM.out.pz
            go_wp2_with (first | ((with_reducible show wpList _ _ _ (⟨some 74, _, _, _, _, _⟩ :: _) _ _); refine wpList_load1 rfl 24 (.tmp 73) rfl N 65 (by rfl) _ _ hcl Tryz.underlying24 rfl ?_) | ((with_reducible show wpList _ _ _ (⟨some 89, _, _, _, _, _⟩ :: _) _ _); refine wpList_load_mid rfl 45 (.tmp 11) rfl eb 0 (by rfl) ((reraCells f (.slice lao i lc) (.slice pao m pc2) me (.slice ao3 0 c3) In 32 (.slice none 0 0) 0 av 0 Ex Ep)) _ (blk_rangeP hE) Tryz.underlying45 rfl (by rw [reraCells_len _ _ _ _ _ _ _ _ _ _ _ _ _ H4.out H7.out H3.out]; exact Tryz.sizeREra) ?_) | ((with_reducible show wpList _ _ _ (⟨none, Op.store _ (.tmp 8) _, _, _, _, _⟩ :: _) _ _); refine wpList_storeBlk rfl 45 (.tmp 8) (.tmp 89) rfl (N + 2) ((reraCells f (.slice lao i lc) (.slice pao m pc2) me (.slice ao3 0 c3) In 32 (.slice none 0 0) 0 av 0 Ex Ep).toArray) (by rfl) (by rfl) _ _ hZ (by rw [List.size_toArray, reraCells_len _ _ _ _ _ _ _ _ _ _ _ _ _ H4.out H7.out H3.out]; exact Tryz.sizeREra) (by rw [List.size_toArray, List.size_toArray, reraCells_len _ _ _ _ _ _ _ _ _ _ _ _ _ H4.out H7.out H3.out]; exact reraCells_len _ _ _ _ _ _ _ _ _ _ _ _ _ rfl rfl rfl) (rer_allV HM.out.pav) ?_; intro w9 hZ9 g9))
            have hT9 := HM.out.pt.other g9 hZ (by decide) (by decide) (by decide)
            have hK9 := HM.out.pk.other g9 hZ (by decide)
            have hA9 := HM.out.pav.other g9 hZ (by decide)
            have hB9 := HB.out.grown g9 (Nat.le_trans (Nat.le_of_eq HN.out) HB.out.size) (fun q e => by cases e; omega)
            have HTK0 : ∀ i, ((rappsOf Ap H6.out i).zip (List.replicate i (Value.slice none 0 0))).length = i := fun i => rapps_len _ _ _
            clear HM HB hE hZ g9
            obtain ⟨ao9, c9, rfl⟩ := ROwn.slice hA9
            refine ret_blk2 rfl (N + 2) _ _ _ (by rfl) hZ9 Tryz.underlying45 rfl (by rw [List.size_toArray, reraCells_len _ _ _ _ _ _ _ _ _ _ _ _ _ H4.out H7.out H3.out]; exact Tryz.sizeREra) rfl ?_
            have e1 := hT9.ln
            have e2 := hT9.lm
            have e3 := HTK0 i
            have e4 : (rappsOf Ap H6.out i).length = i := by simp [rappsOf]
            rw [← HN.out]
            refine ⟨⟨lao, lc, pao, pc2, cur, ao3, c3, ao9, c9, List.replicate i (Value.slice none 0 0)⟩, ?_, ⟨by show TreeOwn _ _ lao T.leaves.length lc pao T.pars.length pc2 cur T; rw [e1, e2]; exact hT9, hK9, ?_, by simp [e4], ?_⟩, hB9⟩
            · subst e1 e2
              rw [e3]
              simp only [rerC, e4]
              rfl
            · show ROwn _ _ _ _ _ (.slice ao9 (rappsOf Ap H6.out i).length c9) _
              rw [e3] at hA9
              rw [e4]
              exact hA9
            · intro k q u h8 h9
              rw [List.getElem?_replicate] at h9
              have hq : q.tk = [] := by
                simp only [rappsOf, List.getElem?_map] at h8
                obtain ⟨z, _, rfl⟩ := Option.map_eq_some_iff.1 h8
                rfl
              split at h9
              · obtain rfl := Option.some.inj h9
                rw [hq]
                exact IntsO.nil _ _
              · cases h9
      refine AllReadyH.cons rfl (fun K hK => ?_) AllReadyH.nil
      rw [if_pos (by rfl)]
      refine wp_allocZ 45 rfl _ Tryz.zeroREra ?_
      intro gq151 yq149 egq152 ezq153 bq148 hEq150
      have lgq154 : N ≤ gq151 := by rw [egq152]; exact Nat.le_trans (Nat.le_of_eq HN.out) hSq19.2.2.2.size
      have lbq155 : N < gq151 := by rw [egq152]; exact hSq19.1.lt
      have lbq156 : N + 1 < gq151 := by rw [egq152]; exact hSq19.2.1.lt
      have lbq157 : N + 2 < gq151 := by rw [egq152]; exact hSq19.2.2.1.lt
      refine hK.out _ _ ⟨hSq19.1.below bq148 hSq19.1.lt, hSq19.2.1.below bq148 hSq19.2.1.lt, hSq19.2.2.1.below bq148 hSq19.2.2.1.lt, hSq19.2.2.2.trans (bq148.mono (Nat.le_trans (Nat.le_of_eq HN.out) hSq19.2.2.2.size))⟩ (fun hSq158 => ?_)
      clear hK K hSq19 bq148 egq152 ezq153
      refine wpAnyH_ready (rs := [5]) (by kernel_rfl) (by simp) ?_
      refine AllReadyH.cons rfl (fun K hK => ?_) AllReadyH.nil
      go_simp
      go_wp2_with (go_at_call 130; refine (cK _ (Nat.le_trans (Nat.le_of_eq HN.out) hSq158.2.2.2.size) (HTB.out _ hSq158.2.2.2)).mono ?_; rintro e yq159 ⟨ao3, c3, rfl, HKO, bq160⟩)
      have hEq161 := hEq150.below bq160 hEq150.lt
      refine hK.out _ _ ⟨hSq158.1.below bq160 hSq158.1.lt, hSq158.2.1.below bq160 hSq158.2.1.lt, hSq158.2.2.1.below bq160 hSq158.2.2.1.lt, hSq158.2.2.2.trans (bq160.mono (Nat.le_trans (Nat.le_of_eq HN.out) hSq158.2.2.2.size))⟩ (fun hSq162 => ?_)
      clear hK K hSq158 bq160
      refine wpAnyH_take (i := 10) rfl (by kernel_rfl) (by kernel_rfl) (by kernel_rfl) (fun _ _ _ h => h) (yieldsIf_build (by rfl) 45 #[(0, .tmp 51), (1, .tmp 52), (2, .tmp 56), (7, .tmp 58), (8, .tmp 60)] rfl (reraCells f (.slice lo n ac) (.slice po m pc) me (.slice ao3 0 c3) z32L 0 (.slice none 0 0) 0 (.slice none 0 0) 0 Ex Ep).toArray (Tryz.builtREra f _ _ me _ Ex Ep rfl H7.out H3.out)) hSq162 ?_
      simp only [Act.put, List.getElem_toArray, List.getElem_cons_zero, List.getElem_cons_succ, List.setIfInBounds_toArray, List.set_cons_zero, List.set_cons_succ]
      refine wpAnyH_ready (rs := [12]) (by kernel_rfl) (by simp) ?_
      refine AllReadyH.cons rfl (fun K hK => ?_) AllReadyH.nil
      rw [if_pos (by rfl)]
      refine wp_storeBlk 45 (.tmp 11) (.tmp 61) rfl gq151 (reraCells f (.slice lo n ac) (.slice po m pc) me (.slice ao3 0 c3) z32L 0 (.slice none 0 0) 0 (.slice none 0 0) 0 Ex Ep).toArray (by rfl) (by rfl) _ _ hEq161 (by rw [List.size_toArray, reraCells_len _ _ _ _ _ _ _ _ _ _ _ _ _ (by rfl) H7.out H3.out]; exact Tryz.sizeREra) (by rw [List.size_toArray, List.size_toArray, reraCells_len _ _ _ _ _ _ _ _ _ _ _ _ _ (by rfl) H7.out H3.out]; exact reraCells_len _ _ _ _ _ _ _ _ _ _ _ _ _ rfl rfl rfl) (reraCells_all _ _ _ _ _ _ _ _ _ _ _ _ _ rfl rfl rfl rfl rfl) ?_
      intro yq163 hEq164 grq165
      have hHq166 := Lib.hid (HKO.out.other grq165 hEq161 (by decide))
      refine hK.out _ _ ⟨hSq162.1.grown grq165 (by first | (simp; done) | (simp; omega) | omega), hSq162.2.1.grown grq165 (by first | (simp; done) | (simp; omega) | omega), hSq162.2.2.1.grown grq165 (by first | (simp; done) | (simp; omega) | omega), below_new hSq162.2.2.2 grq165 lgq154 (Nat.le_trans (Nat.le_of_eq HN.out) hSq162.2.2.2.size)⟩ (fun hSq167 => ?_)
      clear hK K hSq162
      refine wpAnyH_done (by kernel_rfl) ?_ _
      obtain ⟨eb, heb⟩ : ∃ z, z = gq151 := ⟨_, rfl⟩
      have HEB : Hid (N + 2 < gq151) := by show N + 2 < _; assumption
      rw [← heb] at HEB hEq164 lgq154 ⊢
      have HLE : Hid (N ≤ eb) := lgq154
      have HF5 := Lib.hid (hSq167.1)
      have HS5 := Lib.hid (hSq167.2.1)
      have HZ5 := Lib.hid (hSq167.2.2.1)
      have HB5 := Lib.hid (hSq167.2.2.2)
      have HE5 := Lib.hid hEq164
      have HK5 : Hid (ROwn KeyA.cells 33 yq163 N 142 (.slice ao3 0 c3) []) := hHq166.out
      clear heb hSq167 hEq164 lgq154 hHq166
      have ltree := fr_tree _ _ _ (blk_rangeP HF5.out)
      go_wp2_with ((with_reducible show wpList _ _ _ (⟨some 63, _, _, _, _, _⟩ :: _) _ _); refine wpList_load_mid rfl 27 (.tmp 62) rfl (N) 65 (by rfl) ([.slice lo n ac, .slice po m pc]) _ (ltree) Tryz.underlying27 rfl (Tryz.sizeTree) ?_)
      clear ltree
      refine (cC _ (Nat.le_trans (Nat.le_of_eq HN.out) HB5.out.size) (HTB.out _ HB5.out)).mono ?_
      rintro e w6 ⟨lao, lc, pao, pc2, cur, rfl, HT6, b6⟩
      have hE6 := HE5.out.below b6 HE5.out.lt
      have hS6 := HS5.out.below b6 HS5.out.lt
      have hF6 := HF5.out.below b6 HF5.out.lt
      have hZ6 := HZ5.out.below b6 HZ5.out.lt
      have HK6 := Lib.hid (HK5.out.below b6)
      have hB6 := HB5.out.trans (b6.mono (Nat.le_trans (Nat.le_of_eq HN.out) HB5.out.size))
      clear HE5 HS5 HK5 HB5 HF5 HZ5 b6 cC
      go_wp2_with (first | ((with_reducible show wpList _ _ _ (⟨none, Op.store _ (.tmp 66) _, _, _, _, _⟩ :: _) _ _); refine wpList_storeV rfl 27 (.tmp 66) (.tmp 64) rfl eb 65 (.agg #[.slice lao n lc, .slice pao m pc2]) (by rfl) (by rfl) 45 _ _ _ _ [.slice lao n lc, .slice pao m pc2] hE6 (rer_splitT ..) (fr_preT f) (by rfl) (by rfl) (by intro x hx; simp at hx; rcases hx with rfl | rfl <;> rfl) Tryz.sizeTree ?_; intro w7 hE7 g7; rw [← rer_splitT] at hE7; have hS7 := hS6.grown g7 (fun e => by have := HEB.out; have e2 := Option.some.inj e; omega); have hF7 := hF6.grown g7 (fun e => by have := HEB.out; have e2 := Option.some.inj e; omega); have hZ7 := hZ6.grown g7 (fun e => by have := HEB.out; have e2 := Option.some.inj e; omega); have HK7 := Lib.hid (HK6.out.other g7 hE6 (by decide)); have HT7 := Lib.hid (HT6.out.other g7 hE6 (by decide) (by decide) (by decide)); have hB7 := hB6.grown g7 (Nat.le_trans (Nat.le_of_eq HN.out) hB6.size) (fun q e => by cases e; exact HLE.out); clear hE6 hS6 hF6 hZ6 HK6 HT6 hB6 g7; have hin := (hsx _ (blk_rangeP hS7)).2.1) | ((with_reducible show wpList _ _ _ (⟨some 68, _, _, _, _, _⟩ :: _) _ _); refine wpList_load_mid rfl 22 (.tmp 67) rfl (N + 1) 96 (by rfl) (In.map bv) _ (hin) Tryz.underlying22 rfl (by rw [List.length_map, H4.out]; exact Tryz.sizeA32) ?_) | ((with_reducible show wpList _ _ _ (⟨some 69, _, _, _, _, _⟩ :: _) _ _); refine wpList_buildCells rfl 42 #[(0, .tmp 68), (1, .const (.int .i64 32))] rfl ((rcells In 32 (Value.slice none 0 0)).toArray) (Tryz.builtR6 32 In H4.out) ?_) | ((with_reducible show wpList _ _ _ (⟨none, Op.store _ (.tmp 70) _, _, _, _, _⟩ :: _) _ _); refine wpList_storeV rfl 42 (.tmp 70) (.tmp 69) rfl eb 165 (.agg (rcells In 32 (Value.slice none 0 0)).toArray) (by rfl) (by rfl) 45 _ _ _ _ (rcells In 32 (Value.slice none 0 0)) hE7 (rer_splitI ..) (rer_preI ..) (by rw [rcells_len _ _ _ (by rfl), rcells_len _ _ _ H4.out]) (by rfl) (rrowC_one (⟨In, 32, [], H4.out⟩, (Value.slice none 0 0))) (by rw [rcells_len _ _ _ H4.out]; exact Tryz.sizeRow6) ?_; intro w8 hE8 g8; rw [← rer_splitI] at hE8; have hS8 := hS7.grown g8 (fun e => by have := HEB.out; have e2 := Option.some.inj e; omega); have hF8 := hF7.grown g8 (fun e => by have := HEB.out; have e2 := Option.some.inj e; omega); have hZ8 := hZ7.grown g8 (fun e => by have := HEB.out; have e2 := Option.some.inj e; omega); have HK8 := Lib.hid (HK7.out.other g8 hE7 (by decide)); have HT8 := Lib.hid (HT7.out.other g8 hE7 (by decide) (by decide) (by decide)); have hB8 := hB7.grown g8 (Nat.le_trans (Nat.le_of_eq HN.out) hB7.size) (fun q e => by cases e; exact HLE.out); clear hE7 hS7 hF7 hZ7 HK7 HT7 hB7 g8 hin))
      have HMI : Hid (RmSt N eb n m f ((s7 J Wl Ep In Cf Ap Ex).map bv) (f.cells (.slice lo n ac) (.slice po m pc)).toArray T me lao pao ao3 lc pc2 c3 cur In (Value.slice none 0 0) Ap H6.out 0 Ex Ep w8) := ⟨hE8, hS8, hF8, hZ8, HT8.out, HK8.out, ROwn.nil _ _ _⟩
      have HB8 := Lib.hid hB8
      clear hE8 hS8 hF8 hZ8 HT8 HK8 hB8
      go_loopw [12] (fun j wr => ∃ (i : Nat) (av : Value), i ≤ n ∧ j = .int .i64 i ∧ Hid (RmSt N eb n m f ((s7 J Wl Ep In Cf Ap Ex).map bv) (f.cells (.slice lo n ac) (.slice po m pc)).toArray T me lao pao ao3 lc pc2 c3 cur In av Ap H6.out i Ex Ep wr) ∧ Hid (Below N w wr)) (fun j _ => n - (intOf j).toNat)
      case atStart => exact ⟨0, _, by omega, rfl, HMI, HB8⟩
      case round =>
        clear HMI HB8
        obtain ⟨i, av, hi, rfl, HM, HB⟩ := hrel
        have hcl := HM.out.pf.cell 65 _ (by rw [List.getElem?_toArray]; exact fr_lv _ _ _)
        by_cases hlt : i < n
        · have H64 : Hid (i < 64) := by have := HN64.out; show i < 64; omega
          have HTK : Hid (((rappsOf Ap H6.out i).zip (List.replicate i (Value.slice none 0 0))).length = i) := rapps_len _ _ _
          have hR := HM.out.pav.drew
          have hO := HM.out.pe.drew
          have hT := HM.out.pt.below (below_drewN (Below.refl _ _) 1)
          have hKy := HM.out.pk.drew
          have hF := HM.out.pf
          have hS := HM.out.ps
          have hZ := HM.out.pz
          have hB := HB.out
          clear HM HB
          go_wp2_with ((with_reducible show wpList _ _ _ (⟨some 74, _, _, _, _, _⟩ :: _) _ _); refine wpList_load1 rfl 24 (.tmp 73) rfl N 65 (by rfl) _ _ hcl Tryz.underlying24 rfl ?_)
          clear hcl
          refine wp_region_held_drew (S := fun x => Blk x (N) (f.cells (.slice lo n ac) (.slice po m pc)).toArray 39 ∧ Blk x (N + 1) ((s7 J Wl Ep In Cf Ap Ex).map bv).toArray 133 ∧ Blk x (N + 2) zeroRE.toArray 45 ∧ Below N w x) (by kernel_rfl) ⟨hF.drew, hS.drew, hZ.drew, below_drewN hB 1⟩ (fun hSq168 => ?_)
          refine wpAnyH_take (i := 0) (v := .pointer (some ⟨eb, 200, none⟩)) rfl (by kernel_rfl) (by kernel_rfl) (by kernel_rfl) (fun _ _ _ h => h) (Or.inl ⟨by rfl, fun x hx => by go_simp⟩) hSq168 ?_
          simp only [Act.put, List.getElem_toArray, List.getElem_cons_zero, List.getElem_cons_succ, List.setIfInBounds_toArray, List.set_cons_zero, List.set_cons_succ]
          refine wpAnyH_take (i := 2) (v := .pointer (some ⟨N + 1, 160, none⟩)) rfl (by kernel_rfl) (by kernel_rfl) (by kernel_rfl) (fun _ _ _ h => h) (Or.inl ⟨by rfl, fun x hx => by go_simp⟩) hSq168 ?_
          simp only [Act.put, List.getElem_toArray, List.getElem_cons_zero, List.getElem_cons_succ, List.setIfInBounds_toArray, List.set_cons_zero, List.set_cons_succ]
          refine wpAnyH_take (i := 3) rfl (by kernel_rfl) (by kernel_rfl) (by kernel_rfl) (fun _ _ _ h => h) (yieldsIf_load_mid (by rfl) 22 (.tmp 81) rfl (N + 1) (160) (by rfl) ((Ap.map bv)) _ (fun x hx => (hsx _ (blk_rangeP hx.2.1)).2.2.1) Tryz.underlying22 rfl (by rw [List.length_map, H6.out]; exact Tryz.sizeA32)) hSq168 ?_
          simp only [Act.put, List.getElem_toArray, List.getElem_cons_zero, List.getElem_cons_succ, List.setIfInBounds_toArray, List.set_cons_zero, List.set_cons_succ]
          refine wpAnyH_take (i := 4) (v := .int .i64 i) rfl (by kernel_rfl) (by kernel_rfl) (by kernel_rfl) (fun _ _ _ h => h) (Or.inl ⟨by rfl, fun x hx => by go_simp⟩) hSq168 ?_
          simp only [Act.put, List.getElem_toArray, List.getElem_cons_zero, List.getElem_cons_succ, List.setIfInBounds_toArray, List.set_cons_zero, List.set_cons_succ]
          refine wpAnyH_ready (rs := [1, 5]) (by kernel_rfl) (by simp) ?_
          refine AllReadyH.cons rfl (fun K hK => ?_) ?_
          · have hcq169 := hO.cell 200 _ (rer_cellA _ _ _ _ _ _ _ _ _ _ _ _ _ H4.out)
            go_simp
            clear hcq169
            refine hK.out _ _ hSq168 (fun hSq170 => ?_)
            clear hK K hSq168
            refine wpAnyH_ready (rs := [5]) (by kernel_rfl) (by simp) ?_
            refine AllReadyH.cons rfl (fun K hK => ?_) AllReadyH.nil
            go_simp
            go_wp2_with (go_at_call 132; refine (cA _ i H64.out).mono ?_; rintro e yq171 ⟨rfl, bq172⟩)
            have hRq174 := hR.below bq172
            have hOq175 := hO.below bq172 hO.lt
            have hTq176 := hT.below bq172
            have hKq177 := hKy.below bq172
            refine hK.out _ _ ⟨hSq170.1.below bq172 hSq170.1.lt, hSq170.2.1.below bq172 hSq170.2.1.lt, hSq170.2.2.1.below bq172 hSq170.2.2.1.lt, hSq170.2.2.2.trans (bq172.mono (Nat.le_trans (Nat.le_of_eq HN.out) hSq170.2.2.2.size))⟩ (fun hSq173 => ?_)
            clear hK K hSq170 bq172 hR hO hT hKy
            refine wpAnyH_take (i := 6) rfl (by kernel_rfl) (by kernel_rfl) (by kernel_rfl) (fun _ _ _ h => h) (yieldsIf_build (by rfl) 42 #[(0, .tmp 84), (1, .const (.int .i64 8))] rfl (rcells (appT Ap i) 8 (Value.slice none 0 0)).toArray (Tryz.builtR6 8 (appT Ap i) (appT_len _ _))) hSq173 ?_
            simp only [Act.put, List.getElem_toArray, List.getElem_cons_zero, List.getElem_cons_succ, List.setIfInBounds_toArray, List.set_cons_zero, List.set_cons_succ]
            refine wpAnyH_ready (rs := [7]) (by kernel_rfl) (by simp) ?_
            refine AllReadyH.cons rfl (fun K hK => ?_) AllReadyH.nil
            rw [if_pos (by rfl)]
            refine wp_bsV 43 42 (.tmp 85) rfl (.agg (rcells (appT Ap i) 8 (Value.slice none 0 0)).toArray) (by rfl) Tryz.underlying43 (.agg zR6.toArray) 34 Tryz.zsRow6 (by show (rcells (appT Ap i) 8 (.slice none 0 0)).toArray.size = 34; rw [List.size_toArray]; exact rcells_len _ _ _ (appT_len _ _)) (by omega) (by omega) ?_
            intro yq178 szq179 bq180 nbq181
            have hRq183 := hRq174.below bq180
            have hOq184 := hOq175.below bq180 hOq175.lt
            have hTq185 := hTq176.below bq180
            have hKq186 := hKq177.below bq180
            refine hK.out _ _ ⟨hSq173.1.below bq180 hSq173.1.lt, hSq173.2.1.below bq180 hSq173.2.1.lt, hSq173.2.2.1.below bq180 hSq173.2.2.1.lt, hSq173.2.2.2.trans (bq180.mono (Nat.le_trans (Nat.le_of_eq HN.out) hSq173.2.2.2.size))⟩ (fun hSq182 => ?_)
            clear hK K hSq173 bq180 szq179 hRq174 hOq175 hTq176 hKq177
            refine wpAnyH_ready (rs := [8]) (by kernel_rfl) (by simp) ?_
            refine AllReadyH.cons rfl (fun K hK => ?_) AllReadyH.nil
            rw [if_pos (by rfl)]
            refine wp_append_R (.tmp 80) (.tmp 86) 43 rfl rrowC_len rrowC_one N 42 (.agg zR6.toArray) 64 Tryz.underlying43 Tryz.infoRow63 (by rfl) (by omega) (by omega) _ ((rappsOf Ap H6.out i).zip (List.replicate i (Value.slice none 0 0))) [((⟨appT Ap i, 8, [], appT_len _ _⟩, Value.slice none 0 0) : RRow × Value)] (by rfl) hRq183 _ (by rfl) (RAt.blk nbq181) (by intro _ e; cases e) (by rw [HTK.out]; have := H64.out; simp; omega) (Nat.le_trans (Nat.le_of_eq HN.out) hSq182.2.2.2.size) ?_
            intro vq187 yq188 hRq189 gq190
            obtain ⟨aoq192, cq193, rfl⟩ := ROwn.slice hRq189
            have hRq194 := hRq183
            have hOq195 := hOq184.grown gq190 (fun e => own_ne hRq183 hOq184 (by decide) e.symm)
            have hTq196 := hTq185.rowK gq190 hRq183 (by decide) (by decide) (by decide)
            have hKq197 := ROwn.kept hKq186 gq190 (rows_apart hKq186 hRq183 (by decide))
            refine hK.out _ _ ⟨hSq182.1.grown gq190 (fun e => own_ne hRq183 hSq182.1 (by decide) e.symm), hSq182.2.1.grown gq190 (fun e => own_ne hRq183 hSq182.2.1 (by decide) e.symm), hSq182.2.2.1.grown gq190 (fun e => own_ne hRq183 hSq182.2.2.1 (by decide) e.symm), hSq182.2.2.2.grown gq190 (Nat.le_trans (Nat.le_of_eq HN.out) hSq182.2.2.2.size) (fun q e => (ROwn.lt hRq183 q e).1)⟩ (fun hSq191 => ?_)
            clear hK K hSq182 gq190 hRq183 hOq184 hTq185 hKq186 nbq181
            refine wpAnyH_take (i := 9) (v := .pointer (some ⟨eb, 200, none⟩)) rfl (by kernel_rfl) (by kernel_rfl) (by kernel_rfl) (fun _ _ _ h => h) (Or.inl ⟨by rfl, fun x hx => by go_simp⟩) hSq191 ?_
            simp only [Act.put, List.getElem_toArray, List.getElem_cons_zero, List.getElem_cons_succ, List.setIfInBounds_toArray, List.set_cons_zero, List.set_cons_succ]
            refine wpAnyH_ready (rs := [10]) (by kernel_rfl) (by simp) ?_
            refine AllReadyH.cons rfl (fun K hK => ?_) AllReadyH.nil
            rw [if_pos (by rfl)]
            refine wp_store1 43 (.tmp 88) (.tmp 87) rfl eb 200 (.slice aoq192 (((rappsOf Ap H6.out i).zip (List.replicate i (Value.slice none 0 0))) ++ [((⟨appT Ap i, 8, [], appT_len _ _⟩, Value.slice none 0 0) : RRow × Value)]).length cq193) (by rfl) (by rfl) _ _ hOq195 (by rw [List.size_toArray, reraCells_len _ _ _ _ _ _ _ _ _ _ _ _ _ H4.out H7.out H3.out]; omega) Tryz.sizeRows rfl rfl ?_
            intro yq198 hOq199 gq200
            have hOq202 : Blk yq198 eb (reraCells f (.slice lao n lc) (.slice pao m pc2) me (.slice ao3 0 c3) In 32 (.slice none 0 0) 0 (.slice aoq192 (((rappsOf Ap H6.out i).zip (List.replicate i (Value.slice none 0 0))) ++ [((⟨appT Ap i, 8, [], appT_len _ _⟩, Value.slice none 0 0) : RRow × Value)]).length cq193) 0 Ex Ep).toArray 45 := by rw [rer_setA _ _ _ _ _ _ _ _ _ _ _ _ _ H4.out] at hOq199; exact hOq199
            have hRq203 := hRq189.other gq200 hOq195 (by decide)
            have hOq204 := hOq195
            have hTq205 := hTq196.other gq200 hOq195 (by decide) (by decide) (by decide)
            have hKq206 := hKq197.other gq200 hOq195 (by decide)
            refine hK.out _ _ ⟨hSq191.1.grown gq200 (fun e => by have := HEB.out; have e2 := Option.some.inj e; omega), hSq191.2.1.grown gq200 (fun e => by have := HEB.out; have e2 := Option.some.inj e; omega), hSq191.2.2.1.grown gq200 (fun e => by have := HEB.out; have e2 := Option.some.inj e; omega), hSq191.2.2.2.grown gq200 (Nat.le_trans (Nat.le_of_eq HN.out) hSq191.2.2.2.size) (fun q e => by cases e; exact HLE.out)⟩ (fun hSq201 => ?_)
            clear hK K hSq191 gq200 hOq199 hRq189 hOq195 hTq196 hKq197
            refine wpAnyH_done (by kernel_rfl) ?_ _
            have HR9 : Hid (ROwn rrowC 34 yq198 N 42 (.slice aoq192 (((rappsOf Ap H6.out i).zip (List.replicate i (Value.slice none 0 0))) ++ [((⟨appT Ap i, 8, [], appT_len _ _⟩, Value.slice none 0 0) : RRow × Value)]).length cq193) ((rappsOf Ap H6.out (i + 1)).zip (List.replicate (i + 1) (Value.slice none 0 0)))) := by show ROwn _ _ _ _ _ _ _; rw [rapps_succ]; exact hRq203
            have HM9 : Hid (RmSt N eb n m f ((s7 J Wl Ep In Cf Ap Ex).map bv) (f.cells (.slice lo n ac) (.slice po m pc)).toArray T me lao pao ao3 lc pc2 c3 cur In (.slice aoq192 (((rappsOf Ap H6.out i).zip (List.replicate i (Value.slice none 0 0))) ++ [((⟨appT Ap i, 8, [], appT_len _ _⟩, Value.slice none 0 0) : RRow × Value)]).length cq193) Ap H6.out (i + 1) Ex Ep yq198) := ⟨hOq202, hSq201.2.1, hSq201.1, hSq201.2.2.1, hTq205, hKq206, HR9.out⟩
            have HB9 := Lib.hid (hSq201.2.2.2)
            clear hSq201 hOq202 hRq203 hTq205 hKq206 HR9
            have HW64 : Hid (wrap64 ((i : Int) + 1) = ((i + 1 : Nat) : Int)) := wrap_succ i H64.out
            go_wp2_with fail
            go_roundw
            case rel => exact ⟨i + 1, _, by omega, by rw [HW64.out], HM9, HB9⟩
            case measure => exact meas64 n i _ HW64.out hlt
          refine AllReadyH.cons rfl (fun K hK => ?_) AllReadyH.nil
          go_simp
          go_wp2_with (go_at_call 132; refine (cA _ i H64.out).mono ?_; rintro e yq207 ⟨rfl, bq208⟩)
          have hRq210 := hR.below bq208
          have hOq211 := hO.below bq208 hO.lt
          have hTq212 := hT.below bq208
          have hKq213 := hKy.below bq208
          refine hK.out _ _ ⟨hSq168.1.below bq208 hSq168.1.lt, hSq168.2.1.below bq208 hSq168.2.1.lt, hSq168.2.2.1.below bq208 hSq168.2.2.1.lt, hSq168.2.2.2.trans (bq208.mono (Nat.le_trans (Nat.le_of_eq HN.out) hSq168.2.2.2.size))⟩ (fun hSq209 => ?_)
          clear hK K hSq168 bq208 hR hO hT hKy
          refine wpAnyH_take (i := 6) rfl (by kernel_rfl) (by kernel_rfl) (by kernel_rfl) (fun _ _ _ h => h) (yieldsIf_build (by rfl) 42 #[(0, .tmp 84), (1, .const (.int .i64 8))] rfl (rcells (appT Ap i) 8 (Value.slice none 0 0)).toArray (Tryz.builtR6 8 (appT Ap i) (appT_len _ _))) hSq209 ?_
          simp only [Act.put, List.getElem_toArray, List.getElem_cons_zero, List.getElem_cons_succ, List.setIfInBounds_toArray, List.set_cons_zero, List.set_cons_succ]
          refine wpAnyH_ready (rs := [1, 7]) (by kernel_rfl) (by simp) ?_
          refine AllReadyH.cons rfl (fun K hK => ?_) ?_
          · have hcq214 := hOq211.cell 200 _ (rer_cellA _ _ _ _ _ _ _ _ _ _ _ _ _ H4.out)
            go_simp
            clear hcq214
            refine hK.out _ _ hSq209 (fun hSq215 => ?_)
            clear hK K hSq209
            refine wpAnyH_ready (rs := [7]) (by kernel_rfl) (by simp) ?_
            refine AllReadyH.cons rfl (fun K hK => ?_) AllReadyH.nil
            rw [if_pos (by rfl)]
            refine wp_bsV 43 42 (.tmp 85) rfl (.agg (rcells (appT Ap i) 8 (Value.slice none 0 0)).toArray) (by rfl) Tryz.underlying43 (.agg zR6.toArray) 34 Tryz.zsRow6 (by show (rcells (appT Ap i) 8 (.slice none 0 0)).toArray.size = 34; rw [List.size_toArray]; exact rcells_len _ _ _ (appT_len _ _)) (by omega) (by omega) ?_
            intro yq216 szq217 bq218 nbq219
            have hRq221 := hRq210.below bq218
            have hOq222 := hOq211.below bq218 hOq211.lt
            have hTq223 := hTq212.below bq218
            have hKq224 := hKq213.below bq218
            refine hK.out _ _ ⟨hSq215.1.below bq218 hSq215.1.lt, hSq215.2.1.below bq218 hSq215.2.1.lt, hSq215.2.2.1.below bq218 hSq215.2.2.1.lt, hSq215.2.2.2.trans (bq218.mono (Nat.le_trans (Nat.le_of_eq HN.out) hSq215.2.2.2.size))⟩ (fun hSq220 => ?_)
            clear hK K hSq215 bq218 szq217 hRq210 hOq211 hTq212 hKq213
            refine wpAnyH_ready (rs := [8]) (by kernel_rfl) (by simp) ?_
            refine AllReadyH.cons rfl (fun K hK => ?_) AllReadyH.nil
            rw [if_pos (by rfl)]
            refine wp_append_R (.tmp 80) (.tmp 86) 43 rfl rrowC_len rrowC_one N 42 (.agg zR6.toArray) 64 Tryz.underlying43 Tryz.infoRow63 (by rfl) (by omega) (by omega) _ ((rappsOf Ap H6.out i).zip (List.replicate i (Value.slice none 0 0))) [((⟨appT Ap i, 8, [], appT_len _ _⟩, Value.slice none 0 0) : RRow × Value)] (by rfl) hRq221 _ (by rfl) (RAt.blk nbq219) (by intro _ e; cases e) (by rw [HTK.out]; have := H64.out; simp; omega) (Nat.le_trans (Nat.le_of_eq HN.out) hSq220.2.2.2.size) ?_
            intro vq225 yq226 hRq227 gq228
            obtain ⟨aoq230, cq231, rfl⟩ := ROwn.slice hRq227
            have hRq232 := hRq221
            have hOq233 := hOq222.grown gq228 (fun e => own_ne hRq221 hOq222 (by decide) e.symm)
            have hTq234 := hTq223.rowK gq228 hRq221 (by decide) (by decide) (by decide)
            have hKq235 := ROwn.kept hKq224 gq228 (rows_apart hKq224 hRq221 (by decide))
            refine hK.out _ _ ⟨hSq220.1.grown gq228 (fun e => own_ne hRq221 hSq220.1 (by decide) e.symm), hSq220.2.1.grown gq228 (fun e => own_ne hRq221 hSq220.2.1 (by decide) e.symm), hSq220.2.2.1.grown gq228 (fun e => own_ne hRq221 hSq220.2.2.1 (by decide) e.symm), hSq220.2.2.2.grown gq228 (Nat.le_trans (Nat.le_of_eq HN.out) hSq220.2.2.2.size) (fun q e => (ROwn.lt hRq221 q e).1)⟩ (fun hSq229 => ?_)
            clear hK K hSq220 gq228 hRq221 hOq222 hTq223 hKq224 nbq219
            refine wpAnyH_take (i := 9) (v := .pointer (some ⟨eb, 200, none⟩)) rfl (by kernel_rfl) (by kernel_rfl) (by kernel_rfl) (fun _ _ _ h => h) (Or.inl ⟨by rfl, fun x hx => by go_simp⟩) hSq229 ?_
            simp only [Act.put, List.getElem_toArray, List.getElem_cons_zero, List.getElem_cons_succ, List.setIfInBounds_toArray, List.set_cons_zero, List.set_cons_succ]
            refine wpAnyH_ready (rs := [10]) (by kernel_rfl) (by simp) ?_
            refine AllReadyH.cons rfl (fun K hK => ?_) AllReadyH.nil
            rw [if_pos (by rfl)]
            refine wp_store1 43 (.tmp 88) (.tmp 87) rfl eb 200 (.slice aoq230 (((rappsOf Ap H6.out i).zip (List.replicate i (Value.slice none 0 0))) ++ [((⟨appT Ap i, 8, [], appT_len _ _⟩, Value.slice none 0 0) : RRow × Value)]).length cq231) (by rfl) (by rfl) _ _ hOq233 (by rw [List.size_toArray, reraCells_len _ _ _ _ _ _ _ _ _ _ _ _ _ H4.out H7.out H3.out]; omega) Tryz.sizeRows rfl rfl ?_
            intro yq236 hOq237 gq238
            have hOq240 : Blk yq236 eb (reraCells f (.slice lao n lc) (.slice pao m pc2) me (.slice ao3 0 c3) In 32 (.slice none 0 0) 0 (.slice aoq230 (((rappsOf Ap H6.out i).zip (List.replicate i (Value.slice none 0 0))) ++ [((⟨appT Ap i, 8, [], appT_len _ _⟩, Value.slice none 0 0) : RRow × Value)]).length cq231) 0 Ex Ep).toArray 45 := by rw [rer_setA _ _ _ _ _ _ _ _ _ _ _ _ _ H4.out] at hOq237; exact hOq237
            have hRq241 := hRq227.other gq238 hOq233 (by decide)
            have hOq242 := hOq233
            have hTq243 := hTq234.other gq238 hOq233 (by decide) (by decide) (by decide)
            have hKq244 := hKq235.other gq238 hOq233 (by decide)
            refine hK.out _ _ ⟨hSq229.1.grown gq238 (fun e => by have := HEB.out; have e2 := Option.some.inj e; omega), hSq229.2.1.grown gq238 (fun e => by have := HEB.out; have e2 := Option.some.inj e; omega), hSq229.2.2.1.grown gq238 (fun e => by have := HEB.out; have e2 := Option.some.inj e; omega), hSq229.2.2.2.grown gq238 (Nat.le_trans (Nat.le_of_eq HN.out) hSq229.2.2.2.size) (fun q e => by cases e; exact HLE.out)⟩ (fun hSq239 => ?_)
            clear hK K hSq229 gq238 hOq237 hRq227 hOq233 hTq234 hKq235
            refine wpAnyH_done (by kernel_rfl) ?_ _
            have HR9 : Hid (ROwn rrowC 34 yq236 N 42 (.slice aoq230 (((rappsOf Ap H6.out i).zip (List.replicate i (Value.slice none 0 0))) ++ [((⟨appT Ap i, 8, [], appT_len _ _⟩, Value.slice none 0 0) : RRow × Value)]).length cq231) ((rappsOf Ap H6.out (i + 1)).zip (List.replicate (i + 1) (Value.slice none 0 0)))) := by show ROwn _ _ _ _ _ _ _; rw [rapps_succ]; exact hRq241
            have HM9 : Hid (RmSt N eb n m f ((s7 J Wl Ep In Cf Ap Ex).map bv) (f.cells (.slice lo n ac) (.slice po m pc)).toArray T me lao pao ao3 lc pc2 c3 cur In (.slice aoq230 (((rappsOf Ap H6.out i).zip (List.replicate i (Value.slice none 0 0))) ++ [((⟨appT Ap i, 8, [], appT_len _ _⟩, Value.slice none 0 0) : RRow × Value)]).length cq231) Ap H6.out (i + 1) Ex Ep yq236) := ⟨hOq240, hSq239.2.1, hSq239.1, hSq239.2.2.1, hTq243, hKq244, HR9.out⟩
            have HB9 := Lib.hid (hSq239.2.2.2)
            clear hSq239 hOq240 hRq241 hTq243 hKq244 HR9
            have HW64 : Hid (wrap64 ((i : Int) + 1) = ((i + 1 : Nat) : Int)) := wrap_succ i H64.out
            go_wp2_with fail
            go_roundw
            case rel => exact ⟨i + 1, _, by omega, by rw [HW64.out], HM9, HB9⟩
            case measure => exact meas64 n i _ HW64.out hlt
          refine AllReadyH.cons rfl (fun K hK => ?_) AllReadyH.nil
          rw [if_pos (by rfl)]
          refine wp_bsV 43 42 (.tmp 85) rfl (.agg (rcells (appT Ap i) 8 (Value.slice none 0 0)).toArray) (by rfl) Tryz.underlying43 (.agg zR6.toArray) 34 Tryz.zsRow6 (by show (rcells (appT Ap i) 8 (.slice none 0 0)).toArray.size = 34; rw [List.size_toArray]; exact rcells_len _ _ _ (appT_len _ _)) (by omega) (by omega) ?_
          intro yq245 szq246 bq247 nbq248
          have hRq250 := hRq210.below bq247
          have hOq251 := hOq211.below bq247 hOq211.lt
          have hTq252 := hTq212.below bq247
          have hKq253 := hKq213.below bq247
          refine hK.out _ _ ⟨hSq209.1.below bq247 hSq209.1.lt, hSq209.2.1.below bq247 hSq209.2.1.lt, hSq209.2.2.1.below bq247 hSq209.2.2.1.lt, hSq209.2.2.2.trans (bq247.mono (Nat.le_trans (Nat.le_of_eq HN.out) hSq209.2.2.2.size))⟩ (fun hSq249 => ?_)
          clear hK K hSq209 bq247 szq246 hRq210 hOq211 hTq212 hKq213
          refine wpAnyH_ready (rs := [1]) (by kernel_rfl) (by simp) ?_
          refine AllReadyH.cons rfl (fun K hK => ?_) AllReadyH.nil
          have hcq254 := hOq251.cell 200 _ (rer_cellA _ _ _ _ _ _ _ _ _ _ _ _ _ H4.out)
          go_simp
          clear hcq254
          refine hK.out _ _ hSq249 (fun hSq255 => ?_)
          clear hK K hSq249
          refine wpAnyH_ready (rs := [8]) (by kernel_rfl) (by simp) ?_
          refine AllReadyH.cons rfl (fun K hK => ?_) AllReadyH.nil
          rw [if_pos (by rfl)]
          refine wp_append_R (.tmp 80) (.tmp 86) 43 rfl rrowC_len rrowC_one N 42 (.agg zR6.toArray) 64 Tryz.underlying43 Tryz.infoRow63 (by rfl) (by omega) (by omega) _ ((rappsOf Ap H6.out i).zip (List.replicate i (Value.slice none 0 0))) [((⟨appT Ap i, 8, [], appT_len _ _⟩, Value.slice none 0 0) : RRow × Value)] (by rfl) hRq250 _ (by rfl) (RAt.blk nbq248) (by intro _ e; cases e) (by rw [HTK.out]; have := H64.out; simp; omega) (Nat.le_trans (Nat.le_of_eq HN.out) hSq255.2.2.2.size) ?_
          intro vq256 yq257 hRq258 gq259
          obtain ⟨aoq261, cq262, rfl⟩ := ROwn.slice hRq258
          have hRq263 := hRq250
          have hOq264 := hOq251.grown gq259 (fun e => own_ne hRq250 hOq251 (by decide) e.symm)
          have hTq265 := hTq252.rowK gq259 hRq250 (by decide) (by decide) (by decide)
          have hKq266 := ROwn.kept hKq253 gq259 (rows_apart hKq253 hRq250 (by decide))
          refine hK.out _ _ ⟨hSq255.1.grown gq259 (fun e => own_ne hRq250 hSq255.1 (by decide) e.symm), hSq255.2.1.grown gq259 (fun e => own_ne hRq250 hSq255.2.1 (by decide) e.symm), hSq255.2.2.1.grown gq259 (fun e => own_ne hRq250 hSq255.2.2.1 (by decide) e.symm), hSq255.2.2.2.grown gq259 (Nat.le_trans (Nat.le_of_eq HN.out) hSq255.2.2.2.size) (fun q e => (ROwn.lt hRq250 q e).1)⟩ (fun hSq260 => ?_)
          clear hK K hSq255 gq259 hRq250 hOq251 hTq252 hKq253 nbq248
          refine wpAnyH_take (i := 9) (v := .pointer (some ⟨eb, 200, none⟩)) rfl (by kernel_rfl) (by kernel_rfl) (by kernel_rfl) (fun _ _ _ h => h) (Or.inl ⟨by rfl, fun x hx => by go_simp⟩) hSq260 ?_
          simp only [Act.put, List.getElem_toArray, List.getElem_cons_zero, List.getElem_cons_succ, List.setIfInBounds_toArray, List.set_cons_zero, List.set_cons_succ]
          refine wpAnyH_ready (rs := [10]) (by kernel_rfl) (by simp) ?_
          refine AllReadyH.cons rfl (fun K hK => ?_) AllReadyH.nil
          rw [if_pos (by rfl)]
          refine wp_store1 43 (.tmp 88) (.tmp 87) rfl eb 200 (.slice aoq261 (((rappsOf Ap H6.out i).zip (List.replicate i (Value.slice none 0 0))) ++ [((⟨appT Ap i, 8, [], appT_len _ _⟩, Value.slice none 0 0) : RRow × Value)]).length cq262) (by rfl) (by rfl) _ _ hOq264 (by rw [List.size_toArray, reraCells_len _ _ _ _ _ _ _ _ _ _ _ _ _ H4.out H7.out H3.out]; omega) Tryz.sizeRows rfl rfl ?_
          intro yq267 hOq268 gq269
          have hOq271 : Blk yq267 eb (reraCells f (.slice lao n lc) (.slice pao m pc2) me (.slice ao3 0 c3) In 32 (.slice none 0 0) 0 (.slice aoq261 (((rappsOf Ap H6.out i).zip (List.replicate i (Value.slice none 0 0))) ++ [((⟨appT Ap i, 8, [], appT_len _ _⟩, Value.slice none 0 0) : RRow × Value)]).length cq262) 0 Ex Ep).toArray 45 := by rw [rer_setA _ _ _ _ _ _ _ _ _ _ _ _ _ H4.out] at hOq268; exact hOq268
          have hRq272 := hRq258.other gq269 hOq264 (by decide)
          have hOq273 := hOq264
          have hTq274 := hTq265.other gq269 hOq264 (by decide) (by decide) (by decide)
          have hKq275 := hKq266.other gq269 hOq264 (by decide)
          refine hK.out _ _ ⟨hSq260.1.grown gq269 (fun e => by have := HEB.out; have e2 := Option.some.inj e; omega), hSq260.2.1.grown gq269 (fun e => by have := HEB.out; have e2 := Option.some.inj e; omega), hSq260.2.2.1.grown gq269 (fun e => by have := HEB.out; have e2 := Option.some.inj e; omega), hSq260.2.2.2.grown gq269 (Nat.le_trans (Nat.le_of_eq HN.out) hSq260.2.2.2.size) (fun q e => by cases e; exact HLE.out)⟩ (fun hSq270 => ?_)
          clear hK K hSq260 gq269 hOq268 hRq258 hOq264 hTq265 hKq266
          refine wpAnyH_done (by kernel_rfl) ?_ _
          have HR9 : Hid (ROwn rrowC 34 yq267 N 42 (.slice aoq261 (((rappsOf Ap H6.out i).zip (List.replicate i (Value.slice none 0 0))) ++ [((⟨appT Ap i, 8, [], appT_len _ _⟩, Value.slice none 0 0) : RRow × Value)]).length cq262) ((rappsOf Ap H6.out (i + 1)).zip (List.replicate (i + 1) (Value.slice none 0 0)))) := by show ROwn _ _ _ _ _ _ _; rw [rapps_succ]; exact hRq272
          have HM9 : Hid (RmSt N eb n m f ((s7 J Wl Ep In Cf Ap Ex).map bv) (f.cells (.slice lo n ac) (.slice po m pc)).toArray T me lao pao ao3 lc pc2 c3 cur In (.slice aoq261 (((rappsOf Ap H6.out i).zip (List.replicate i (Value.slice none 0 0))) ++ [((⟨appT Ap i, 8, [], appT_len _ _⟩, Value.slice none 0 0) : RRow × Value)]).length cq262) Ap H6.out (i + 1) Ex Ep yq267) := ⟨hOq271, hSq270.2.1, hSq270.1, hSq270.2.2.1, hTq274, hKq275, HR9.out⟩
          have HB9 := Lib.hid (hSq270.2.2.2)
          clear hSq270 hOq271 hRq272 hTq274 hKq275 HR9
          have HW64 : Hid (wrap64 ((i : Int) + 1) = ((i + 1 : Nat) : Int)) := wrap_succ i H64.out
          go_wp2_with fail
          go_roundw
          case rel => exact ⟨i + 1, _, by omega, by rw [HW64.out], HM9, HB9⟩
          case measure => exact meas64 n i _ HW64.out hlt
        · obtain rfl : i = n := by omega
          have hE := HM.out.pe
          have hZ := HM.out.pz
          go_wp2_with (first | ((with_reducible show wpList _ _ _ (⟨some 74, _, _, _, _, _⟩ :: _) _ _); refine wpList_load1 rfl 24 (.tmp 73) rfl N 65 (by rfl) _ _ hcl Tryz.underlying24 rfl ?_) | ((with_reducible show wpList _ _ _ (⟨some 89, _, _, _, _, _⟩ :: _) _ _); refine wpList_load_mid rfl 45 (.tmp 11) rfl eb 0 (by rfl) ((reraCells f (.slice lao i lc) (.slice pao m pc2) me (.slice ao3 0 c3) In 32 (.slice none 0 0) 0 av 0 Ex Ep)) _ (blk_rangeP hE) Tryz.underlying45 rfl (by rw [reraCells_len _ _ _ _ _ _ _ _ _ _ _ _ _ H4.out H7.out H3.out]; exact Tryz.sizeREra) ?_) | ((with_reducible show wpList _ _ _ (⟨none, Op.store _ (.tmp 8) _, _, _, _, _⟩ :: _) _ _); refine wpList_storeBlk rfl 45 (.tmp 8) (.tmp 89) rfl (N + 2) ((reraCells f (.slice lao i lc) (.slice pao m pc2) me (.slice ao3 0 c3) In 32 (.slice none 0 0) 0 av 0 Ex Ep).toArray) (by rfl) (by rfl) _ _ hZ (by rw [List.size_toArray, reraCells_len _ _ _ _ _ _ _ _ _ _ _ _ _ H4.out H7.out H3.out]; exact Tryz.sizeREra) (by rw [List.size_toArray, List.size_toArray, reraCells_len _ _ _ _ _ _ _ _ _ _ _ _ _ H4.out H7.out H3.out]; exact reraCells_len _ _ _ _ _ _ _ _ _ _ _ _ _ rfl rfl rfl) (rer_allV HM.out.pav) ?_; intro w9 hZ9 g9))
          have hT9 := HM.out.pt.other g9 hZ (by decide) (by decide) (by decide)
          have hK9 := HM.out.pk.other g9 hZ (by decide)
          have hA9 := HM.out.pav.other g9 hZ (by decide)
          have hB9 := HB.out.grown g9 (Nat.le_trans (Nat.le_of_eq HN.out) HB.out.size) (fun q e => by cases e; omega)
          have HTK0 : ∀ i, ((rappsOf Ap H6.out i).zip (List.replicate i (Value.slice none 0 0))).length = i := fun i => rapps_len _ _ _
          clear HM HB hE hZ g9
          obtain ⟨ao9, c9, rfl⟩ := ROwn.slice hA9
          refine ret_blk2 rfl (N + 2) _ _ _ (by rfl) hZ9 Tryz.underlying45 rfl (by rw [List.size_toArray, reraCells_len _ _ _ _ _ _ _ _ _ _ _ _ _ H4.out H7.out H3.out]; exact Tryz.sizeREra) rfl ?_
          have e1 := hT9.ln
          have e2 := hT9.lm
          have e3 := HTK0 i
          have e4 : (rappsOf Ap H6.out i).length = i := by simp [rappsOf]
          rw [← HN.out]
          refine ⟨⟨lao, lc, pao, pc2, cur, ao3, c3, ao9, c9, List.replicate i (Value.slice none 0 0)⟩, ?_, ⟨by show TreeOwn _ _ lao T.leaves.length lc pao T.pars.length pc2 cur T; rw [e1, e2]; exact hT9, hK9, ?_, by simp [e4], ?_⟩, hB9⟩
          · subst e1 e2
            rw [e3]
            simp only [rerC, e4]
            rfl
          · show ROwn _ _ _ _ _ (.slice ao9 (rappsOf Ap H6.out i).length c9) _
            rw [e3] at hA9
            rw [e4]
            exact hA9
          · intro k q u h8 h9
            rw [List.getElem?_replicate] at h9
            have hq : q.tk = [] := by
              simp only [rappsOf, List.getElem?_map] at h8
              obtain ⟨z, _, rfl⟩ := Option.map_eq_some_iff.1 h8
              rfl
            split at h9
            · obtain rfl := Option.some.inj h9
              rw [hq]
              exact IntsO.nil _ _
            · cases h9
end Go.Proofs.YtjlpdbaknhbgdaaGreat
