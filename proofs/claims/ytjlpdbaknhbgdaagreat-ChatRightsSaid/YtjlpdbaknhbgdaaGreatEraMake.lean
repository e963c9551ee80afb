/-
  era.Make with a nil book.
-/
import Derived.Test.YtjlpdbaknhbgdaaGreatQEra
import Derived.Test.YtjlpdbaknhbgdaaGreatQRefK
import Derived.Test.YtjlpdbaknhbgdaaGreatQKeys
import Derived.Test.YtjlpdbaknhbgdaaGreatQBase
import Derived.WalkLawsBesides
import Derived.Deep.RegionHeld
import Derived.Outline
import Derived.Handy
set_option linter.unusedSimpArgs false
set_option linter.unusedVariables false
namespace Go.Proofs.YtjlpdbaknhbgdaaGreat
open Go.RowKit

/-- The apps' rows of a new era. -/
def appsOf (Ap : List UInt8) (L : List LeafA) : List (Option (List Sd)) := L.mapIdx fun i l => if 0 < l.n then some [⟨0, 0, appT Ap i⟩] else none
theorem TreeOwn.low {w : World} {b1 b2 : Nat} {lo po : Option Addr} {n ac m pc : Nat} {lvs : List Value} {T : TreeT} (h : TreeOwn w b1 lo n ac po m pc lvs T) (hb : b2 ≤ b1) : TreeOwn w b2 lo n ac po m pc lvs T :=
  ⟨h.ln, h.lm, h.lv, h.el.low hb, h.ep.low hb, fun i q u e1 e2 => (h.lo i q u e1 e2).low hb, h.wf, h.wl⟩
theorem era_h0 (f : FrA) (lv pv : Value) (me : Int) (kv iv : Value) (fk : Int) (av : Value) (sn : Int) (ex : List UInt8) : ∃ u, (eraCells f lv pv me kv iv fk av sn ex).toArray[0]? = some u ∧ ∀ n, u ≠ .int .i64 n := by
  have h := f.hi
  cases e : f.id with
  | nil => rw [e] at h; simp at h
  | cons a l => exact ⟨bv a, by rw [List.getElem?_toArray]; simp [eraCells, FrA.cells, e], by intro n e; cases e⟩
theorem era_lv (f : FrA) (lv pv : Value) (me : Int) (kv iv : Value) (fk : Int) (av : Value) (sn : Int) (ex : List UInt8) : (eraCells f lv pv me kv iv fk av sn ex).toArray[65]? = some lv := by
  rw [List.getElem?_toArray, eraCells, List.getElem?_append_left (by rw [f.cells_len]; omega)]; exact fr_lv f lv pv
theorem Tryz.sizePtr : (Tryz.prog.info? 54).map (·.size) = some 1 := by kernel_rfl
theorem Tryz.sizePts : (Tryz.prog.info? 55).map (·.size) = some 1 := by kernel_rfl
theorem RowAt.ptrs {w w' : World} {r B base : Nat} {l : List Sd} {v : Value} {rs : List (Option Nat)} (h : RowAt w r B l) (gr : w.grownBy w' v.ownBlock) (ho : ROwn ptrCells 1 w base 54 v rs) (hz : rs = [] → v = .slice none 0 0) : RowAt w' r B l := by
  cases rs with
  | nil =>
    rw [hz rfl] at gr
    exact h.below ((Below.refl _ _).grown gr (Nat.le_refl _) (fun q e => by cases e))
  | cons o rs =>
    rcases ho.2 with ⟨h0, h1⟩ | ⟨g, cap, cur, rfl, hb, hg, hnc, hcm, hcs, htk⟩
    · simp at h1
    · refine h.other gr hg ⟨ptrV o, ?_, by cases o <;> intro n e <;> cases e⟩
      have h2 : (cur.toList.take ((o :: rs).length * 1))[0]? = some (ptrV o) := by rw [htk]; rfl
      rw [List.getElem?_take_of_lt (by simp)] at h2
      simpa using h2
theorem RowO.ptrs {w w' : World} {base b2 : Nat} {o : Option Nat} {q : Option (List Sd)} {v : Value} {rs : List (Option Nat)} (h : RowO w b2 o q) (gr : w.grownBy w' v.ownBlock) (ho : ROwn ptrCells 1 w base 54 v rs) (hz : rs = [] → v = .slice none 0 0) : RowO w' b2 o q := by
  cases o <;> cases q <;> first | exact h | exact ⟨h.1.ptrs gr ho hz, h.2⟩
theorem RowO.other {w w' : World} {b2 M : Nat} {o : Option Nat} {q : Option (List Sd)} {cs : Array Value} {t : TypeId} (h : RowO w b2 o q) (gr : w.grownBy w' (some M)) (hM : Blk w M cs t) (h0 : ∃ u, cs[0]? = some u ∧ ∀ n, u ≠ .int .i64 n) : RowO w' b2 o q := by
  cases o <;> cases q <;> first | exact h | exact ⟨h.1.other gr hM h0, h.2⟩
theorem TreeOwn.ptrs {w w' : World} {base b2 : Nat} {lo po : Option Addr} {n ac m pc : Nat} {lvs : List Value} {T : TreeT} {v : Value} {rs : List (Option Nat)} (h : TreeOwn w b2 lo n ac po m pc lvs T) (gr : w.grownBy w' v.ownBlock) (ho : ROwn ptrCells 1 w base 54 v rs) : TreeOwn w' b2 lo n ac po m pc lvs T :=
  ⟨h.ln, h.lm, h.lv, h.el.kept gr (rows_apart h.el ho (by decide)), h.ep.kept gr (rows_apart h.ep ho (by decide)), fun i q u e1 e2 => by
    obtain ⟨ao, c, h1, h2⟩ := h.lo i q u e1 e2
    exact ⟨ao, c, h1, h2.kept gr (rows_apart h2 ho (by decide))⟩, h.wf, h.wl⟩
/-- An era that Make is building: the apps' rows so far. -/
structure EmSt (w : World) (N eb r n m : Nat) (f : FrA) (S7 : List Value) (FC : Array Value) (T : TreeT) (me : Int) (lao pao ao3 : Option Addr) (lc pc2 c3 : Nat) (cur : List Value) (In Ap Ex : List UInt8) (av : Value) (rs : List (Option Nat)) (wr : World) : Prop where
  pe : Blk wr eb (eraCells f (.slice lao n lc) (.slice pao m pc2) me (.slice ao3 0 c3) (.pointer (some ⟨r, 0, none⟩)) 0 av 0 Ex).toArray 57
  ps : Blk wr (N + 1) S7.toArray 129
  pf : Blk wr N FC 53
  pt : TreeOwn wr N lao n lc pao m pc2 cur T
  pk : ROwn KeyA.cells 33 wr N 142 (.slice ao3 0 c3) []
  pr : N ≤ r ∧ RowAt wr r 32 [⟨0, 0, In⟩]
  pav : ROwn ptrCells 1 wr N 54 av rs
  pnil : rs = [] → av = .slice none 0 0
  plen : rs.length ≤ T.leaves.length
  prow : ∀ (i : Nat) (o : Option Nat) (q : Option (List Sd)), rs[i]? = some o → (appsOf Ap T.leaves)[i]? = some q → RowO wr N o q
  pdist : (r :: rs.filterMap id).Nodup
  pb : N ≤ w.heap.size ∧ Below N w wr
section
variable {w : World} {N eb r n m : Nat} {f : FrA} {S7 : List Value} {FC : Array Value} {T : TreeT} {me : Int} {lao pao ao3 : Option Addr} {lc pc2 c3 : Nat} {cur : List Value} {In Ap Ex : List UInt8} {av : Value} {rs : List (Option Nat)} {wr : World}
theorem EmSt.below {wr' : World} (h : EmSt w N eb r n m f S7 FC T me lao pao ao3 lc pc2 c3 cur In Ap Ex av rs wr) (b : Below wr.heap.size wr wr') : EmSt w N eb r n m f S7 FC T me lao pao ao3 lc pc2 c3 cur In Ap Ex av rs wr' :=
  ⟨h.pe.below b h.pe.lt, h.ps.below b h.ps.lt, h.pf.below b h.pf.lt, h.pt.below b, h.pk.below b, ⟨h.pr.1, h.pr.2.below b⟩, h.pav.below b, h.pnil, h.plen, fun i o q h1 h2 => (h.prow i o q h1 h2).below b, h.pdist, h.pb.1, h.pb.2.trans (b.mono (Nat.le_trans h.pb.1 h.pb.2.size))⟩
theorem EmSt.rows_lt (h : EmSt w N eb r n m f S7 FC T me lao pao ao3 lc pc2 c3 cur In Ap Ex av rs wr) : ∀ x ∈ r :: rs.filterMap id, x < wr.heap.size := by
  intro x hx
  rcases List.mem_cons.1 hx with rfl | hx
  · exact h.pr.2.lt
  · obtain ⟨o, ho, he⟩ := List.mem_filterMap.1 hx
    obtain ⟨i, hi⟩ := List.getElem?_of_mem ho
    cases o with
    | none => cases he
    | some y =>
      cases he
      have hil : i < rs.length := (List.getElem?_eq_some_iff.1 hi).1
      have hia : i < (appsOf Ap T.leaves).length := by rw [appsOf, List.length_mapIdx]; have := h.plen; omega
      have := h.prow i _ _ hi (List.getElem?_eq_getElem hia)
      generalize (appsOf Ap T.leaves)[i] = q at this
      cases q with
      | none => exact this.elim
      | some q => exact this.1.lt
end
theorem apps_at {Ap : List UInt8} {L : List LeafA} {i : Nat} {l : LeafA} (h : L[i]? = some l) : (appsOf Ap L)[i]? = some (if 0 < l.n then some [⟨0, 0, appT Ap i⟩] else none) := by
  simp [appsOf, List.getElem?_mapIdx, h]
theorem nodup_snoc {l : List Nat} {x : Nat} (h : l.Nodup) (hx : ∀ y ∈ l, y < x) : (l ++ [x]).Nodup := by
  rw [List.nodup_append]
  refine ⟨h, by simp, fun a ha b hb e => ?_⟩
  simp at hb
  have := hx a ha
  omega
theorem Tryz.infoPtrC3 : (Tryz.prog.info? 54).map (fun i => (i.zero, i.size, i.bytes)) = some (some (.pointer none), 1, 8) := by kernel_rfl
theorem Tryz.zsPtr : (Tryz.prog.info? 54).map (fun i => (i.zero, i.size)) = some (some (.pointer none), 1) := by kernel_rfl
set_option maxHeartbeats 4000000 in
set_option maxRecDepth 100000 in
theorem EMake_calls (f : FrA) (lo po : Option Addr) (n ac m pc : Nat) (lvs : List Value) (T : TreeT) (me : Int) (J Wl Ep In Cf Ap Ex : List UInt8) (w : World) (hT : TreeIs w lo n ac po m pc lvs T) (hn : n ≤ 64) (hm : m ≤ 1000000) (hw : ∀ q ∈ T.pars, q.loose.length ≤ 1000000)
    (hR : rightT T = true) (hp : 0 ≤ placeT T me) (hd0 : 0 ≤ f.dep) (hd1 : f.dep ≤ 4611686018427387903) (hti : f.times.any badN = false)
    (h1 : J.length = 32) (h2 : Wl.length = 32) (h3 : Ep.length = 32) (h4 : In.length = 32) (h5 : Cf.length = 32) (h6 : Ap.length = 32) (h7 : Ex.length = 32) :
    Calls Tryz.prog 52 #[.pointer none, .agg (f.cells (.slice lo n ac) (.slice po m pc)).toArray, .int .i64 me, .slice none 0 0, .agg ((s7 J Wl Ep In Cf Ap Ex).map bv).toArray] w fun e w' => ∃ eb M, e = .returned (.tuple #[.pointer (some ⟨eb, 0, none⟩), .int .i64 0]) ∧ EraIs w' w.heap.size eb M ⟨f, T, me, [], [⟨0, 0, In⟩], 0, appsOf Ap T.leaves, 0, Ex, h7⟩ ∧ Below w.heap.size w w' := by
  obtain ⟨N, hN⟩ : ∃ N, N = w.heap.size := ⟨_, rfl⟩
  have HN : Hid (N = w.heap.size) := hN
  have hF : Blk ((w.alloc (.cells (f.cells (.slice lo n ac) (.slice po m pc)).toArray 53)).alloc (.cells ((s7 J Wl Ep In Cf Ap Ex).map bv).toArray 129)) N (f.cells (.slice lo n ac) (.slice po m pc)).toArray 53 := by rw [hN]; exact (Blk.new _ _ _).alloc _
  have hS : Blk ((w.alloc (.cells (f.cells (.slice lo n ac) (.slice po m pc)).toArray 53)).alloc (.cells ((s7 J Wl Ep In Cf Ap Ex).map bv).toArray 129)) (N + 1) ((s7 J Wl Ep In Cf Ap Ex).map bv).toArray 129 := by rw [hN]; exact blk_nxt _ _ _ _
  have hb0 : Below N w ((w.alloc (.cells (f.cells (.slice lo n ac) (.slice po m pc)).toArray 53)).alloc (.cells ((s7 J Wl Ep In Cf Ap Ex).map bv).toArray 129)) := by rw [hN]; exact ((Below.refl _ _).alloc (Nat.le_refl _) _).alloc (by simp) _
  have HT := Lib.hid (hT.below (by rw [← hN]; exact hb0))
  have cR : ∀ y, TreeIs y lo n ac po m pc lvs T → Calls Tryz.prog 124 #[.agg #[.slice lo n ac, .slice po m pc]] y fun e w' => e = .returned (.bool true) ∧ Below y.heap.size y w' := fun y hy => by rw [← hR]; exact TreeRight_calls lo po n ac m pc lvs T y hy (by omega) hm
  have cP : ∀ y, TreeIs y lo n ac po m pc lvs T → Calls Tryz.prog 71 #[.agg #[.slice lo n ac, .slice po m pc], .int .i64 me] y fun e w' => e = .returned (.int .i64 (placeT T me)) ∧ Below y.heap.size y w' := fun y hy => Place_calls _ _ _ _ _ _ _ _ _ y hy (by omega) hm
  have cK : ∀ y, N ≤ y.heap.size → TreeIs y lo n ac po m pc lvs T → Calls Tryz.prog 81 #[.agg #[.slice lo n ac, .slice po m pc], .slice none 0 0] y fun e w' => ∃ ao c, e = .returned (.slice ao 0 c) ∧ Hid (ROwn KeyA.cells 33 w' N 142 (.slice ao 0 c) []) ∧ Below y.heap.size y w' := fun y hle hy => (Keep0_calls lo po n ac m pc lvs T y hy (by omega) hm hR).mono (by rintro e w' ⟨ao, c, he, h2, h3⟩; exact ⟨ao, c, he, h2.low hle, h3⟩)
  have cC : ∀ y, N ≤ y.heap.size → TreeIs y lo n ac po m pc lvs T → Calls Tryz.prog 63 #[.agg #[.slice lo n ac, .slice po m pc]] y fun e w' => ∃ lao lc pao pc2 cur, e = .returned (.agg #[.slice lao n lc, .slice pao m pc2]) ∧ Hid (TreeOwn w' N lao n lc pao m pc2 cur T) ∧ Below y.heap.size y w' := fun y hle hy => (copied_calls lo po n ac m pc lvs T y hy (by omega) hm hw).mono (by rintro e w' ⟨lao, lc, pao, pc2, cur, he, h2, h3⟩; exact ⟨lao, lc, pao, pc2, cur, he, h2.low hle, h3⟩)
  have hnp : ¬ placeT T me < 0 := by omega
  have hd2 : ¬ f.dep < 0 := by omega
  have hd3 : ¬ 4611686018427387903 < f.dep := by omega
  have HTI := Lib.hid hti
  have HN64 := Lib.hid hn
  have cA : ∀ y (i : Nat), i < 64 → Calls Tryz.prog 128 #[.pointer none, .agg (Ap.map bv).toArray, .int .i64 i] y fun e w' => e = .returned (.agg ((appT Ap i).map bv).toArray) ∧ Below y.heap.size y w' := fun y i hi => by have h := App_calls Ap (i : Int) y h6 (by omega) (by omega); rwa [Int.toNat_natCast] at h
  have H3 := Lib.hid h3
  have H4 := Lib.hid h4
  have H6 := Lib.hid h6
  have H7 := Lib.hid h7
  have hsx : ∀ y : World, y.rangeAt (N + 1) 0 ((s7 J Wl Ep In Cf Ap Ex).map bv) → y.rangeAt (N + 1) 64 (Ep.map bv) ∧ y.rangeAt (N + 1) 96 (In.map bv) ∧ y.rangeAt (N + 1) 160 (Ap.map bv) ∧ y.rangeAt (N + 1) 192 (Ex.map bv) := fun y hy => by
    have := s7_at h1 h2 h3 h4 h5 h6 hy
    simpa using this
  have HLN := Lib.hid hT.ln
  obtain ⟨pl, hpl⟩ : ∃ pl, pl = placeT T me := ⟨_, rfl⟩
  rw [← hpl] at hnp
  simp only [← hpl] at cP
  clear hT hn hm hw hR hp hd0 hd1 hti h1 h2 h3 h4 h5 h6 hpl
  go_enter Tryz.func52, Tryz.ntmps52
  go_upto_region 1 with (fail)
  rw [← hN]
  clear hN
  obtain ⟨w0, hw0⟩ : ∃ z, z = (w.alloc (.cells (f.cells (.slice lo n ac) (.slice po m pc)).toArray 53)).alloc (.cells ((s7 J Wl Ep In Cf Ap Ex).map bv).toArray 129) := ⟨_, rfl⟩
  rw [← hw0] at hF hS hb0 HT ⊢
  clear hw0
  have ltree := fr_tree _ _ _ (blk_rangeP hF)
  have hcd := hF.cell 64 _ (by rw [List.getElem?_toArray]; exact fr_dep _ _ _)
  go_wp2_with ((with_reducible show wpList _ _ _ (⟨some 18, _, _, _, _, _⟩ :: _) _ _); refine wpList_load_mid rfl 27 (.tmp 17) rfl (N) 65 (by rfl) ([.slice lo n ac, .slice po m pc]) _ (ltree) Tryz.underlying27 rfl (Tryz.sizeTree) ?_)
  have ltq3 : N < w0.heap.size := hF.lt
  have ltq4 : (N + 1) < w0.heap.size := hS.lt
  refine (cR _ HT.out).mono ?_
  rintro e wq1 ⟨rfl, bq2⟩
  have hCq5 := hF.below bq2 hF.lt
  have hCq6 := hS.below bq2 hS.lt
  have hCq7 := Lib.hid (HT.out.below bq2)
  have hBq8 := hb0.trans (bq2.mono (Nat.le_trans (Nat.le_of_eq HN.out) hb0.size))
  clear hF hS HT hb0
  clear bq2
  have hcd2 := hCq5.cell 64 _ (by rw [List.getElem?_toArray]; exact fr_dep _ _ _)
  clear hcd ltree
  go_wp2_with (first | ((with_reducible show wpList _ _ _ (⟨some 23, _, _, _, _, _⟩ :: _) _ _); refine wpList_if (by rfl) (wp_load1 3 (.tmp 22) rfl (N) 64 (by rfl) _ _ (hcd2) Tryz.underlying3 rfl ?_)) | ((with_reducible show wpList _ _ _ (⟨some 29, _, _, _, _, _⟩ :: _) _ _); refine wpList_if (by rfl) (wp_load1 3 (.tmp 28) rfl (N) 64 (by rfl) _ _ (hcd2) Tryz.underlying3 rfl ?_)))
  refine (ContainsB_calls N 99 64 64 f.times _ (fun j x hx => hCq5.cell _ _ (by rw [List.getElem?_toArray]; exact fr_time _ _ _ j x hx)) f.ht (by omega)).mono ?_
  rintro e ww ⟨rfl, hww⟩
  subst ww
  rw [HTI.out]
  clear hcd2
  have ltree := fr_tree _ _ _ (blk_rangeP hCq5)
  go_wp2_with ((with_reducible show wpList _ _ _ (⟨some 38, _, _, _, _, _⟩ :: _) _ _); refine wpList_load_mid rfl 27 (.tmp 37) rfl (N) 65 (by rfl) ([.slice lo n ac, .slice po m pc]) _ (ltree) Tryz.underlying27 rfl (Tryz.sizeTree) ?_)
  have ltq11 : N < wq1.heap.size := hCq5.lt
  have ltq12 : (N + 1) < wq1.heap.size := hCq6.lt
  refine (cP _ hCq7.out).mono ?_
  rintro e wq9 ⟨rfl, bq10⟩
  have hCq13 := hCq5.below bq10 hCq5.lt
  have hCq14 := hCq6.below bq10 hCq6.lt
  have hCq15 := Lib.hid (hCq7.out.below bq10)
  have hBq16 := hBq8.trans (bq10.mono (Nat.le_trans (Nat.le_of_eq HN.out) hBq8.size))
  clear hCq5 hCq6 hCq7 hBq8
  clear bq10
  clear ltree
  go_wp2_with fail
  refine wp_region_held_drew (S := fun x => Blk x (N) (f.cells (.slice lo n ac) (.slice po m pc)).toArray 53 ∧ Blk x (N + 1) ((s7 J Wl Ep In Cf Ap Ex).map bv).toArray 129 ∧ TreeIs x lo n ac po m pc lvs T ∧ Below N w x) (by kernel_rfl) ⟨hCq13.drew, hCq14.drew, hCq15.out.below (below_drewN (Below.refl _ _) 1), below_drewN hBq16 1⟩ (fun hSq17 => ?_)
  refine wpAnyH_take (i := 0) rfl (by kernel_rfl) (by kernel_rfl) (by kernel_rfl) (fun _ _ _ h => h) (yieldsIf_load_mid (by rfl) 53 (.tmp 6) rfl (N) (0) (by rfl) ((f.cells (.slice lo n ac) (.slice po m pc))) _ (fun x hx => blk_rangeP hx.1) Tryz.underlying53 rfl (by rw [FrA.cells_len]; exact Tryz.sizeFrame)) hSq17 ?_
  simp only [Act.put, List.getElem_toArray, List.getElem_cons_zero, List.getElem_cons_succ, List.setIfInBounds_toArray, List.set_cons_zero, List.set_cons_succ]
  refine wpAnyH_take (i := 1) (v := .int .i64 me) rfl (by kernel_rfl) (by kernel_rfl) (by kernel_rfl) (fun _ _ _ h => h) (Or.inl ⟨by rfl, fun x hx => by go_simp⟩) hSq17 ?_
  simp only [Act.put, List.getElem_toArray, List.getElem_cons_zero, List.getElem_cons_succ, List.setIfInBounds_toArray, List.set_cons_zero, List.set_cons_succ]
  refine wpAnyH_take (i := 2) (v := .pointer (some ⟨N, 65, none⟩)) rfl (by kernel_rfl) (by kernel_rfl) (by kernel_rfl) (fun _ _ _ h => h) (Or.inl ⟨by rfl, fun x hx => by go_simp⟩) hSq17 ?_
  simp only [Act.put, List.getElem_toArray, List.getElem_cons_zero, List.getElem_cons_succ, List.setIfInBounds_toArray, List.set_cons_zero, List.set_cons_succ]
  refine wpAnyH_take (i := 3) rfl (by kernel_rfl) (by kernel_rfl) (by kernel_rfl) (fun _ _ _ h => h) (yieldsIf_load_mid (by rfl) 27 (.tmp 44) rfl (N) (65) (by rfl) ([.slice lo n ac, .slice po m pc]) _ (fun x hx => fr_tree _ _ _ (blk_rangeP hx.1)) Tryz.underlying27 rfl (Tryz.sizeTree)) hSq17 ?_
  simp only [Act.put, List.getElem_toArray, List.getElem_cons_zero, List.getElem_cons_succ, List.setIfInBounds_toArray, List.set_cons_zero, List.set_cons_succ]
  refine wpAnyH_take (i := 4) (v := .slice none 0 0) rfl (by kernel_rfl) (by kernel_rfl) (by kernel_rfl) (fun _ _ _ h => h) (Or.inl ⟨by rfl, fun x hx => by go_simp⟩) hSq17 ?_
  simp only [Act.put, List.getElem_toArray, List.getElem_cons_zero, List.getElem_cons_succ, List.setIfInBounds_toArray, List.set_cons_zero, List.set_cons_succ]
  refine wpAnyH_take (i := 6) (v := .pointer (some ⟨N + 1, 192, none⟩)) rfl (by kernel_rfl) (by kernel_rfl) (by kernel_rfl) (fun _ _ _ h => h) (Or.inl ⟨by rfl, fun x hx => by go_simp⟩) hSq17 ?_
  simp only [Act.put, List.getElem_toArray, List.getElem_cons_zero, List.getElem_cons_succ, List.setIfInBounds_toArray, List.set_cons_zero, List.set_cons_succ]
  refine wpAnyH_take (i := 7) rfl (by kernel_rfl) (by kernel_rfl) (by kernel_rfl) (fun _ _ _ h => h) (yieldsIf_load_mid (by rfl) 23 (.tmp 48) rfl (N + 1) (192) (by rfl) ((Ex.map bv)) _ (fun x hx => (hsx _ (blk_rangeP hx.2.1)).2.2.2) Tryz.underlying23 rfl (by rw [List.length_map, H7.out]; exact Tryz.sizeHash)) hSq17 ?_
  simp only [Act.put, List.getElem_toArray, List.getElem_cons_zero, List.getElem_cons_succ, List.setIfInBounds_toArray, List.set_cons_zero, List.set_cons_succ]
  refine wpAnyH_ready (rs := [5]) (by kernel_rfl) (by simp) ?_
  refine AllReadyH.cons rfl (fun K hK => ?_) AllReadyH.nil
  go_simp
  go_wp2_with (go_at_call 81; refine (cK _ (Nat.le_trans (Nat.le_of_eq HN.out) hSq17.2.2.2.size) hSq17.2.2.1).mono ?_; rintro e yq18 ⟨ao3, c3, rfl, HKO, bq19⟩)
  refine hK.out _ _ ⟨hSq17.1.below bq19 hSq17.1.lt, hSq17.2.1.below bq19 hSq17.2.1.lt, hSq17.2.2.1.below bq19, hSq17.2.2.2.trans (bq19.mono (Nat.le_trans (Nat.le_of_eq HN.out) hSq17.2.2.2.size))⟩ (fun hSq20 => ?_)
  clear hK K hSq17 bq19
  refine wpAnyH_take (i := 8) rfl (by kernel_rfl) (by kernel_rfl) (by kernel_rfl) (fun _ _ _ h => h) (yieldsIf_build (by rfl) 57 #[(0, .tmp 42), (1, .tmp 43), (2, .tmp 47), (7, .tmp 49)] rfl (eraCells f (.slice lo n ac) (.slice po m pc) me (.slice ao3 0 c3) (.pointer none) 0 (.slice none 0 0) 0 Ex).toArray (Tryz.builtEra f _ _ me _ Ex rfl H7.out)) hSq20 ?_
  simp only [Act.put, List.getElem_toArray, List.getElem_cons_zero, List.getElem_cons_succ, List.setIfInBounds_toArray, List.set_cons_zero, List.set_cons_succ]
  refine wpAnyH_ready (rs := [9]) (by kernel_rfl) (by simp) ?_
  refine AllReadyH.cons rfl (fun K hK => ?_) AllReadyH.nil
  rw [if_pos (by rfl)]
  refine wp_boxZ 57 (.tmp 50) rfl (eraCells f (.slice lo n ac) (.slice po m pc) me (.slice ao3 0 c3) (.pointer none) 0 (.slice none 0 0) 0 Ex).toArray (by rfl) ?_
  intro gq24 yq22 egq25 ezq26 bq21 hEq23
  have lgq27 : N ≤ gq24 := by rw [egq25]; exact Nat.le_trans (Nat.le_of_eq HN.out) hSq20.2.2.2.size
  have lbq28 : N < gq24 := by rw [egq25]; exact hSq20.1.lt
  have lbq29 : N + 1 < gq24 := by rw [egq25]; exact hSq20.2.1.lt
  have hHq30 := Lib.hid (HKO.out.below bq21)
  refine hK.out _ _ ⟨hSq20.1.below bq21 hSq20.1.lt, hSq20.2.1.below bq21 hSq20.2.1.lt, hSq20.2.2.1.below bq21, hSq20.2.2.2.trans (bq21.mono (Nat.le_trans (Nat.le_of_eq HN.out) hSq20.2.2.2.size))⟩ (fun hSq31 => ?_)
  clear hK K hSq20 bq21 egq25 ezq26
  refine wpAnyH_ready (rs := [10]) (by kernel_rfl) (by simp) ?_
  refine AllReadyH.cons rfl (fun K hK => ?_) AllReadyH.nil
  go_simp
  refine hK.out _ _ hSq31 (fun hSq32 => ?_)
  clear hK K hSq31
  refine wpAnyH_done (by kernel_rfl) ?_ _
  obtain ⟨eb, heb⟩ : ∃ z, z = gq24 := ⟨_, rfl⟩
  rw [← heb] at hEq23 lgq27 ⊢
  have HEB : Hid (N + 1 < eb) := by have h1 := hSq32.2.1.lt; subst heb; show N + 1 < _; omega
  have HLE : Hid (N ≤ eb) := lgq27
  clear heb lgq27
  have hF5 := hSq32.1
  have hS5 := hSq32.2.1
  have hT5 := hSq32.2.2.1
  have hB5 := hSq32.2.2.2
  have hE5 := hEq23
  have HK5 := hHq30
  have ltree := fr_tree _ _ _ (blk_rangeP hF5)
  clear hSq32 hEq23 hHq30
  go_wp2_with ((with_reducible show wpList _ _ _ (⟨some 54, _, _, _, _, _⟩ :: _) _ _); refine wpList_load_mid rfl 27 (.tmp 53) rfl (N) 65 (by rfl) ([.slice lo n ac, .slice po m pc]) _ (ltree) Tryz.underlying27 rfl (Tryz.sizeTree) ?_)
  refine (cC _ (Nat.le_trans (Nat.le_of_eq HN.out) hB5.size) hT5).mono ?_
  rintro e w6 ⟨lao, lc, pao, pc2, cur, rfl, HT6, b6⟩
  have hE6 := hE5.below b6 hE5.lt
  have hS6 := hS5.below b6 hS5.lt
  have hF6 := hF5.below b6 hF5.lt
  have HK6 := Lib.hid (HK5.out.below b6)
  have hB6 := hB5.trans (b6.mono (Nat.le_trans (Nat.le_of_eq HN.out) hB5.size))
  clear hE5 hS5 HK5 hB5 hF5 hT5 b6 ltree cC
  go_wp2_with (first | ((with_reducible show wpList _ _ _ (⟨none, Op.store _ (.tmp 58) _, _, _, _, _⟩ :: _) _ _); refine wpList_storeV rfl 27 (.tmp 58) (.tmp 55) rfl eb 65 (.agg #[.slice lao n lc, .slice pao m pc2]) (by rfl) (by rfl) 57 _ _ _ _ [.slice lao n lc, .slice pao m pc2] hE6 (era_splitT ..) (fr_preT f) (by rfl) (by rfl) (by intro x hx; simp at hx; rcases hx with rfl | rfl <;> rfl) Tryz.sizeTree ?_; intro w7 hE7 g7; rw [← era_splitT] at hE7; have hS7 := hS6.grown g7 (fun e => by have := HEB.out; have e2 := Option.some.inj e; omega); have hF7 := hF6.grown g7 (fun e => by have := HEB.out; have e2 := Option.some.inj e; omega); have HK7 := Lib.hid (HK6.out.other g7 hE6 (by decide)); have HT7 := Lib.hid (HT6.out.other g7 hE6 (by decide) (by decide) (by decide)); have hB7 := hB6.grown g7 (Nat.le_trans (Nat.le_of_eq HN.out) hB6.size) (fun q e => by cases e; exact HLE.out); clear hE6 hS6 hF6 HK6 HT6 hB6 g7; have hin := (hsx _ (blk_rangeP hS7)).2.1) | ((with_reducible show wpList _ _ _ (⟨some 62, _, _, _, _, _⟩ :: _) _ _); refine wpList_load_mid rfl 23 (.tmp 61) rfl (N + 1) 96 (by rfl) (In.map bv) _ (hin) Tryz.underlying23 rfl (by rw [List.length_map, H4.out]; exact Tryz.sizeHash) ?_))
  refine (New6_calls In 32 _ H4.out (by omega) (by omega)).mono ?_
  rintro e w8 ⟨r, rfl, hr8, hR8, b8⟩
  have HR8 : Hid (N ≤ r ∧ RowAt w8 r 32 [⟨0, 0, In⟩]) := ⟨Nat.le_trans (Nat.le_trans (Nat.le_of_eq HN.out) hB7.size) hr8, hR8⟩
  have hE8 := hE7.below b8 hE7.lt
  have hS8 := hS7.below b8 hS7.lt
  have hF8 := hF7.below b8 hF7.lt
  have HK8 := Lib.hid (HK7.out.below b8)
  have HT8 := Lib.hid (HT7.out.below b8)
  have hB8 := hB7.trans (b8.mono (Nat.le_trans (Nat.le_of_eq HN.out) hB7.size))
  clear hE7 hS7 hF7 HK7 HT7 hB7 hR8 hr8 b8 hin
  go_wp2_with (first | ((with_reducible show wpList _ _ _ (⟨none, Op.store _ (.tmp 67) _, _, _, _, _⟩ :: _) _ _); refine wpList_store1 rfl 54 (.tmp 67) (.tmp 64) rfl eb 165 (.pointer (some ⟨r, 0, none⟩)) (by rfl) (by rfl) _ _ hE8 (by rw [List.size_toArray, eraCells_len _ _ _ _ _ _ _ _ _ _ h7]; omega) Tryz.sizePtr rfl rfl ?_; intro w9 hE9 g9; rw [era_setI] at hE9; have hS9 := hS8.grown g9 (fun e => by have := HEB.out; have e2 := Option.some.inj e; omega); have hF9 := hF8.grown g9 (fun e => by have := HEB.out; have e2 := Option.some.inj e; omega); have HK9 := Lib.hid (HK8.out.other g9 hE8 (by decide)); have HT9 := Lib.hid (HT8.out.other g9 hE8 (by decide) (by decide) (by decide)); have HR9 : Hid (N ≤ r ∧ RowAt w9 r 32 [⟨0, 0, In⟩]) := ⟨HR8.out.1, HR8.out.2.other g9 hE8 (era_h0 ..)⟩; have hB9 := hB8.grown g9 (Nat.le_trans (Nat.le_of_eq HN.out) hB8.size) (fun q e => by cases e; exact HLE.out); clear hE8 hS8 hF8 HK8 HT8 HR8 hB8 g9; have hcl := hE9.cell 65 _ (era_lv ..)) | ((with_reducible show wpList _ _ _ (⟨some 73, _, _, _, _, _⟩ :: _) _ _); refine wpList_load1 rfl 24 (.tmp 72) rfl eb 65 (by rfl) _ _ hcl Tryz.underlying24 rfl ?_))
  have HMI := Lib.hid (⟨hE9, hS9, hF9, HT9.out, HK9.out, HR9.out, ROwn.nil _ _ _, (fun _ => rfl), Nat.zero_le _, (fun i o q e => by simp at e), (by simp), ⟨Nat.le_of_eq HN.out, hB9⟩⟩ : EmSt w N eb r n m f ((s7 J Wl Ep In Cf Ap Ex).map bv) (f.cells (.slice lo n ac) (.slice po m pc)).toArray T me lao pao ao3 lc pc2 c3 cur In Ap Ex (.slice none 0 0) [] w9)
  clear hE9 hS9 hF9 HT9 HK9 HR9 hB9 hcl
  go_loopw [75] (fun j wr => ∃ (i : Nat) (av : Value) (rs : List (Option Nat)), i ≤ n ∧ rs.length = i ∧ j = .int .i64 i ∧ Hid (EmSt w N eb r n m f ((s7 J Wl Ep In Cf Ap Ex).map bv) (f.cells (.slice lo n ac) (.slice po m pc)).toArray T me lao pao ao3 lc pc2 c3 cur In Ap Ex av rs wr)) (fun j _ => n - (intOf j).toNat)
  case atStart => exact ⟨0, _, _, by omega, rfl, rfl, HMI⟩
  case round =>
    clear HMI
    obtain ⟨i, av, rs, hi, hrl, rfl, HS⟩ := hrel
    obtain ⟨wr2, rfl⟩ : ∃ z, z = wr := ⟨_, rfl⟩
    by_cases hlt : i < n
    · obtain ⟨g, off, l, rfl, hx, hrw⟩ := HS.out.pt.is.el.at i hlt
      have HX := Lib.hid hx
      have HRL := Lib.hid hrl
      have H64 : Hid (i < 64) := by have := HN64.out; show i < 64; omega
      have hB := HS.out.pb.2
      clear hx hrl
      by_cases hl : 0 < l.n
      · go_wp2_with (first | ((with_reducible show wpList _ _ _ (⟨some 79, _, _, _, _, _⟩ :: _) _ _); refine wpList_load_mid rfl 144 (.tmp 78) rfl g (off + i * 97) (by rfl) l.cells _ hrw Tryz.underlying144 rfl (leaf_sizeL l) ?_) | ((with_reducible show wpList _ _ _ (⟨some 14, _, _, _, _, _⟩ :: _) _ _); refine wpList_allocZ rfl 144 rfl _ Tryz.zeroLeaf ?_; intro wq33 hsq34 baq35 hNq36) | ((with_reducible show wpList _ _ _ (⟨none, Op.store _ (.tmp 14) _, _, _, _, _⟩ :: _) _ _); refine wpList_storeBlk rfl 144 (.tmp 14) (.tmp 79) rfl (wr2.heap.size) (l.cells.toArray) (by rfl) (by rfl) _ _ hNq36 (leaf_sizeA l) (leaf_hold l) (leaf_all l) ?_; intro wq37 hKq38 gq39; have bbq40 := below_new baq35 gq39 (Nat.le_refl _) baq35.size; have hCq41 := Lib.hid (HS.out.below bbq40); have hBq42 := hB.trans (bbq40.mono (Nat.le_trans (Nat.le_of_eq HN.out) hB.size)); clear HS hB; clear bbq40 baq35 hNq36 gq39 hsq34) | ((with_reducible show wpList _ _ _ (⟨some 81, _, _, _, _, _⟩ :: _) _ _); refine wpList_load1 rfl 3 (.tmp 80) rfl (wr2.heap.size) 0 (by rfl) _ _ (leaf_nR (blk_rangeP hKq38)) Tryz.underlying3 rfl ?_) | ((with_reducible show wpList _ _ _ (⟨some 86, _, _, _, _, _⟩ :: _) _ _); refine wpList_load_mid rfl 23 (.tmp 85) rfl (N + 1) 160 (by rfl) (Ap.map bv) _ ((hsx _ (blk_rangeP hCq41.out.ps)).2.2.1) Tryz.underlying23 rfl (by rw [List.length_map, H6.out]; exact Tryz.sizeHash) ?_))
        clear hrw
        refine (cA _ i H64.out).mono ?_
        rintro e wq43 ⟨rfl, bq44⟩
        have hCq45 := Lib.hid (hCq41.out.below bq44)
        have hBq46 := hBq42.trans (bq44.mono (Nat.le_trans (Nat.le_of_eq HN.out) hBq42.size))
        clear hCq41 hBq42
        clear bq44
        go_wp2_with fail
        have hlt2 := hCq45.out.rows_lt
        have hNA := Nat.le_trans hCq45.out.pb.1 hCq45.out.pb.2.size
        refine (New6_calls (appT Ap i) 8 _ (appT_len _ _) (by omega) (by omega)).mono ?_
        rintro e wq47 ⟨r2, rfl, hr2, hR2, bq48⟩
        have hCq49 := Lib.hid (hCq45.out.below bq48)
        have hBq50 := hBq46.trans (bq48.mono (Nat.le_trans (Nat.le_of_eq HN.out) hBq46.size))
        clear hCq45 hBq46
        clear bq48
        have hHq51 := Lib.hid hR2
        clear hR2
        have HLT : Hid (∀ x ∈ r :: rs.filterMap id, x < r2) := fun x hx => Nat.lt_of_lt_of_le (hlt2 x hx) hr2
        have HNR : Hid (N ≤ r2) := Nat.le_trans hNA hr2
        clear hlt2 hr2 hNA
        go_wp2_with (first | ((with_reducible show wpList _ _ _ (⟨some 96, _, _, _, _, _⟩ :: _) _ _); refine wpList_load1 rfl 55 (.tmp 95) rfl (eb) 167 (by rfl) _ _ (hCq49.out.pe.cell 167 _ (era_at _ _ _ _ _ _ _ _ _ _ 4 _ rfl)) Tryz.underlying55 rfl ?_) | ((with_reducible show wpList _ _ _ (⟨some 98, _, _, _, _, _⟩ :: _) _ _); refine wpList_bsV rfl 55 54 (.tmp 97) rfl (ptrV (some r2)) (by rfl) Tryz.underlying55 (.pointer none) 1 Tryz.zsPtr (by rfl) (by omega) (by omega) ?_; intro yq52 szq53 bq54 nbq55; have hCq56 := Lib.hid (hCq49.out.below bq54); have hCq57 := Lib.hid (hHq51.out.below bq54); have hBq58 := hBq50.trans (bq54.mono (Nat.le_trans (Nat.le_of_eq HN.out) hBq50.size)); clear hCq49 hHq51 hBq50; clear szq53 bq54) | ((with_reducible show wpList _ _ _ (⟨some 99, _, _, _, _, _⟩ :: _) _ _); refine wpList_append_R rfl (.tmp 96) (.tmp 98) 55 rfl ptrCells_len ptrCells_one N 54 (.pointer none) 8 Tryz.underlying55 Tryz.infoPtrC3 (by rfl) (by omega) (by omega) _ rs [(some r2)] (by rfl) hCq56.out.pav _ (by rfl) (RAt.blk nbq55) (by intro _ e; cases e) (by rw [HRL.out]; have := H64.out; simp; omega) (Nat.le_trans (Nat.le_of_eq HN.out) hBq58.size) ?_; intro v5 yq59 hR5 gR; obtain ⟨ao5, c5, rfl⟩ := ROwn.slice hR5; obtain ⟨n5, hn5⟩ : ∃ n5, n5 = (rs ++ [(some r2)]).length := ⟨_, rfl⟩; rw [← hn5] at hR5; rw [← hn5]; have HN5 := Lib.hid hn5; clear hn5; have hE6 := hCq56.out.pe.grown gR (fun e => own_ne hCq56.out.pav hCq56.out.pe (by decide) e.symm); have hS6 := hCq56.out.ps.grown gR (fun e => own_ne hCq56.out.pav hCq56.out.ps (by decide) e.symm); have hF6 := hCq56.out.pf.grown gR (fun e => own_ne hCq56.out.pav hCq56.out.pf (by decide) e.symm); have HT6 := Lib.hid (hCq56.out.pt.ptrs gR hCq56.out.pav); have HK6 := Lib.hid (ROwn.kept hCq56.out.pk gR (rows_apart hCq56.out.pk hCq56.out.pav (by decide))); have HR6 : Hid (N ≤ r ∧ RowAt yq59 r 32 [⟨0, 0, In⟩]) := ⟨hCq56.out.pr.1, hCq56.out.pr.2.ptrs gR hCq56.out.pav hCq56.out.pnil⟩; have HW6 : Hid (∀ (i : Nat) (o : Option Nat) (q : Option (List Sd)), rs[i]? = some o → (appsOf Ap T.leaves)[i]? = some q → RowO yq59 N o q) := fun i o q e1 e2 => (hCq56.out.prow i o q e1 e2).ptrs gR hCq56.out.pav hCq56.out.pnil; have hB6 := hBq58.grown gR (Nat.le_trans (Nat.le_of_eq HN.out) hBq58.size) (fun q e => (ROwn.lt hCq56.out.pav q e).1); have HQ6 := Lib.hid (hCq57.out.ptrs gR hCq56.out.pav hCq56.out.pnil); have HP6 := Lib.hid hR5; clear hR5 gR nbq55) | ((with_reducible show wpList _ _ _ (⟨none, Op.store _ (.tmp 101) _, _, _, _, _⟩ :: _) _ _); refine wpList_store1 rfl 55 (.tmp 101) (.tmp 99) rfl eb 167 (.slice ao5 n5 c5) (by rfl) (by rfl) _ _ hE6 (by rw [List.size_toArray, eraCells_len _ _ _ _ _ _ _ _ _ _ h7]; omega) Tryz.sizePts rfl rfl ?_; intro w7 hE7 g7; rw [era_setA] at hE7))
        have HM9 : Hid (EmSt w N eb r n m f ((s7 J Wl Ep In Cf Ap Ex).map bv) (f.cells (.slice lo n ac) (.slice po m pc)).toArray T me (some ⟨g, off, none⟩) pao ao3 lc pc2 c3 cur In Ap Ex (.slice ao5 n5 c5) (rs ++ [(some r2)]) w7) := by
          refine ⟨hE7, hS6.grown g7 (fun e => by have := HEB.out; have e2 := Option.some.inj e; omega), hF6.grown g7 (fun e => by have := HEB.out; have e2 := Option.some.inj e; omega), HT6.out.other g7 hE6 (by decide) (by decide) (by decide), HK6.out.other g7 hE6 (by decide), ⟨HR6.out.1, HR6.out.2.other g7 hE6 (era_h0 ..)⟩, HP6.out.other g7 hE6 (by decide), (fun e => by simp at e), ?_, fun k o' q e1 e2 => ?_, (by have h9 := nodup_snoc hCq56.out.pdist HLT.out; rw [List.filterMap_append]; simpa using h9), ⟨Nat.le_of_eq HN.out, hB6.grown g7 (Nat.le_trans (Nat.le_of_eq HN.out) hB6.size) (fun q e => by cases e; exact HLE.out)⟩⟩
          · have h8 := (List.getElem?_eq_some_iff.1 HX.out).1
            have h9 := HRL.out
            simp; omega
          · by_cases e : k < rs.length
            · rw [List.getElem?_append_left e] at e1
              exact (HW6.out k o' q e1 e2).other g7 hE6 (era_h0 ..)
            · rw [List.getElem?_append_right (by omega)] at e1
              have e3 : k - rs.length = 0 := by have h9 := (List.getElem?_eq_some_iff.1 e1).1; simp at h9; omega
              rw [e3] at e1
              obtain rfl := Option.some.inj e1
              obtain rfl : k = i := by have h9 := HRL.out; omega
              rw [apps_at HX.out] at e2
              obtain rfl := Option.some.inj e2
              rw [if_pos hl]; exact ⟨HQ6.out.other g7 hE6 (era_h0 ..), HNR.out⟩
        clear hE7 hE6 hS6 hF6 HT6 HK6 HR6 HW6 hB6 HP6 g7
        have HW64 : Hid (wrap64 ((i : Int) + 1) = ((i + 1 : Nat) : Int)) := wrap_succ i H64.out
        go_wp2_with fail
        go_roundw
        case rel => exact ⟨i + 1, _, _, by omega, by rw [List.length_append, HRL.out]; rfl, by rw [HW64.out], HM9⟩
        case measure => exact meas64 n i _ HW64.out hlt
      · go_wp2_with (first | ((with_reducible show wpList _ _ _ (⟨some 79, _, _, _, _, _⟩ :: _) _ _); refine wpList_load_mid rfl 144 (.tmp 78) rfl g (off + i * 97) (by rfl) l.cells _ hrw Tryz.underlying144 rfl (leaf_sizeL l) ?_) | ((with_reducible show wpList _ _ _ (⟨some 14, _, _, _, _, _⟩ :: _) _ _); refine wpList_allocZ rfl 144 rfl _ Tryz.zeroLeaf ?_; intro wq60 hsq61 baq62 hNq63) | ((with_reducible show wpList _ _ _ (⟨none, Op.store _ (.tmp 14) _, _, _, _, _⟩ :: _) _ _); refine wpList_storeBlk rfl 144 (.tmp 14) (.tmp 79) rfl (wr2.heap.size) (l.cells.toArray) (by rfl) (by rfl) _ _ hNq63 (leaf_sizeA l) (leaf_hold l) (leaf_all l) ?_; intro wq64 hKq65 gq66; have bbq67 := below_new baq62 gq66 (Nat.le_refl _) baq62.size; have hCq68 := Lib.hid (HS.out.below bbq67); have hBq69 := hB.trans (bbq67.mono (Nat.le_trans (Nat.le_of_eq HN.out) hB.size)); clear HS hB; clear bbq67 baq62 hNq63 gq66 hsq61) | ((with_reducible show wpList _ _ _ (⟨some 81, _, _, _, _, _⟩ :: _) _ _); refine wpList_load1 rfl 3 (.tmp 80) rfl (wr2.heap.size) 0 (by rfl) _ _ (leaf_nR (blk_rangeP hKq65)) Tryz.underlying3 rfl ?_) | ((with_reducible show wpList _ _ _ (⟨some 96, _, _, _, _, _⟩ :: _) _ _); refine wpList_load1 rfl 55 (.tmp 95) rfl (eb) 167 (by rfl) _ _ (hCq68.out.pe.cell 167 _ (era_at _ _ _ _ _ _ _ _ _ _ 4 _ rfl)) Tryz.underlying55 rfl ?_) | ((with_reducible show wpList _ _ _ (⟨some 98, _, _, _, _, _⟩ :: _) _ _); refine wpList_bsV rfl 55 54 (.tmp 97) rfl (ptrV none) (by rfl) Tryz.underlying55 (.pointer none) 1 Tryz.zsPtr (by rfl) (by omega) (by omega) ?_; intro yq70 szq71 bq72 nbq73; have hCq74 := Lib.hid (hCq68.out.below bq72); have hBq75 := hBq69.trans (bq72.mono (Nat.le_trans (Nat.le_of_eq HN.out) hBq69.size)); clear hCq68 hBq69; clear szq71 bq72) | ((with_reducible show wpList _ _ _ (⟨some 99, _, _, _, _, _⟩ :: _) _ _); refine wpList_append_R rfl (.tmp 96) (.tmp 98) 55 rfl ptrCells_len ptrCells_one N 54 (.pointer none) 8 Tryz.underlying55 Tryz.infoPtrC3 (by rfl) (by omega) (by omega) _ rs [none] (by rfl) hCq74.out.pav _ (by rfl) (RAt.blk nbq73) (by intro _ e; cases e) (by rw [HRL.out]; have := H64.out; simp; omega) (Nat.le_trans (Nat.le_of_eq HN.out) hBq75.size) ?_; intro v5 yq76 hR5 gR; obtain ⟨ao5, c5, rfl⟩ := ROwn.slice hR5; obtain ⟨n5, hn5⟩ : ∃ n5, n5 = (rs ++ [none]).length := ⟨_, rfl⟩; rw [← hn5] at hR5; rw [← hn5]; have HN5 := Lib.hid hn5; clear hn5; have hE6 := hCq74.out.pe.grown gR (fun e => own_ne hCq74.out.pav hCq74.out.pe (by decide) e.symm); have hS6 := hCq74.out.ps.grown gR (fun e => own_ne hCq74.out.pav hCq74.out.ps (by decide) e.symm); have hF6 := hCq74.out.pf.grown gR (fun e => own_ne hCq74.out.pav hCq74.out.pf (by decide) e.symm); have HT6 := Lib.hid (hCq74.out.pt.ptrs gR hCq74.out.pav); have HK6 := Lib.hid (ROwn.kept hCq74.out.pk gR (rows_apart hCq74.out.pk hCq74.out.pav (by decide))); have HR6 : Hid (N ≤ r ∧ RowAt yq76 r 32 [⟨0, 0, In⟩]) := ⟨hCq74.out.pr.1, hCq74.out.pr.2.ptrs gR hCq74.out.pav hCq74.out.pnil⟩; have HW6 : Hid (∀ (i : Nat) (o : Option Nat) (q : Option (List Sd)), rs[i]? = some o → (appsOf Ap T.leaves)[i]? = some q → RowO yq76 N o q) := fun i o q e1 e2 => (hCq74.out.prow i o q e1 e2).ptrs gR hCq74.out.pav hCq74.out.pnil; have hB6 := hBq75.grown gR (Nat.le_trans (Nat.le_of_eq HN.out) hBq75.size) (fun q e => (ROwn.lt hCq74.out.pav q e).1); have HP6 := Lib.hid hR5; clear hR5 gR nbq73) | ((with_reducible show wpList _ _ _ (⟨none, Op.store _ (.tmp 101) _, _, _, _, _⟩ :: _) _ _); refine wpList_store1 rfl 55 (.tmp 101) (.tmp 99) rfl eb 167 (.slice ao5 n5 c5) (by rfl) (by rfl) _ _ hE6 (by rw [List.size_toArray, eraCells_len _ _ _ _ _ _ _ _ _ _ h7]; omega) Tryz.sizePts rfl rfl ?_; intro w7 hE7 g7; rw [era_setA] at hE7))
        have HM9 : Hid (EmSt w N eb r n m f ((s7 J Wl Ep In Cf Ap Ex).map bv) (f.cells (.slice lo n ac) (.slice po m pc)).toArray T me (some ⟨g, off, none⟩) pao ao3 lc pc2 c3 cur In Ap Ex (.slice ao5 n5 c5) (rs ++ [none]) w7) := by
          refine ⟨hE7, hS6.grown g7 (fun e => by have := HEB.out; have e2 := Option.some.inj e; omega), hF6.grown g7 (fun e => by have := HEB.out; have e2 := Option.some.inj e; omega), HT6.out.other g7 hE6 (by decide) (by decide) (by decide), HK6.out.other g7 hE6 (by decide), ⟨HR6.out.1, HR6.out.2.other g7 hE6 (era_h0 ..)⟩, HP6.out.other g7 hE6 (by decide), (fun e => by simp at e), ?_, fun k o' q e1 e2 => ?_, (by have h9 := hCq74.out.pdist; rw [List.filterMap_append]; simpa using h9), ⟨Nat.le_of_eq HN.out, hB6.grown g7 (Nat.le_trans (Nat.le_of_eq HN.out) hB6.size) (fun q e => by cases e; exact HLE.out)⟩⟩
          · have h8 := (List.getElem?_eq_some_iff.1 HX.out).1
            have h9 := HRL.out
            simp; omega
          · by_cases e : k < rs.length
            · rw [List.getElem?_append_left e] at e1
              exact (HW6.out k o' q e1 e2).other g7 hE6 (era_h0 ..)
            · rw [List.getElem?_append_right (by omega)] at e1
              have e3 : k - rs.length = 0 := by have h9 := (List.getElem?_eq_some_iff.1 e1).1; simp at h9; omega
              rw [e3] at e1
              obtain rfl := Option.some.inj e1
              obtain rfl : k = i := by have h9 := HRL.out; omega
              rw [apps_at HX.out] at e2
              obtain rfl := Option.some.inj e2
              rw [if_neg hl]; exact trivial
        clear hE7 hE6 hS6 hF6 HT6 HK6 HR6 HW6 hB6 HP6 g7
        have HW64 : Hid (wrap64 ((i : Int) + 1) = ((i + 1 : Nat) : Int)) := wrap_succ i H64.out
        go_wp2_with fail
        go_roundw
        case rel => exact ⟨i + 1, _, _, by omega, by rw [List.length_append, HRL.out]; rfl, by rw [HW64.out], HM9⟩
        case measure => exact meas64 n i _ HW64.out hlt
    · obtain rfl : i = n := by omega
      have HRL := Lib.hid hrl
      obtain ⟨ao, ac2, rfl⟩ := ROwn.slice HS.out.pav
      have hF := HS.out.pf
      have hB := HS.out.pb.2
      have HFI : Hid (f.id.length = 32) := f.hi
      have HFX : Hid ((hexT f.id).length = 64) := by show _ = _; rw [hexT_len, f.hi]
      obtain ⟨X, hX⟩ : ∃ X, X = hexT f.id := ⟨_, rfl⟩
      have cX : ∀ y, Calls Tryz.prog 30 #[.agg (f.id.map bv).toArray] y fun e w' => e = .returned (.string (str X)) ∧ Below y.heap.size y w' := fun y => by rw [hX]; exact Hex_calls f.id y HFI.out
      rw [← hX] at HFX
      have lX := HFX.out
      clear hX hrl hi hlt
      go_wp2_with fail
      refine wp_region_held_drew (S := fun x => Blk x (N) (f.cells (.slice lo i ac) (.slice po m pc)).toArray 53 ∧ EmSt w N eb r i m f ((s7 J Wl Ep In Cf Ap Ex).map bv) (f.cells (.slice lo i ac) (.slice po m pc)).toArray T me lao pao ao3 lc pc2 c3 cur In Ap Ex (.slice ao rs.length ac2) rs x ∧ Below N w x) (by kernel_rfl) ⟨hF.drew, HS.out.below (below_drewN (Below.refl _ _) 1), below_drewN hB 1⟩ (fun hSq77 => ?_)
      refine wpAnyH_take (i := 0) (v := .pointer none) rfl (by kernel_rfl) (by kernel_rfl) (by kernel_rfl) (fun _ _ _ h => h) (Or.inl ⟨by rfl, fun x hx => by go_simp⟩) hSq77 ?_
      simp only [Act.put, List.getElem_toArray, List.getElem_cons_zero, List.getElem_cons_succ, List.setIfInBounds_toArray, List.set_cons_zero, List.set_cons_succ]
      refine wpAnyH_take (i := 1) (v := .pointer (some ⟨N, 0, none⟩)) rfl (by kernel_rfl) (by kernel_rfl) (by kernel_rfl) (fun _ _ _ h => h) (Or.inl ⟨by rfl, fun x hx => by go_simp⟩) hSq77 ?_
      simp only [Act.put, List.getElem_toArray, List.getElem_cons_zero, List.getElem_cons_succ, List.setIfInBounds_toArray, List.set_cons_zero, List.set_cons_succ]
      refine wpAnyH_take (i := 2) rfl (by kernel_rfl) (by kernel_rfl) (by kernel_rfl) (fun _ _ _ h => h) (yieldsIf_load_mid (by rfl) 23 (.tmp 104) rfl (N) (0) (by rfl) ((f.id.map bv)) _ (fun x hx => fr_id _ _ _ (blk_rangeP hx.1)) Tryz.underlying23 rfl (by rw [List.length_map, HFI.out]; exact Tryz.sizeHash)) hSq77 ?_
      simp only [Act.put, List.getElem_toArray, List.getElem_cons_zero, List.getElem_cons_succ, List.setIfInBounds_toArray, List.set_cons_zero, List.set_cons_succ]
      refine wpAnyH_take (i := 5) (v := .pointer (some ⟨N + 1, 64, none⟩)) rfl (by kernel_rfl) (by kernel_rfl) (by kernel_rfl) (fun _ _ _ h => h) (Or.inl ⟨by rfl, fun x hx => by go_simp⟩) hSq77 ?_
      simp only [Act.put, List.getElem_toArray, List.getElem_cons_zero, List.getElem_cons_succ, List.setIfInBounds_toArray, List.set_cons_zero, List.set_cons_succ]
      refine wpAnyH_take (i := 6) rfl (by kernel_rfl) (by kernel_rfl) (by kernel_rfl) (fun _ _ _ h => h) (yieldsIf_load_mid (by rfl) 23 (.tmp 108) rfl (N + 1) (64) (by rfl) ((Ep.map bv)) _ (fun x hx => (hsx _ (blk_rangeP hx.2.1.ps)).1) Tryz.underlying23 rfl (by rw [List.length_map, H3.out]; exact Tryz.sizeHash)) hSq77 ?_
      simp only [Act.put, List.getElem_toArray, List.getElem_cons_zero, List.getElem_cons_succ, List.setIfInBounds_toArray, List.set_cons_zero, List.set_cons_succ]
      refine wpAnyH_ready (rs := [3]) (by kernel_rfl) (by simp) ?_
      refine AllReadyH.cons rfl (fun K hK => ?_) AllReadyH.nil
      go_simp
      go_wp2_with (go_at_call 30; refine (cX _).mono ?_; rintro e yq78 ⟨rfl, bq79⟩)
      refine hK.out _ _ ⟨hSq77.1.below bq79 hSq77.1.lt, hSq77.2.1.below bq79, hSq77.2.2.trans (bq79.mono (Nat.le_trans (Nat.le_of_eq HN.out) hSq77.2.2.size))⟩ (fun hSq80 => ?_)
      clear hK K hSq77 bq79
      refine wpAnyH_take (i := 4) (v := .string (str ([101, 112, 111, 99, 104, 32] ++ X))) rfl (by kernel_rfl) (by kernel_rfl) (by kernel_rfl) (fun _ _ _ h => h) (Or.inl ⟨by rfl, fun x hx => by go_simp; exact str_append [101, 112, 111, 99, 104, 32] X⟩) hSq80 ?_
      simp only [Act.put, List.getElem_toArray, List.getElem_cons_zero, List.getElem_cons_succ, List.setIfInBounds_toArray, List.set_cons_zero, List.set_cons_succ]
      refine wpAnyH_ready (rs := [7]) (by kernel_rfl) (by simp) ?_
      refine AllReadyH.cons rfl (fun K hK => ?_) AllReadyH.nil
      go_simp
      go_wp2_with (go_at_call 104; refine (NameNil_calls (101 :: 112 :: 111 :: 99 :: 104 :: 32 :: X) Ep H3.out _).mono ?_; rintro e yq81 ⟨rfl, bq82⟩)
      refine hK.out _ _ ⟨hSq80.1.below bq82 hSq80.1.lt, hSq80.2.1.below bq82, hSq80.2.2.trans (bq82.mono (Nat.le_trans (Nat.le_of_eq HN.out) hSq80.2.2.size))⟩ (fun hSq83 => ?_)
      clear hK K hSq80 bq82
      refine wpAnyH_done (by kernel_rfl) ?_ _
      have hE := hSq83.2.1
      have hBx := hSq83.2.2
      clear hSq83
      go_wp2_with fail
      go_returns
      have e1 := hE.pt.ln
      have e2 := hE.pt.lm
      have e3 := HRL.out
      subst e1 e2
      rw [← HN.out]
      exact ⟨eb, ⟨lao, lc, pao, pc2, cur, ao3, c3, r, ao, ac2, rs⟩, rfl, ⟨hE.pe, HLE.out, hE.pt, hE.pk, hE.pr.2, hE.pr.1, hE.pav, by show rs.length = (appsOf Ap T.leaves).length; rw [appsOf, List.length_mapIdx]; exact e3, hE.prow, hE.pdist⟩, hBx⟩
end Go.Proofs.YtjlpdbaknhbgdaaGreat
