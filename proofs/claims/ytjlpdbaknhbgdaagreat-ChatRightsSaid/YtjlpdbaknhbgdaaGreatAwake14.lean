/-
  bevylaw14.awake.
-/
import Derived.Test.YtjlpdbaknhbgdaaGreatGroup
import Derived.Test.YtjlpdbaknhbgdaaGreatUnprot
import Derived.WalkLawsBesides
import Derived.Deep.RegionHeld
import Derived.Deep.Cut
import Derived.Outline
import Derived.Handy
set_option linter.unusedSimpArgs false
set_option linter.unusedVariables false
namespace Go.Proofs.YtjlpdbaknhbgdaaGreat
open Go.RowKit

def j1 : List UInt8 := 1 :: List.replicate 31 0
theorem Tryz.builtJ1 : Tryz.prog.built 23 [(0, .int .u8 1)] = some (j1.map bv).toArray := by kernel_rfl
theorem look_new (h : List UInt8) : (lookT 8 0 [⟨0, 0, h⟩]).2 = 0 := by kernel_rfl
theorem look_took (h : List UInt8) : (lookT 8 0 (takeT 8 0 [⟨0, 0, h⟩])).2 = 10 := by kernel_rfl
theorem rowOk_new (B : Nat) (h : List UInt8) : RowOk B [⟨0, 0, h⟩] := ⟨fun s hs => by rw [List.mem_singleton.1 hs]; exact ⟨Nat.zero_le _, by simp⟩, by simp⟩
theorem rowOk_took (h : List UInt8) : RowOk 8 (takeT 8 0 [⟨0, 0, h⟩]) := by
  have e : (takeT 8 0 [⟨0, 0, h⟩]).map (fun s => (s.lv, s.pl)) = [(8, 1), (7, 1), (6, 1), (5, 1), (4, 1), (3, 1), (2, 1), (1, 1)] := by kernel_rfl
  have el := congrArg List.length e
  refine ⟨fun s hs => ?_, by rw [List.length_map] at el; rw [el]; simp⟩
  have hm : (s.lv, s.pl) ∈ (takeT 8 0 [⟨0, 0, h⟩]).map (fun s => (s.lv, s.pl)) := List.mem_map.2 ⟨s, hs, rfl⟩
  rw [e] at hm
  simp only [List.mem_cons, Prod.mk.injEq, List.not_mem_nil, or_false] at hm
  rcases hm with ⟨e1, e2⟩ | ⟨e1, e2⟩ | ⟨e1, e2⟩ | ⟨e1, e2⟩ | ⟨e1, e2⟩ | ⟨e1, e2⟩ | ⟨e1, e2⟩ | ⟨e1, e2⟩ <;> (rw [e1, e2]; decide)
theorem EraIs.rowEx {w : World} {base eb i : Nat} {M : EraM} {E : EraD} {l : List Sd} (h : EraIs w base eb M E) (hl : E.apps[i]? = some (some l)) : ∃ r, M.rs[i]? = some (some r) := by
  have hlt : i < M.rs.length := by rw [h.la]; exact (List.getElem?_eq_some_iff.1 hl).1
  have hr := List.getElem?_eq_getElem hlt
  have ho := h.rows i _ _ hr hl
  generalize M.rs[i] = o at hr ho
  cases o with
  | none => exact ho.elim
  | some r => exact ⟨r, hr⟩
theorem rows_mem {x : Nat × EraM} {i r : Nat} (hr : x.2.rs[i]? = some (some r)) : r ∈ rowsOf x := by
  simp only [rowsOf, List.mem_cons]
  exact .inr (.inr (List.mem_filterMap.2 ⟨some r, List.mem_of_getElem? hr, rfl⟩))
section
variable {w x : World} {base eb r B : Nat} {l : List Sd}
/-- What another member said leaves this era. -/
theorem EraIs.saidOther {eb2 : Nat} {M M2 : EraM} {E E2 E2' : EraD} (h : EraIs w base eb M E) (g : Gr2 w r eb2 x) (h2 : EraIs w base eb2 M2 E2) (h2' : EraIs x base eb2 M2 E2') (hR : RowAt w r B l) (h3 : r ∉ rowsOf (eb, M)) (h4 : eb ≠ eb2) : EraIs x base eb M E := by
  obtain ⟨w1, g1, g2, hb⟩ := g.split h2.blk h2'.blk
  exact (h.otherRow g1 hR h3).other g2 hb (eraC_0 _ _) h4 (by decide) (by decide) (by decide) (by decide) (by decide)
theorem Blk.saidOther {eb2 b : Nat} {M2 : EraM} {E2 E2' : EraD} {cs : Array Value} {t : TypeId} (h : Blk w b cs t) (g : Gr2 w r eb2 x) (h2 : EraIs w base eb2 M2 E2) (h2' : EraIs x base eb2 M2 E2') (hR : RowAt w r B l) (ht : t ≠ 158) (ht2 : t ≠ 57) : Blk x b cs t := by
  obtain ⟨w1, g1, g2, hb⟩ := g.split h2.blk h2'.blk
  obtain ⟨_, hv⟩ := hR.slot
  have h1 := h.grown g1 (fun e => blk_ne h hv ht (Option.some.inj e))
  exact h1.grown g2 (fun e => blk_ne h1 hb ht2 (Option.some.inj e))
theorem Blk.heard {b : Nat} {cs : Array Value} {t : TypeId} (h : Blk w b cs t) (g : Gr w r x) (hR : RowAt w r B l) (ht : t ≠ 158) : Blk x b cs t := by
  obtain ⟨_, hv⟩ := hR.slot
  exact h.grown g.g (fun e => blk_ne h hv ht (Option.some.inj e))
end
/-- The three members. -/
theorem GrpIs.three {w : World} {base gb : Nat} {ms : List (Nat × EraM)} {rs : List RMemM} {Ds : List RMemD} {E1 E2 E3 : EraD} (h : GrpIs w base gb ms [E1, E2, E3] rs Ds) : ∃ x1 x2 x3, ms = [x1, x2, x3] ∧ EraIs w base x1.1 x1.2 E1 ∧ EraIs w base x2.1 x2.2 E2 ∧ EraIs w base x3.1 x3.2 E3 ∧ (rowsOf x1 ++ (rowsOf x2 ++ rowsOf x3)).Nodup := by
  have hl : ms.length = 3 := h.lm
  match ms, hl with
  | [x1, x2, x3], _ => exact ⟨x1, x2, x3, rfl, h.es 0 _ _ rfl rfl, h.es 1 _ _ rfl rfl, h.es 2 _ _ rfl rfl, by have := h.dist; simpa using this⟩
theorem grp_cell {w : World} {gb k : Nat} {ms : List (Nat × EraM)} {qs : List (List Value)} {x : Nat × EraM} (h : Blk w gb (gC (pad none (ms.map fun x => some x.1)) qs).toArray 92) (hk : ms[k]? = some x) : w.cell? ⟨gb, k + 1, none⟩ = some (.pointer (some ⟨x.1, 0, none⟩)) := by
  refine h.cell (k + 1) _ ?_
  have e := pad_get none (ms.map fun x => some x.1) k (some x.1) (by rw [List.getElem?_map, hk]; rfl)
  rw [List.getElem?_toArray, gC, List.getElem?_append_left (by rw [List.length_map]; exact (List.getElem?_eq_some_iff.1 e).1), List.getElem?_map, e]; rfl
theorem erasG3 (j : List UInt8) (d : Int) : erasG j d 3 = [eraG j d 1, eraG j d 2, eraG j d 3] := rfl
def appL (j : List UInt8) (k : Nat) : List Sd := [⟨0, 0, appT (apG j) k⟩]
theorem apps_2 (j : List UInt8) (d : Int) (k : Nat) : (eraG j d k).apps[2]? = some (some (appL j 2)) := rfl
theorem nd23 {a b c : List Nat} (h : (a ++ (b ++ c)).Nodup) : ∀ q ∈ b, q ∉ c := by
  intro q h1 h2
  exact (List.nodup_append.1 (List.nodup_append.1 h).2.1).2.2 q h1 q h2 rfl
theorem prot_facts : rightN (protN (eraG j1 3 2) (lookT 8 (eraG j1 3 2).sn (appL j1 2)).1 [97, 98]) = true ∧ (protN (eraG j1 3 2) (lookT 8 (eraG j1 3 2).sn (appL j1 2)).1 [97, 98]).h = (eraG j1 3 3).f.id ∧ (protN (eraG j1 3 2) (lookT 8 (eraG j1 3 2).sn (appL j1 2)).1 [97, 98]).d = (eraG j1 3 3).f.dep ∧ (protN (eraG j1 3 2) (lookT 8 (eraG j1 3 2).sn (appL j1 2)).1 [97, 98]).a = 2 ∧ (protN (eraG j1 3 2) (lookT 8 (eraG j1 3 2).sn (appL j1 2)).1 [97, 98]).g = 0 ∧ (protN (eraG j1 3 2) (lookT 8 (eraG j1 3 2).sn (appL j1 2)).1 [97, 98]).s.length = 18 ∧ openV (lookT 8 0 (appL j1 2)).1 (headN (protN (eraG j1 3 2) (lookT 8 (eraG j1 3 2).sn (appL j1 2)).1 [97, 98])) (protN (eraG j1 3 2) (lookT 8 (eraG j1 3 2).sn (appL j1 2)).1 [97, 98]).s = ([97, 98], 0) := by
  have hl : (protN (eraG j1 3 2) (lookT 8 (eraG j1 3 2).sn (appL j1 2)).1 [97, 98]).s.length = 18 := by show (sealT _ _ _).length = 18; rw [sealT_len]; rfl
  refine ⟨?_, rfl, rfl, rfl, rfl, hl, ?_⟩
  · have e1 : (protN (eraG j1 3 2) (lookT 8 (eraG j1 3 2).sn (appL j1 2)).1 [97, 98]).d = 3 := rfl
    have e2 : (protN (eraG j1 3 2) (lookT 8 (eraG j1 3 2).sn (appL j1 2)).1 [97, 98]).a = 2 := rfl
    have e3 : (protN (eraG j1 3 2) (lookT 8 (eraG j1 3 2).sn (appL j1 2)).1 [97, 98]).g = 0 := rfl
    unfold rightN
    rw [e1, e2, e3, hl]
    decide
  · exact open_seal _ _ _ (by simp)
set_option maxHeartbeats 16000000 in
set_option maxRecDepth 100000 in
theorem awake14_calls (w : World) : Calls Tryz.prog 31 #[] w fun e w' => e = .returned (.bool true) ∧ Below w.heap.size w w' := by
  obtain ⟨N, hN⟩ : ∃ N, N = w.heap.size := ⟨_, rfl⟩
  have HN : Hid (N = w.heap.size) := hN
  have cG : Calls Tryz.prog 32 #[.agg (j1.map bv).toArray, .int .i64 3] w fun e w' => ∃ gb ms rs, e = .returned (.pointer (some ⟨gb, 0, none⟩)) ∧ GrpIs w' N gb ms (erasG j1 3 3) rs (memsG j1 3 3) ∧ Below N w w' := by rw [hN]; exact Group_calls j1 rfl 3 (by omega) (by omega) w
  have hbj := Tryz.builtJ1
  obtain ⟨PN, hPN⟩ : ∃ z, z = (protN (eraG j1 3 2) (lookT 8 (eraG j1 3 2).sn (appL j1 2)).1 [97, 98]) := ⟨_, rfl⟩
  have hpf := prot_facts
  have cPr : ∀ (y : World) (eb : Nat) (M : EraM) (r : Nat), EraIs y N eb M (eraG j1 3 2) → M.rs[2]? = some (some r) → Calls Tryz.prog 33 #[.pointer none, .pointer (some ⟨eb, 0, none⟩), .string { data := #[97, 98] }] y fun e w' => e = .returned (.tuple #[.agg PN.cells.toArray, .int .i64 0]) ∧ EraIs w' N eb M (((eraG j1 3 2).took 2 (takeT 8 (eraG j1 3 2).sn (appL j1 2))).said ((eraG j1 3 2).sn + 1)) ∧ Gr2 y r eb w' := fun y eb M r h hr => by
    rw [hPN]
    exact Protect_calls N eb M (eraG j1 3 2) y h (by show 4 ≤ 1000000; omega) (by show 3 ≤ 1000000; omega) 2 r (appL j1 2) chat_place2 hr (apps_2 _ _ _) (rowOk_new _ _) [97, 98] (by simp) (by show (0 : Int) ≤ 0; omega) (by show (0 : Int) < 256; omega) (look_new _) (by show (0 : Int) ≤ 3; omega) (by show (3 : Int) ≤ 4611686018427387903; omega) (by show (1 : Int) ≤ 2; omega) (by show (2 : Int) ≤ 64; omega)
  rw [← hPN] at hpf
  obtain ⟨p1, p2, p3, p4, p5, p6, p7⟩ := hpf
  have cU1 : ∀ (y : World) (eb : Nat) (M : EraM) (r : Nat), EraIs y N eb M (eraG j1 3 3) → M.rs[2]? = some (some r) → Calls Tryz.prog 34 #[.pointer none, .pointer (some ⟨eb, 0, none⟩), .agg PN.cells.toArray] y fun e w' => e = .returned (.tuple #[.string { data := #[97, 98] }, .int .i64 0]) ∧ Hid (EraIs w' N eb M ((eraG j1 3 3).took 2 (takeT 8 0 (appL j1 2))) ∧ Gr y r w' ∧ RowAt y r 8 (appL j1 2)) := fun y eb M r h hr =>
    (Unprotect_calls N eb M (eraG j1 3 3) PN y h (by show 4 ≤ 1000000; omega) (by show 3 ≤ 1000000; omega) p1 p2 p3 2 r (appL j1 2) (by rw [p4]; exact chat_place2) (by rw [p4]; show ¬ (2 : Int) = 3; omega) hr (apps_2 _ _ _) (rowOk_new _ _)).mono (by
      rintro e w' (⟨h1, _⟩ | ⟨_, h2, _⟩ | ⟨_, _, h3, h4, h5⟩)
      · exact absurd (by rw [p5]; exact look_new _) h1
      · exact absurd (by rw [p5, p7]) h2
      · rw [p5, p7] at h3
        rw [p5] at h4
        exact ⟨h3, h4, h5, (h.rowAt hr (apps_2 _ _ _)).1⟩)
  have cU2 : ∀ (y : World) (eb : Nat) (M : EraM) (r : Nat), EraIs y N eb M ((eraG j1 3 3).took 2 (takeT 8 0 (appL j1 2))) → M.rs[2]? = some (some r) → Calls Tryz.prog 34 #[.pointer none, .pointer (some ⟨eb, 0, none⟩), .agg PN.cells.toArray] y fun e w' => e = .returned (.tuple #[.string { data := #[] }, .int .i64 11]) ∧ Below y.heap.size y w' := fun y eb M r h hr =>
    (Unprotect_calls N eb M ((eraG j1 3 3).took 2 (takeT 8 0 (appL j1 2))) PN y h (by show 4 ≤ 1000000; omega) (by show 3 ≤ 1000000; omega) p1 p2 p3 2 r (takeT 8 0 (appL j1 2)) (by rw [p4]; exact chat_place2) (by rw [p4]; show ¬ (2 : Int) = 3; omega) hr rfl (rowOk_took _)).mono (by
      have hl : (lookT 8 PN.g (takeT 8 0 (appL j1 2))).2 = 10 := by rw [p5]; exact look_took _
      rintro e w' (⟨_, h2, h3⟩ | ⟨h1, _⟩ | ⟨h1, _⟩)
      · exact ⟨h2, h3⟩
      · rw [hl] at h1; omega
      · rw [hl] at h1; omega)
  clear hPN p1 p2 p3 p4 p7
  rw [← hN]
  go_enter Tryz.func31, Tryz.ntmps31
  go_wp2_with ((with_reducible show wpList _ _ _ (⟨some 8, _, _, _, _, _⟩ :: _) _ _); refine wpList_buildCells rfl 23 #[(0, .const (.int .u8 1))] rfl (j1.map bv).toArray hbj ?_)
  refine cG.mono ?_
  rintro e w1 ⟨gb, ms, rs, rfl, hG, hB1⟩
  clear cG hbj
  rw [erasG3] at hG
  obtain ⟨x1, ⟨e2b, M2⟩, ⟨e3b, M3⟩, rfl, _, h2, h3, hnd⟩ := hG.three
  have hgb := hG.blk
  have hc2 := grp_cell hgb (k := 1) rfl
  have HC3 : Hid (∀ y, Blk y gb (gC (pad none ([x1, (e2b, M2), (e3b, M3)].map fun x => some x.1)) (pad zeroRE (plainsG rs (memsG j1 3 3)))).toArray 92 → y.cell? ⟨gb, 3, none⟩ = some (.pointer (some ⟨e3b, 0, none⟩))) := fun y hy => grp_cell hy (k := 2) rfl
  obtain ⟨r2, hr2⟩ := h2.rowEx (apps_2 _ _ _)
  obtain ⟨r3, hr3⟩ := h3.rowEx (apps_2 _ _ _)
  have HR2 := Lib.hid hr2
  have HR3 := Lib.hid hr3
  have HND : Hid (r2 ∉ rowsOf (e3b, M3) ∧ e3b ≠ e2b) := ⟨nd23 hnd _ (rows_mem (x := (e2b, M2)) hr2), fun e => nd23 hnd e2b List.mem_cons_self (by rw [← e]; exact List.mem_cons_self)⟩
  have HNb : Hid (N ≤ gb) := hG.hb
  clear hG hnd hr2 hr3
  obtain ⟨GC, hGC⟩ : ∃ z, z = (gC (pad none ([x1, (e2b, M2), (e3b, M3)].map fun x => some x.1)) (pad zeroRE (plainsG rs (memsG j1 3 3)))).toArray := ⟨_, rfl⟩
  rw [← hGC] at hgb HC3
  clear hGC
  go_wp2_with ((with_reducible show wpList _ _ _ (⟨some 15, _, _, _, _, _⟩ :: _) _ _); refine wpList_load1 rfl 37 (.tmp 14) rfl gb 2 (by rfl) _ _ hc2 Tryz.underlying37 rfl ?_)
  refine (cPr _ _ _ r2 h2 HR2.out).mono ?_
  rintro e w2 ⟨rfl, hp2, hg2⟩
  have hrow := (h2.rowAt HR2.out (apps_2 _ _ _))
  have h3b := h3.saidOther hg2 h2 hp2 hrow.1 HND.out.1 HND.out.2
  have hgb2 := hgb.saidOther hg2 h2 hp2 hrow.1 (by decide) (by decide)
  have hB2 := hB1.trans (hg2.low hrow.2 h2.hb (by rw [HN.out]; exact hB1.size))
  have HE3 := Lib.hid h3b
  clear h2 h3 hp2 hg2 hrow hgb hB1 hc2 h3b
  go_wp2_with (first | ((with_reducible show wpList _ _ _ (⟨some 2, _, _, _, _, _⟩ :: _) _ _); refine wpList_allocZ rfl 86 rfl _ Tryz.zeroNote ?_; intro wa sa ba na) | ((with_reducible show wpList _ _ _ (⟨none, Op.store _ (.tmp 2) _, _, _, _, _⟩ :: _) _ _); refine wpList_storeBlk rfl 86 (.tmp 2) (.tmp 17) rfl w2.heap.size PN.cells.toArray (by rfl) (by rfl) _ _ na (by rw [List.size_toArray, NoteA.cells_len]; exact Tryz.sizeNote) (by rw [List.size_toArray, List.size_toArray, NoteA.cells_len, NoteA.cells_len]) (note_all _) ?_; intro w3 n3 g3; have bb := below_new ba g3 (Nat.le_refl _) ba.size; have hgb3 := hgb2.below bb hgb2.lt; have HE4 := Lib.hid (HE3.out.below bb); have hB3 := hB2.trans (bb.mono (Nat.le_trans (Nat.le_of_eq HN.out) hB2.size)); clear HE3 hgb2 hB2 bb ba na g3 sa))
  obtain ⟨nb, hnb⟩ : ∃ z, z = w2.heap.size := ⟨_, rfl⟩
  rw [← hnb] at n3 ⊢
  clear hnb
  refine wp_region_held_drew (S := fun x => Blk x (gb) GC 92 ∧ Blk x (nb) PN.cells.toArray 86 ∧ Below N w x) (by kernel_rfl) ⟨hgb3.drew, n3.drew, below_drewN hB3 1⟩ (fun hSq1 => ?_)
  have hHq2 := Lib.hid (HE4.out.drew)
  refine wpAnyH_take (i := 0) (v := .pointer (some ⟨gb, 0, none⟩)) rfl (by kernel_rfl) (by kernel_rfl) (by kernel_rfl) (fun _ _ _ h => h) (Or.inl ⟨by rfl, fun x hx => by go_simp⟩) hSq1 ?_
  simp only [Act.put, List.getElem_toArray, List.getElem_cons_zero, List.getElem_cons_succ, List.setIfInBounds_toArray, List.set_cons_zero, List.set_cons_succ]
  refine wpAnyH_take (i := 1) (v := .pointer (some ⟨gb, 0, none⟩)) rfl (by kernel_rfl) (by kernel_rfl) (by kernel_rfl) (fun _ _ _ h => h) (Or.inl ⟨by rfl, fun x hx => by go_simp⟩) hSq1 ?_
  simp only [Act.put, List.getElem_toArray, List.getElem_cons_zero, List.getElem_cons_succ, List.setIfInBounds_toArray, List.set_cons_zero, List.set_cons_succ]
  refine wpAnyH_take (i := 2) (v := .pointer (some ⟨gb, 0, none⟩)) rfl (by kernel_rfl) (by kernel_rfl) (by kernel_rfl) (fun _ _ _ h => h) (Or.inl ⟨by rfl, fun x hx => by go_simp⟩) hSq1 ?_
  simp only [Act.put, List.getElem_toArray, List.getElem_cons_zero, List.getElem_cons_succ, List.setIfInBounds_toArray, List.set_cons_zero, List.set_cons_succ]
  refine wpAnyH_take (i := 3) (v := .pointer (some ⟨gb, 3, none⟩)) rfl (by kernel_rfl) (by kernel_rfl) (by kernel_rfl) (fun _ _ _ h => h) (Or.inl ⟨by rfl, fun x hx => by go_simp⟩) hSq1 ?_
  simp only [Act.put, List.getElem_toArray, List.getElem_cons_zero, List.getElem_cons_succ, List.setIfInBounds_toArray, List.set_cons_zero, List.set_cons_succ]
  refine wpAnyH_take (i := 4) (v := .pointer (some ⟨e3b, 0, none⟩)) rfl (by kernel_rfl) (by kernel_rfl) (by kernel_rfl) (fun _ _ _ h => h) (Or.inl ⟨by rfl, fun x hx => by have hc := HC3.out _ hx.1; go_simp⟩) hSq1 ?_
  simp only [Act.put, List.getElem_toArray, List.getElem_cons_zero, List.getElem_cons_succ, List.setIfInBounds_toArray, List.set_cons_zero, List.set_cons_succ]
  refine wpAnyH_take (i := 5) rfl (by kernel_rfl) (by kernel_rfl) (by kernel_rfl) (fun _ _ _ h => h) (yieldsIf_load_mid (by rfl) 86 (.tmp 2) rfl (nb) (0) (by rfl) (PN.cells) _ (fun x hx => blk_rangeP hx.2.1) Tryz.underlying86 rfl (by rw [NoteA.cells_len]; exact Tryz.sizeNote)) hSq1 ?_
  simp only [Act.put, List.getElem_toArray, List.getElem_cons_zero, List.getElem_cons_succ, List.setIfInBounds_toArray, List.set_cons_zero, List.set_cons_succ]
  refine wpAnyH_ready (rs := [6]) (by kernel_rfl) (by simp) ?_
  refine AllReadyH.cons rfl (fun K hK => ?_) AllReadyH.nil
  go_simp
  go_wp2_with (go_at_call 34; refine (cU1 _ _ _ r3 hHq2.out HR3.out).mono ?_; rintro e yq3 ⟨rfl, hTq4⟩)
  have hHq6 := Lib.hid hTq4.out.1
  have hlo := (hHq2.out.rowAt HR3.out (apps_2 _ _ _)).2
  refine hK.out _ _ ⟨hSq1.1.heard hTq4.out.2.1 hTq4.out.2.2 (by decide), hSq1.2.1.heard hTq4.out.2.1 hTq4.out.2.2 (by decide), hSq1.2.2.grown hTq4.out.2.1.g (Nat.le_trans (Nat.le_of_eq HN.out) hSq1.2.2.size) (fun q e => by cases e; exact hlo)⟩ (fun hSq5 => ?_)
  clear hK K hSq1 hHq2 hTq4 hlo
  refine wpAnyH_take (i := 7) (v := .tuple #[.string { data := #[97, 98] }, .int .i64 0]) rfl (by kernel_rfl) (by kernel_rfl) (by kernel_rfl) (fun _ _ _ h => h) (Or.inl ⟨by rfl, fun x hx => by go_simp⟩) hSq5 ?_
  simp only [Act.put, List.getElem_toArray, List.getElem_cons_zero, List.getElem_cons_succ, List.setIfInBounds_toArray, List.set_cons_zero, List.set_cons_succ]
  refine wpAnyH_take (i := 8) (v := .string { data := #[97, 98] }) rfl (by kernel_rfl) (by kernel_rfl) (by kernel_rfl) (fun _ _ _ h => h) (Or.inl ⟨by rfl, fun x hx => by go_simp⟩) hSq5 ?_
  simp only [Act.put, List.getElem_toArray, List.getElem_cons_zero, List.getElem_cons_succ, List.setIfInBounds_toArray, List.set_cons_zero, List.set_cons_succ]
  refine wpAnyH_take (i := 9) (v := .int .i64 0) rfl (by kernel_rfl) (by kernel_rfl) (by kernel_rfl) (fun _ _ _ h => h) (Or.inl ⟨by rfl, fun x hx => by go_simp⟩) hSq5 ?_
  simp only [Act.put, List.getElem_toArray, List.getElem_cons_zero, List.getElem_cons_succ, List.setIfInBounds_toArray, List.set_cons_zero, List.set_cons_succ]
  refine wpAnyH_ready (rs := [10]) (by kernel_rfl) (by simp) ?_
  refine AllReadyH.cons rfl (fun K hK => ?_) AllReadyH.nil
  go_simp
  refine hK.out _ _ hSq5 (fun hSq7 => ?_)
  clear hK K hSq5
  refine wpAnyH_ready (rs := [11]) (by kernel_rfl) (by simp) ?_
  refine AllReadyH.cons rfl (fun K hK => ?_) AllReadyH.nil
  go_simp
  refine hK.out _ _ hSq7 (fun hSq8 => ?_)
  clear hK K hSq7
  refine wpAnyH_done (by kernel_rfl) ?_ _
  have hgb5 := hSq8.1
  have n5 := hSq8.2.1
  have hB5 := hSq8.2.2
  have HE5 := Lib.hid hHq6.out
  obtain ⟨w5, hw5⟩ : ∃ z, z = yq3 := ⟨_, rfl⟩
  rw [← hw5] at hgb5 n5 hB5 HE5 ⊢
  clear hSq8 hHq6 hw5
  go_wp2_with fail
  refine wp_region_held_drew (S := fun x => Blk x (gb) GC 92 ∧ Blk x (nb) PN.cells.toArray 86 ∧ Below N w x) (by kernel_rfl) ⟨hgb5.drew, n5.drew, below_drewN hB5 1⟩ (fun hSq9 => ?_)
  have hHq10 := Lib.hid (HE5.out.drew)
  refine wpAnyH_take (i := 0) (v := .pointer (some ⟨gb, 0, none⟩)) rfl (by kernel_rfl) (by kernel_rfl) (by kernel_rfl) (fun _ _ _ h => h) (Or.inl ⟨by rfl, fun x hx => by go_simp⟩) hSq9 ?_
  simp only [Act.put, List.getElem_toArray, List.getElem_cons_zero, List.getElem_cons_succ, List.setIfInBounds_toArray, List.set_cons_zero, List.set_cons_succ]
  refine wpAnyH_take (i := 1) (v := .pointer (some ⟨gb, 0, none⟩)) rfl (by kernel_rfl) (by kernel_rfl) (by kernel_rfl) (fun _ _ _ h => h) (Or.inl ⟨by rfl, fun x hx => by go_simp⟩) hSq9 ?_
  simp only [Act.put, List.getElem_toArray, List.getElem_cons_zero, List.getElem_cons_succ, List.setIfInBounds_toArray, List.set_cons_zero, List.set_cons_succ]
  refine wpAnyH_take (i := 2) (v := .pointer (some ⟨gb, 0, none⟩)) rfl (by kernel_rfl) (by kernel_rfl) (by kernel_rfl) (fun _ _ _ h => h) (Or.inl ⟨by rfl, fun x hx => by go_simp⟩) hSq9 ?_
  simp only [Act.put, List.getElem_toArray, List.getElem_cons_zero, List.getElem_cons_succ, List.setIfInBounds_toArray, List.set_cons_zero, List.set_cons_succ]
  refine wpAnyH_take (i := 3) (v := .pointer (some ⟨gb, 3, none⟩)) rfl (by kernel_rfl) (by kernel_rfl) (by kernel_rfl) (fun _ _ _ h => h) (Or.inl ⟨by rfl, fun x hx => by go_simp⟩) hSq9 ?_
  simp only [Act.put, List.getElem_toArray, List.getElem_cons_zero, List.getElem_cons_succ, List.setIfInBounds_toArray, List.set_cons_zero, List.set_cons_succ]
  refine wpAnyH_take (i := 4) (v := .pointer (some ⟨e3b, 0, none⟩)) rfl (by kernel_rfl) (by kernel_rfl) (by kernel_rfl) (fun _ _ _ h => h) (Or.inl ⟨by rfl, fun x hx => by have hc := HC3.out _ hx.1; go_simp⟩) hSq9 ?_
  simp only [Act.put, List.getElem_toArray, List.getElem_cons_zero, List.getElem_cons_succ, List.setIfInBounds_toArray, List.set_cons_zero, List.set_cons_succ]
  refine wpAnyH_take (i := 5) rfl (by kernel_rfl) (by kernel_rfl) (by kernel_rfl) (fun _ _ _ h => h) (yieldsIf_load_mid (by rfl) 86 (.tmp 2) rfl (nb) (0) (by rfl) (PN.cells) _ (fun x hx => blk_rangeP hx.2.1) Tryz.underlying86 rfl (by rw [NoteA.cells_len]; exact Tryz.sizeNote)) hSq9 ?_
  simp only [Act.put, List.getElem_toArray, List.getElem_cons_zero, List.getElem_cons_succ, List.setIfInBounds_toArray, List.set_cons_zero, List.set_cons_succ]
  refine wpAnyH_ready (rs := [6]) (by kernel_rfl) (by simp) ?_
  refine AllReadyH.cons rfl (fun K hK => ?_) AllReadyH.nil
  go_simp
  go_wp2_with (go_at_call 34; refine (cU2 _ _ _ r3 hHq10.out HR3.out).mono ?_; rintro e yq11 ⟨rfl, bq12⟩)
  have hHq13 := Lib.hid (hHq10.out.below bq12)
  refine hK.out _ _ ⟨hSq9.1.below bq12 hSq9.1.lt, hSq9.2.1.below bq12 hSq9.2.1.lt, hSq9.2.2.trans (bq12.mono (Nat.le_trans (Nat.le_of_eq HN.out) hSq9.2.2.size))⟩ (fun hSq14 => ?_)
  clear hK K hSq9 bq12
  refine wpAnyH_take (i := 7) (v := .tuple #[.string { data := #[] }, .int .i64 11]) rfl (by kernel_rfl) (by kernel_rfl) (by kernel_rfl) (fun _ _ _ h => h) (Or.inl ⟨by rfl, fun x hx => by go_simp⟩) hSq14 ?_
  simp only [Act.put, List.getElem_toArray, List.getElem_cons_zero, List.getElem_cons_succ, List.setIfInBounds_toArray, List.set_cons_zero, List.set_cons_succ]
  refine wpAnyH_take (i := 8) (v := .string { data := #[] }) rfl (by kernel_rfl) (by kernel_rfl) (by kernel_rfl) (fun _ _ _ h => h) (Or.inl ⟨by rfl, fun x hx => by go_simp⟩) hSq14 ?_
  simp only [Act.put, List.getElem_toArray, List.getElem_cons_zero, List.getElem_cons_succ, List.setIfInBounds_toArray, List.set_cons_zero, List.set_cons_succ]
  refine wpAnyH_take (i := 9) (v := .int .i64 11) rfl (by kernel_rfl) (by kernel_rfl) (by kernel_rfl) (fun _ _ _ h => h) (Or.inl ⟨by rfl, fun x hx => by go_simp⟩) hSq14 ?_
  simp only [Act.put, List.getElem_toArray, List.getElem_cons_zero, List.getElem_cons_succ, List.setIfInBounds_toArray, List.set_cons_zero, List.set_cons_succ]
  refine wpAnyH_ready (rs := [10]) (by kernel_rfl) (by simp) ?_
  refine AllReadyH.cons rfl (fun K hK => ?_) AllReadyH.nil
  go_simp
  refine hK.out _ _ hSq14 (fun hSq15 => ?_)
  clear hK K hSq14
  refine wpAnyH_ready (rs := [11]) (by kernel_rfl) (by simp) ?_
  refine AllReadyH.cons rfl (fun K hK => ?_) AllReadyH.nil
  go_simp
  refine hK.out _ _ hSq15 (fun hSq16 => ?_)
  clear hK K hSq15
  refine wpAnyH_done (by kernel_rfl) ?_ _
  have hgb6 := hSq16.1
  have n6 := hSq16.2.1
  have hB6 := hSq16.2.2
  have hcg := n6.cell 34 _ (note_g _)
  have hcs := n6.cell 35 _ (note_s _)
  rw [p5] at hcg
  go_wp2_with (first | ((with_reducible show wpList _ _ _ (⟨some 43, _, _, _, _, _⟩ :: _) _ _); refine wpList_if (by rfl) (wp_load1 3 (.tmp 42) rfl nb 34 (by rfl) _ _ hcg Tryz.underlying3 rfl ?_)) | ((with_reducible show wpList _ _ _ (⟨some 48, _, _, _, _, _⟩ :: _) _ _); refine wpList_if (by rfl) (wp_load1 9 (.tmp 47) rfl nb 35 (by rfl) _ _ hcs Tryz.underlying9 rfl ?_)))
  go_returns
  exact ⟨rfl, hB6⟩
end Go.Proofs.YtjlpdbaknhbgdaaGreat
