/-
  dag.Store.Head.
-/
import Derived.Test.YtodnmhflafpefaaDagBase
import Derived.Test.YtodnmhflafpefaaBookPut
import Derived.Test.YtodnmhflafpefaaOwnSet
import Derived.Test.YtodnmhflafpefaaBookLaw
import Derived.Test.YtodnmhflafpefaaBookSort
import Derived.WalkLawsBesides
import Derived.Laws.ResultCell
import Derived.Deep.LoopGhost
import Derived.Outline
import Derived.Handy
set_option linter.unusedSimpArgs false
set_option linter.unusedVariables false
namespace Go.Proofs.Ytodnmhflafpefaa
open Go.RowKit

theorem ret_cellTmpD {P : Program} {fn : Func} {R : Ending → World → Prop} {a : Act} {w : World} {p u : Tmp} {ty : TypeId} (hf : fn.results = #[.cell p ty, .tmp u]) (g : Nat) (t : TypeId) (cs : Array Value) (d : TypeDesc)
    (hp : a.tmps.getD p undef = .pointer (some ⟨g, 0, none⟩)) (hg : Blk w g cs t)
    (hu : P.underlying ty = some d) (hd : (match d with | .struct _ | .array _ _ => true | _ => false) = true) (hi : (P.info? ty).map (·.size) = some cs.size)
    (hdf : a.defers = []) (hR : R (.returned (.tuple #[.agg cs, a.tmps.getD u undef])) w) : bodyPost P fn R .ret a w := by
  refine bodyPost_ret (v := .tuple #[.agg cs, a.tmps.getD u undef]) ?_ hdf hR
  rw [results_cell_tmp hf, hp]
  simp [asAddr, run_loadVar_row w g t ty cs (0, 0) d hg hu hd hi, Result.andThen]
def vz : Vx := ⟨List.replicate 32 0, List.replicate 32 0, 0, 0, by simp, by simp, by omega⟩
theorem Try.zeroVx : (Try.prog.info? 35).bind (·.zero) = some (.agg vz.cells.toArray) := by kernel_rfl
theorem Try.sizeVx : (Try.prog.info? 35).map (·.size) = some 66 := by kernel_rfl
theorem vx_size (c : Vx) : (Try.prog.info? 35).map (·.size) = some c.cells.length := by rw [c.cells_len]; exact Try.sizeVx
theorem vx_sizeA (c : Vx) : (Try.prog.info? 35).map (·.size) = some c.cells.toArray.size := by rw [List.size_toArray, c.cells_len]; exact Try.sizeVx
theorem vx_hold (c v : Vx) : c.cells.toArray.size = v.cells.toArray.size := by rw [List.size_toArray, List.size_toArray, c.cells_len, v.cells_len]
/-- A store of these vertices. -/
structure StoreIs (w : World) (sp mb : Nat) (keep : Int) (L : List Vx) : Prop where
  blk : Blk w sp #[.int .i64 keep, .map (some mb)] 48
  map : MapIs hashOk hashEnc w mb L.length (lookV L)
  nodup : (L.map (·.id)).Nodup
theorem StoreIs.below {w w' : World} {sp mb : Nat} {keep : Int} {L : List Vx} (h : StoreIs w sp mb keep L) (b : Below w.heap.size w w') : StoreIs w' sp mb keep L := ⟨h.blk.below b h.blk.lt, h.map.below b, h.nodup⟩
def HeadRes (L : List Vx) (e : Ending) : Prop := (L = [] ∧ e = .returned (.tuple #[.agg vz.cells.toArray, .bool false])) ∨ ∃ v, HeadIs L v ∧ e = .returned (.tuple #[.agg v.cells.toArray, .bool true])
/-- The best so far. -/
structure BestIs (L : List Vx) (done : List HsT) (c : Vx) : Prop where
  mem : c ∈ L
  isin : c.id ∈ done
  all : ∀ u ∈ L, u.id ∈ done → u.id ≠ c.id → Ahead c u
theorem BestIs.first {L : List Vx} {v : Vx} (hn : (L.map (·.id)).Nodup) (hv : v ∈ L) : BestIs L ([] ++ [v.id]) v := ⟨hv, by simp, fun u hu hd hne => absurd (by simpa using hd) hne⟩
theorem BestIs.next {L : List Vx} {done : List HsT} {c v : Vx} (h : BestIs L done c) (hn : (L.map (·.id)).Nodup) (hv : v ∈ L) (ha : Ahead v c) : BestIs L (done ++ [v.id]) v := by
  refine ⟨hv, by simp, fun u hu hd hne => ?_⟩
  rcases List.mem_append.1 hd with hd | hd
  · by_cases e : u.id = c.id
    · rw [vx_inj hn hu h.mem e]; exact ha
    · exact Ahead.trans ha (h.all u hu hd e)
  · exact absurd (List.mem_singleton.1 hd) hne
theorem BestIs.keep {L : List Vx} {done : List HsT} {c v : Vx} (h : BestIs L done c) (hn : (L.map (·.id)).Nodup) (hv : v ∈ L) (hnd : v.id ∉ done) (ha : ¬ Ahead v c) : BestIs L (done ++ [v.id]) c := by
  refine ⟨h.mem, List.mem_append_left _ h.isin, fun u hu hd hne => ?_⟩
  rcases List.mem_append.1 hd with hd | hd
  · exact h.all u hu hd hne
  · obtain rfl := vx_inj hn hu hv (List.mem_singleton.1 hd)
    unfold Ahead at ha ⊢
    have h1 : ¬ c.d < u.d := fun e => ha (.inl e)
    by_cases h2 : u.d < c.d
    · exact .inl h2
    · have h3 : u.d = c.d := by omega
      have h4 : ¬ cmpT u.id c.id < 0 := fun e => ha (.inr ⟨h3, e⟩)
      have h5 := cmpT_swap u.id c.id
      by_cases h6 : cmpT c.id u.id < 0
      · exact .inr ⟨h3.symm, h6⟩
      · exact absurd (cmpT_eq u.id c.id (by rw [u.hi, c.hi]) (by omega)) hne
theorem BestIs.head {L : List Vx} {done : List HsT} {c : Vx} (h : BestIs L done c) (hd : ∀ u ∈ L, u.id ∈ done) : HeadIs L c := ⟨h.mem, fun u hu hne => h.all u hu (hd u hu) hne⟩
theorem grow_below {w w' : World} (h : ∃ q os, w' = Sort.grow (w.drewN q) os) : Below w.heap.size w w' := by
  obtain ⟨q, os, rfl⟩ := h
  have h2 := growH_grown (w.drewN q) os none
  exact (below_drewN (Below.refl _ _) q).trans ⟨h2.os, h2.tape, h2.output, h2.size, fun k hk => h2.block k hk (by simp)⟩
theorem ahead_four (v c : Vx) (C : Int) (hC : C = cmpT v.id c.id) : (decide (c.d < v.d) = true ∧ Hid (Ahead v c)) ∨ (decide (c.d < v.d) = false ∧ decide (v.d = c.d) = true ∧ (v.d == c.d) = true ∧ decide (C < 0) = true ∧ Hid (Ahead v c)) ∨ (decide (c.d < v.d) = false ∧ decide (v.d = c.d) = true ∧ (v.d == c.d) = true ∧ decide (C < 0) = false ∧ Hid (¬ Ahead v c)) ∨ (decide (c.d < v.d) = false ∧ decide (v.d = c.d) = false ∧ (v.d == c.d) = false ∧ Hid (¬ Ahead v c)) := by
  by_cases h1 : c.d < v.d
  · exact .inl ⟨decide_eq_true h1, .inl h1⟩
  · by_cases h2 : v.d = c.d
    · by_cases h3 : C < 0
      · exact .inr (.inl ⟨decide_eq_false h1, decide_eq_true h2, beq_iff_eq.2 h2, decide_eq_true h3, .inr ⟨h2, by rw [← hC]; exact h3⟩⟩)
      · refine .inr (.inr (.inl ⟨decide_eq_false h1, decide_eq_true h2, beq_iff_eq.2 h2, decide_eq_false h3, ?_⟩))
        rintro (h | h)
        · exact h1 h
        · exact h3 (by rw [hC]; exact h.2)
    · refine .inr (.inr (.inr ⟨decide_eq_false h1, decide_eq_false h2, beq_false_of_ne h2, ?_⟩))
      rintro (h | h)
      · exact h1 h
      · exact h2 h.1
theorem range_le {w : World} {b r : Nat} {L : List Vx} {done : List HsT} (h : RangeIs hashOk hashEnc w b r L.length (lookV L) done) : done.length ≤ L.length := by
  obtain ⟨_, _, _, _, _, _, _, _, _, _, _, _, _, _, hnd, hall⟩ := h
  have := nodup_len hnd (m := L.map (·.id)) (fun x hx => by
    have h1 := (hall x hx).2
    cases e : lookV L x with
    | none => rw [e] at h1; cases h1
    | some u =>
      obtain ⟨v, hv, h2, _⟩ := lookV_some e
      exact List.mem_map.2 ⟨v, hv, h2⟩)
  rwa [List.length_map] at this
theorem range_ne {w : World} {b r n : Nat} {look : List UInt8 → Option Value} {done : List HsT} (h : RangeIs hashOk hashEnc w b r n look done) {g : Nat} {cs : Array Value} {ty : TypeId} (hg : Blk w g cs ty) : some b ≠ some g ∧ some r ≠ some g := by
  obtain ⟨es, clock, since, seen, c0, h1, _, _, _, h2, _⟩ := h
  unfold Blk at hg
  constructor
  · intro e
    injection e with e
    subst e
    rw [hg] at h1; cases h1
  · intro e
    injection e with e
    subst e
    rw [hg] at h2; cases h2
set_option maxHeartbeats 16000000 in
set_option maxRecDepth 100000 in
theorem Head_calls (sp mb : Nat) (keep : Int) (L : List Vx) (w : World) (h : StoreIs w sp mb keep L) (hn : L.length ≤ 1000) :
    Calls Try.prog 8 #[.pointer (some ⟨sp, 0, none⟩)] w fun e w' => HeadRes L e ∧ Below w.heap.size w w' := by
  obtain ⟨hblk, hmap, hnd⟩ := h
  have HND := Lib.hid hnd
  clear hnd
  obtain ⟨R, hR⟩ : ∃ R, R = w.heap.size := ⟨_, rfl⟩
  have HRR := Lib.hid hR
  clear hR
  go_enter Try.func8, Try.ntmps8
  go_wp2_with (first | ((with_reducible show wpList _ _ _ (⟨some 2, _, _, _, _, _⟩ :: _) _ _); refine wpList_allocZ rfl 35 rfl _ Try.zeroVx ?_; intro w1 s1 b1 n1; rw [← HRR.out] at n1 ⊢; have hblk1 := hblk.below b1 hblk.lt; have hmap1 := hmap.below b1; have HS1 := Lib.hid s1; clear s1 hblk hmap) | ((with_reducible show wpList _ _ _ (⟨some 4, _, _, _, _, _⟩ :: _) _ _); refine wpList_allocZ rfl 35 rfl _ Try.zeroVx ?_; intro w2 s2 b2 n2; obtain ⟨A4, hA4⟩ : ∃ a, a = w1.heap.size := ⟨_, rfl⟩; rw [← hA4] at n2 ⊢; have HA4 := Lib.hid hA4; have hRA : R < A4 := (by rw [hA4]; exact n1.lt); have hz2 := n1.below b2 n1.lt; have hblk2 := hblk1.below b2 hblk1.lt; have hmap2 := hmap1.below b2; have hB2 := b1.trans (b2.mono b1.size); have hc1 := hblk2.cell 1 _ rfl; clear s2 hA4 n1 b1 b2 hblk1 hmap1) | ((with_reducible show wpList _ _ _ (⟨some 15, _, _, _, _, _⟩ :: _) _ _); refine wpList_rangeM rfl (.tmp 14) 46 35 rfl Try.underlying46 mb L.length (lookV L) (by rfl) hmap2 ?_; intro w3 hr3 b3; have hsz2 := hB2.size; have hB3 := hB2.trans (b3.mono hB2.size); have hz3 := hz2.below b3 hz2.lt; have hc3 := n2.below b3 n2.lt; clear b3 hB2 hz2 n2 hmap2 hblk2 hc1; simp only [Act.put, List.setIfInBounds_toArray, List.set_cons_zero, List.set_cons_succ]))
  obtain ⟨r, hr⟩ : ∃ r, r = w2.heap.size := ⟨_, rfl⟩
  rw [← hr] at hr3 ⊢
  have hrw : w.heap.size ≤ r := by rw [hr]; exact hsz2
  have HR3 := Lib.hid hr3
  have HB3 := Lib.hid hB3
  have HZ3 := Lib.hid hz3
  have HC3 := Lib.hid hc3
  clear hr3 hB3 hz3 hc3 hr hsz2
  go_loopg [5, 16] L.length (fun gk fv s16 wr => ∃ (done : List HsT) (c : Vx), gk = L.length - done.length ∧ ((fv = .bool false ∧ Hid (done = []) ∧ Hid (c = vz)) ∨ (fv = .bool true ∧ Hid (BestIs L done c))) ∧ Hid (RangeIs hashOk hashEnc wr mb r L.length (lookV L) done) ∧ Hid (Blk wr A4 c.cells.toArray 35) ∧ Hid (Blk wr R vz.cells.toArray 35) ∧ Hid (Below w.heap.size w wr))
  case atStart => exact ⟨[], vz, by simp, .inl ⟨rfl, Lib.hid rfl, Lib.hid rfl⟩, HR3, HC3, HZ3, HB3⟩
  case round =>
    clear HR3 HB3 HZ3 HC3
    obtain ⟨done, c, hgk, hst, HR, HC, HZ, HB⟩ := hrel
    have HGK := Lib.hid hgk
    clear hgk
    rcases hst with ⟨rfl, hd0, hcz⟩ | ⟨rfl, HBI⟩
    · go_wp2_with (first | ((with_reducible show wpList _ _ _ (⟨some 16, _, _, _, _, _⟩ :: _) _ _); refine wpList_nextM rfl Try.hashKey (.tmp 15) rfl mb r L.length (lookV L) done (by rfl) HR.out (fun hdone => ?_) (fun x u w5 hx hl hndn hrg hgr hen => ?_)) | ((with_reducible show wpList _ _ _ (⟨some 45, _, _, _, _, _⟩ :: _) _ _); refine wpList_load_mid rfl 35 (.tmp 4) rfl A4 0 (by rfl) c.cells _ (blk_rangeP HC.out) Try.underlying35 rfl (vx_size c) ?_) | ((with_reducible show wpList _ _ _ (⟨none, Op.store _ (.tmp 2) _, _, _, _, _⟩ :: _) _ _); refine wpList_storeBlk rfl 35 (.tmp 2) (.tmp 45) rfl R c.cells.toArray (by rfl) (by rfl) _ _ HZ.out (vx_sizeA c) (vx_hold _ _) (vx_all c) ?_; intro w8 n8 g8) | ((with_reducible show wpList _ _ _ (⟨some 7, _, _, _, _, _⟩ :: _) _ _); obtain ⟨v, hv, hvx, hvu⟩ := lookV_some hl; subst hvu; subst hvx; have HV := Lib.hid hv; have HND2 := Lib.hid hndn; have hne5 := range_ne HR.out HC.out; have hne6 := range_ne HR.out HZ.out; have HR5 := Lib.hid hrg; have HC5 := Lib.hid (HC.out.grown hgr (fun e => hne5.2 e.symm)); have HZ5 := Lib.hid (HZ.out.grown hgr (fun e => hne6.2 e.symm)); have HB5 := Lib.hid (HB.out.grown hgr HB.out.size (fun q e => by cases e; exact hrw)); clear hv hl hx hndn hrg hgr hne5 hne6 HR HC HZ HB; refine wpList_allocZ rfl 35 rfl _ Try.zeroVx ?_; intro wa sa ba na; clear sa) | ((with_reducible show wpList _ _ _ (⟨none, Op.store _ (.tmp 7) _, _, _, _, _⟩ :: _) _ _); refine wpList_storeBlk rfl 35 (.tmp 7) (.tmp 19) rfl w5.heap.size v.cells.toArray (by rfl) (by rfl) _ _ na (vx_sizeA v) (vx_hold _ _) (vx_all v) ?_; intro w6 n6 g6; have bb6 := below_new ba g6 (Nat.le_refl _) ba.size; have HR6 := Lib.hid (HR5.out.below bb6); have HC6 := Lib.hid (HC5.out.below bb6 HC5.out.lt); have HZ6 := Lib.hid (HZ5.out.below bb6 HZ5.out.lt); have HB6 := Lib.hid (HB5.out.trans (bb6.mono HB5.out.size)); have HN6 := Lib.hid n6; have hs7 : A4 < w5.heap.size := HC5.out.lt; clear bb6 ba na g6 HR5 HC5 HZ5 HB5 n6 hen) | ((with_reducible show wpList _ _ _ (⟨some 44, _, _, _, _, _⟩ :: _) _ _); refine wpList_load_mid rfl 35 (.tmp 7) rfl w5.heap.size 0 (by rfl) v.cells _ (blk_rangeP HN6.out) Try.underlying35 rfl (vx_size v) ?_) | ((with_reducible show wpList _ _ _ (⟨none, Op.store _ (.tmp 4) _, _, _, _, _⟩ :: _) _ _); refine wpList_storeBlk rfl 35 (.tmp 4) (.tmp 44) rfl A4 v.cells.toArray (by rfl) (by rfl) _ _ HC6.out (vx_sizeA v) (vx_hold _ _) (vx_all v) ?_; intro w8 n8 g8))
      · have hL : L = [] := by
          rcases L with _ | ⟨v, L'⟩
          · rfl
          · exfalso
            have := hdone v.id v.hi (by rw [lookV_mem HND.out List.mem_cons_self]; rfl)
            rw [hd0.out] at this; cases this
        have HB9 := HB.out.grown g8 HB.out.size (fun q e => by cases e; exact Nat.le_of_eq HRR.out.symm)
        refine ret_cellTmpD rfl R 35 c.cells.toArray _ (by rfl) n8 Try.underlying35 rfl (vx_sizeA c) rfl ?_
        exact ⟨.inl ⟨hL, by rw [hcz.out]; rfl⟩, HB9⟩
      · have HC8 := Lib.hid n8
        have hne8 := range_ne HR6.out HC6.out
        have HR8 := Lib.hid (HR6.out.kept g8 hne8.1 hne8.2)
        have HZ8 := Lib.hid (HZ6.out.grown g8 (by simp; omega))
        have HB8 := Lib.hid (HB6.out.grown g8 HB6.out.size (fun q e => by cases e; have := HRR.out; omega))
        have HBN : Hid (BestIs L (done ++ [v.id]) v) := by
          show BestIs _ _ _
          rw [hd0.out]; exact BestIs.first HND.out HV.out
        clear n8 g8 hne8
        go_roundg (L.length - (done ++ [v.id]).length)
        case rel => exact ⟨done ++ [v.id], v, rfl, .inr ⟨rfl, HBN⟩, HR8, HC8, HZ8, HB8⟩
        case measure =>
          have e2 := HGK.out
          have e1 : (done ++ [v.id]).length ≤ L.length := range_le HR8.out
          rw [List.length_append, List.length_singleton] at *
          omega
    · go_wp2_with (first | ((with_reducible show wpList _ _ _ (⟨some 16, _, _, _, _, _⟩ :: _) _ _); refine wpList_nextM rfl Try.hashKey (.tmp 15) rfl mb r L.length (lookV L) done (by rfl) HR.out (fun hdone => ?_) (fun x u w5 hx hl hndn hrg hgr hen => ?_)) | ((with_reducible show wpList _ _ _ (⟨some 45, _, _, _, _, _⟩ :: _) _ _); refine wpList_load_mid rfl 35 (.tmp 4) rfl A4 0 (by rfl) c.cells _ (blk_rangeP HC.out) Try.underlying35 rfl (vx_size c) ?_) | ((with_reducible show wpList _ _ _ (⟨none, Op.store _ (.tmp 2) _, _, _, _, _⟩ :: _) _ _); refine wpList_storeBlk rfl 35 (.tmp 2) (.tmp 45) rfl R c.cells.toArray (by rfl) (by rfl) _ _ HZ.out (vx_sizeA c) (vx_hold _ _) (vx_all c) ?_; intro w8 n8 g8) | ((with_reducible show wpList _ _ _ (⟨some 7, _, _, _, _, _⟩ :: _) _ _); obtain ⟨v, hv, hvx, hvu⟩ := lookV_some hl; subst hvu; subst hvx; have HV := Lib.hid hv; have HND2 := Lib.hid hndn; have hne5 := range_ne HR.out HC.out; have hne6 := range_ne HR.out HZ.out; have HR5 := Lib.hid hrg; have HC5 := Lib.hid (HC.out.grown hgr (fun e => hne5.2 e.symm)); have HZ5 := Lib.hid (HZ.out.grown hgr (fun e => hne6.2 e.symm)); have HB5 := Lib.hid (HB.out.grown hgr HB.out.size (fun q e => by cases e; exact hrw)); clear hv hl hx hndn hrg hgr hne5 hne6 HR HC HZ HB; refine wpList_allocZ rfl 35 rfl _ Try.zeroVx ?_; intro wa sa ba na; clear sa) | ((with_reducible show wpList _ _ _ (⟨none, Op.store _ (.tmp 7) _, _, _, _, _⟩ :: _) _ _); refine wpList_storeBlk rfl 35 (.tmp 7) (.tmp 19) rfl w5.heap.size v.cells.toArray (by rfl) (by rfl) _ _ na (vx_sizeA v) (vx_hold _ _) (vx_all v) ?_; intro w6 n6 g6; have bb6 := below_new ba g6 (Nat.le_refl _) ba.size; have HR6 := Lib.hid (HR5.out.below bb6); have HC6 := Lib.hid (HC5.out.below bb6 HC5.out.lt); have HZ6 := Lib.hid (HZ5.out.below bb6 HZ5.out.lt); have HB6 := Lib.hid (HB5.out.trans (bb6.mono HB5.out.size)); have HN6 := Lib.hid n6; have hs7 : A4 < w5.heap.size := HC5.out.lt; have v7 := blk_rangeP n6; have c4 := blk_rangeP HC6.out; have vd := vx_d v7; have vi := vx_id v7; have cd := vx_d c4; have ci := vx_id c4; rw [Nat.zero_add] at vd cd; clear v7 c4; have HV32 : Hid (v.id.length = 32) := v.hi; have HC32 : Hid (c.id.length = 32) := c.hi; clear bb6 ba na g6 HR5 HC5 HZ5 HB5 n6 hen; obtain ⟨C, hC⟩ : ∃ C, C = cmpT v.id c.id := ⟨_, rfl⟩; have cC : ∀ y, Calls Try.prog 14 #[.agg (v.id.map bv).toArray, .agg (c.id.map bv).toArray] y fun e w' => e = .returned (.int .i64 C) ∧ Below y.heap.size y w' := (fun y => by rw [hC]; exact (Cmp_calls v.id c.id v.hi c.hi y).mono fun e w' h => ⟨h.1, grow_below h.2⟩); have h4 := ahead_four v c C hC; clear hC; rcases h4 with ⟨d1, HAH⟩ | ⟨d1, d2, d3, d4, HAH⟩ | ⟨d1, d2, d3, d4, HAH⟩ | ⟨d1, d2, d3, HAH⟩) | ((with_reducible show wpList _ _ _ (⟨some 24, _, _, _, _, _⟩ :: _) _ _); refine wpList_if (by rfl) (wp_load1 3 (.tmp 23) rfl w5.heap.size 64 (by rfl) _ _ (vd) Try.underlying3 rfl ?_)) | ((with_reducible show wpList _ _ _ (⟨some 26, _, _, _, _, _⟩ :: _) _ _); refine wpList_if (by rfl) (wp_load1 3 (.tmp 25) rfl A4 64 (by rfl) _ _ (cd) Try.underlying3 rfl ?_)) | ((with_reducible show wpList _ _ _ (⟨some 31, _, _, _, _, _⟩ :: _) _ _); refine wpList_if (by rfl) (wp_load1 3 (.tmp 30) rfl w5.heap.size 64 (by rfl) _ _ (vd) Try.underlying3 rfl ?_)) | ((with_reducible show wpList _ _ _ (⟨some 33, _, _, _, _, _⟩ :: _) _ _); refine wpList_if (by rfl) (wp_load1 3 (.tmp 32) rfl A4 64 (by rfl) _ _ (cd) Try.underlying3 rfl ?_)) | ((with_reducible show wpList _ _ _ (⟨some 37, _, _, _, _, _⟩ :: _) _ _); refine wpList_if (by rfl) (wp_load_mid 32 (.tmp 36) rfl w5.heap.size 0 (by rfl) (v.id.map bv) _ (vi) Try.underlying32 rfl (by rw [List.length_map, HV32.out]; exact Try.sizeHash) ?_)) | ((with_reducible show wpList _ _ _ (⟨some 39, _, _, _, _, _⟩ :: _) _ _); refine wpList_if (by rfl) (wp_load_mid 32 (.tmp 38) rfl A4 0 (by rfl) (c.id.map bv) _ (ci) Try.underlying32 rfl (by rw [List.length_map, HC32.out]; exact Try.sizeHash) ?_)) | ((with_reducible show wpList _ _ _ (⟨some 44, _, _, _, _, _⟩ :: _) _ _); refine wpList_load_mid rfl 35 (.tmp 7) rfl w5.heap.size 0 (by rfl) v.cells _ (blk_rangeP HN6.out) Try.underlying35 rfl (vx_size v) ?_) | ((with_reducible show wpList _ _ _ (⟨none, Op.store _ (.tmp 4) _, _, _, _, _⟩ :: _) _ _); refine wpList_storeBlk rfl 35 (.tmp 4) (.tmp 44) rfl A4 v.cells.toArray (by rfl) (by rfl) _ _ HC6.out (vx_sizeA v) (vx_hold _ _) (vx_all v) ?_; intro w8 n8 g8))
      · have hh := HBI.out.head (fun u hu => hdone u.id u.hi (by rw [lookV_mem HND.out hu]; rfl))
        have HB9 := HB.out.grown g8 HB.out.size (fun q e => by cases e; exact Nat.le_of_eq HRR.out.symm)
        refine ret_cellTmpD rfl R 35 c.cells.toArray _ (by rfl) n8 Try.underlying35 rfl (vx_sizeA c) rfl ?_
        exact ⟨.inr ⟨c, hh, rfl⟩, HB9⟩
      · clear cC vd vi cd ci
        have HC8 := Lib.hid n8
        have hne8 := range_ne HR6.out HC6.out
        have HR8 := Lib.hid (HR6.out.kept g8 hne8.1 hne8.2)
        have HZ8 := Lib.hid (HZ6.out.grown g8 (by simp; omega))
        have HB8 := Lib.hid (HB6.out.grown g8 HB6.out.size (fun q e => by cases e; have := HRR.out; omega))
        have HBN : Hid (BestIs L (done ++ [v.id]) v) := HBI.out.next HND.out HV.out (HAH.out)
        clear n8 g8 hne8
        go_roundg (L.length - (done ++ [v.id]).length)
        case rel => exact ⟨done ++ [v.id], v, rfl, .inr ⟨rfl, HBN⟩, HR8, HC8, HZ8, HB8⟩
        case measure =>
          have e2 := HGK.out
          have e1 : (done ++ [v.id]).length ≤ L.length := range_le HR8.out
          rw [List.length_append, List.length_singleton] at *
          omega
      · refine (cC _).mono ?_
        rintro e w9 ⟨rfl, b9⟩
        have HR9 := Lib.hid (HR6.out.below b9)
        have HC9 := Lib.hid (HC6.out.below b9 HC6.out.lt)
        have HZ9 := Lib.hid (HZ6.out.below b9 HZ6.out.lt)
        have HN9 := Lib.hid (HN6.out.below b9 HN6.out.lt)
        have HB9 := Lib.hid (HB6.out.trans (b9.mono HB6.out.size))
        clear b9 HR6 HC6 HZ6 HN6 HB6 vd vi cd ci cC
        go_wp2_with (first | ((with_reducible show wpList _ _ _ (⟨some 44, _, _, _, _, _⟩ :: _) _ _); refine wpList_load_mid rfl 35 (.tmp 7) rfl w5.heap.size 0 (by rfl) v.cells _ (blk_rangeP HN9.out) Try.underlying35 rfl (vx_size v) ?_) | ((with_reducible show wpList _ _ _ (⟨none, Op.store _ (.tmp 4) _, _, _, _, _⟩ :: _) _ _); refine wpList_storeBlk rfl 35 (.tmp 4) (.tmp 44) rfl A4 v.cells.toArray (by rfl) (by rfl) _ _ HC9.out (vx_sizeA v) (vx_hold _ _) (vx_all v) ?_; intro w8 n8 g8))
        have HC8 := Lib.hid n8
        have hne8 := range_ne HR9.out HC9.out
        have HR8 := Lib.hid (HR9.out.kept g8 hne8.1 hne8.2)
        have HZ8 := Lib.hid (HZ9.out.grown g8 (by simp; omega))
        have HB8 := Lib.hid (HB9.out.grown g8 HB9.out.size (fun q e => by cases e; have := HRR.out; omega))
        have HBN : Hid (BestIs L (done ++ [v.id]) v) := HBI.out.next HND.out HV.out (HAH.out)
        clear n8 g8 hne8
        go_roundg (L.length - (done ++ [v.id]).length)
        case rel => exact ⟨done ++ [v.id], v, rfl, .inr ⟨rfl, HBN⟩, HR8, HC8, HZ8, HB8⟩
        case measure =>
          have e2 := HGK.out
          have e1 : (done ++ [v.id]).length ≤ L.length := range_le HR8.out
          rw [List.length_append, List.length_singleton] at *
          omega
      · refine (cC _).mono ?_
        rintro e w9 ⟨rfl, b9⟩
        have HR9 := Lib.hid (HR6.out.below b9)
        have HC9 := Lib.hid (HC6.out.below b9 HC6.out.lt)
        have HZ9 := Lib.hid (HZ6.out.below b9 HZ6.out.lt)
        have HN9 := Lib.hid (HN6.out.below b9 HN6.out.lt)
        have HB9 := Lib.hid (HB6.out.trans (b9.mono HB6.out.size))
        clear b9 HR6 HC6 HZ6 HN6 HB6 vd vi cd ci cC
        go_wp2_with fail
        have HBN : Hid (BestIs L (done ++ [v.id]) c) := HBI.out.keep HND.out HV.out HND2.out HAH.out
        go_roundg (L.length - (done ++ [v.id]).length)
        case rel => exact ⟨done ++ [v.id], c, rfl, .inr ⟨rfl, HBN⟩, HR9, HC9, HZ9, HB9⟩
        case measure =>
          have e2 := HGK.out
          have e1 : (done ++ [v.id]).length ≤ L.length := range_le HR9.out
          rw [List.length_append, List.length_singleton] at *
          omega
      · clear cC vd vi cd ci
        have HBN : Hid (BestIs L (done ++ [v.id]) c) := HBI.out.keep HND.out HV.out HND2.out HAH.out
        go_roundg (L.length - (done ++ [v.id]).length)
        case rel => exact ⟨done ++ [v.id], c, rfl, .inr ⟨rfl, HBN⟩, HR6, HC6, HZ6, HB6⟩
        case measure =>
          have e2 := HGK.out
          have e1 : (done ++ [v.id]).length ≤ L.length := range_le HR6.out
          rw [List.length_append, List.length_singleton] at *
          omega
end Go.Proofs.Ytodnmhflafpefaa
