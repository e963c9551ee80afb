/-
  dag.Store.All: the iterator.
-/
import Derived.Test.YtodnmhflafpefaaDagOrd
import Derived.Test.YtodnmhflafpefaaDagChk
import Derived.Test.YtodnmhflafpefaaGleanMk
import Derived.Test.YtodnmhflafpefaaInRound
import Derived.WalkLawsBesides
import Derived.Laws.ResultCell
import Derived.Deep.LoopGhost
import Derived.RangeFuncNested
import Derived.RangeFuncBound
import Derived.RangeFuncCalls
import Derived.RangeFuncLeaves
import Derived.RangeFuncBox
import Derived.Shelf.Abstract
import Derived.Shelf.RegionOpen
import Derived.WalkKit
import Derived.OwnWalkIn
import Derived.TacticsInMore
import Derived.LoopNIn
import Derived.LoopIn
import Derived.Deep.RegionHeld
import Derived.Deep.Cut
import Derived.Outline
import Derived.Handy
set_option linter.unusedSimpArgs false
set_option linter.unusedVariables false
namespace Go.Proofs.Ytodnmhflafpefaa
open Go.RowKit

theorem Try.infoVx : (Try.prog.info? 35).map (fun i => (i.zero, i.size, i.bytes)) = some (some (.agg vz.cells.toArray), 66, 80) := by kernel_rfl
theorem Try.infoVx2 : (Try.prog.info? 35).map (fun i => (i.zero, i.size)) = some (some (.agg vz.cells.toArray), 66) := by kernel_rfl
theorem vx_szv (c : Vx) : (Value.agg c.cells.toArray).cells.size = 66 := by show c.cells.toArray.size = 66; rw [List.size_toArray, c.cells_len]
theorem range_own {w : World} {b r n : Nat} {look : List UInt8 → Option Value} {done : List HsT} (h : RangeIs hashOk hashEnc w b r n look done) {base m size : Nat} {e : TypeId} {v : Value} {xs : List Value} (ho : w.ownsRow base e size v m xs) : some b ≠ v.ownBlock ∧ some r ≠ v.ownBlock := by
  obtain ⟨es, clock, since, seen, c0, h1, _, _, _, h2, _⟩ := h
  rcases ho.2 with ⟨rfl, _⟩ | ⟨g, cap, cur, rfl, _, hg, _⟩
  · exact ⟨by simp [Value.ownBlock], by simp [Value.ownBlock]⟩
  · constructor
    · intro e2
      simp [Value.ownBlock] at e2
      subst e2
      rw [h1] at hg; cases hg
    · intro e2
      simp [Value.ownBlock] at e2
      subst e2
      rw [h2] at hg; cases hg
theorem range_nodup {w : World} {b r n : Nat} {look : List UInt8 → Option Value} {done : List HsT} (h : RangeIs hashOk hashEnc w b r n look done) : done.Nodup := by
  obtain ⟨_, _, _, _, _, _, _, _, _, _, _, _, _, _, hnd, _⟩ := h
  exact hnd
/-- What the loop has gathered. -/
structure Gath (L l : List Vx) (done : List HsT) : Prop where
  ids : l.map (·.id) = done
  sub : ∀ u ∈ l, u ∈ L
theorem Gath.nil (L : List Vx) : Gath L [] [] := ⟨rfl, fun _ h => by cases h⟩
theorem Gath.add {L l : List Vx} {done : List HsT} {v : Vx} (h : Gath L l done) (hv : v ∈ L) : Gath L (l ++ [v]) (done ++ [v.id]) :=
  ⟨by rw [List.map_append, h.ids]; rfl, fun u hu => by
    rcases List.mem_append.1 hu with hu | hu
    · exact h.sub u hu
    · rw [List.mem_singleton.1 hu]; exact hv⟩
theorem Gath.len {L l : List Vx} {done : List HsT} (h : Gath L l done) : l.length = done.length := by rw [← h.ids, List.length_map]
theorem Gath.perm {L l : List Vx} {done : List HsT} (hn : (L.map (·.id)).Nodup) (h : Gath L l done) (hd : done.Nodup) (ha : ∀ u ∈ L, u.id ∈ done) : l.Perm L := by
  refine (List.perm_ext_iff_of_nodup (nodup_of_ids (by rw [h.ids]; exact hd)) (nodup_of_ids hn)).2 fun u => ⟨h.sub u, fun hu => ?_⟩
  have h1 := ha u hu
  rw [← h.ids] at h1
  obtain ⟨x, hx, e⟩ := List.mem_map.1 h1
  rw [← vx_inj hn (h.sub x hx) hu e]; exact hx
/-- What a round keeps: the iterator's own row among it. -/
structure KpOk (Kp : World → World → Prop) (Safe : World → Nat → Prop) (w : World) : Prop where
  keep : ∀ A B k, Kp A B → Safe A k → B.heap[k]? = A.heap[k]? ∧ Safe B k
  new : ∀ W k, Below w.heap.size w W → w.heap.size ≤ k → (∃ cs t fr, W.heap[k]? = some (.cells cs t fr)) → Safe W k
  step : ∀ A B k, Below A.heap.size A B → Safe A k → Safe B k
def SafeRow (Safe : World → Nat → Prop) (W : World) (v : Value) : Prop := ∀ q, v.ownBlock = some q → Safe W q
theorem ROwn.same {α : Type} {cells : α → List Value} {size : Nat} {w w' : World} {base : Nat} {e : TypeId} {v : Value} {l : List α} (h : ROwn cells size w base e v l) (hk : ∀ q, v.ownBlock = some q → w'.heap[q]? = w.heap[q]?) : ROwn cells size w' base e v l := by
  refine ⟨h.1, ?_⟩
  rcases h.2 with h0 | ⟨g, cap, cur, rfl, hb, hg, h1⟩
  · exact .inl h0
  · exact .inr ⟨g, cap, cur, rfl, hb, (hk g rfl).trans hg, h1⟩
theorem ROwn.isCells {α : Type} {cells : α → List Value} {size : Nat} {w : World} {base : Nat} {e : TypeId} {v : Value} {l : List α} (h : ROwn cells size w base e v l) {q : Nat} (hq : v.ownBlock = some q) : ∃ cs t fr, w.heap[q]? = some (.cells cs t fr) := by
  rcases h.2 with ⟨rfl, _⟩ | ⟨g, cap, cur, rfl, hb, hg, h1⟩
  · cases hq
  · cases hq
    exact ⟨_, _, _, hg⟩
theorem All_calls (sp : Nat) (w : World) : Calls Try.prog 9 #[.pointer (some ⟨sp, 0, none⟩)] w fun e w' => e = .returned (.func (.func 15) #[] #[.pointer (some ⟨w.heap.size, 0, none⟩)]) ∧ w' = w.alloc (.cells #[.pointer (some ⟨sp, 0, none⟩)] 24) := by
  go_enter Try.func9, Try.ntmps9
  go_wp2
  go_returns
  exact ⟨rfl, rfl⟩
/-- All has come, in its order. -/
def AllS (L : List Vx) (xs : List {x : Vx // x ∈ L}) : Prop := (xs.map (·.1)).Perm L ∧ (xs.map (·.1)).Pairwise fun x y => ¬ cmpV y x < 0
def AnyPre {α : Type} (_ : List α) : Prop := True
set_option maxHeartbeats 16000000 in
set_option maxRecDepth 100000 in
theorem All1_stopsS {Kp : World → World → Prop} {Safe : World → Nat → Prop} (n : Nat) (bs sp mb : Nat) (keep : Int) (L : List Vx) (w : World) (hK : KpOk Kp Safe w) (hb : Blk w bs #[.pointer (some ⟨sp, 0, none⟩)] 24) (hs : StoreIs w sp mb keep L) (hn : L.length ≤ 1000) :
    SeqStopsK Fence.wide n Try.prog 15 #[.pointer (some ⟨bs, 0, none⟩)] (fun v : {x : Vx // x ∈ L} => #[Value.agg v.1.cells.toArray]) Kp (AllS L) AnyPre L.length w := by
  intro lp J Jx W hW hJ hJx hY h0
  have HND := Lib.hid hs.nodup
  have hmap := (hs.below hW).map
  have hblk := (hs.below hW).blk
  have hbx := hb.below hW hb.lt
  have HJ := Lib.hid hJ
  have HJX := Lib.hid hJx
  have HY := Lib.hid hY
  have HJ0 := Lib.hid h0
  have HK := Lib.hid hK
  have HW := Lib.hid hW
  clear hJ hJx hY h0 hK hs hb hW
  obtain ⟨B, hB⟩ : ∃ B, B = W.heap.size := ⟨_, rfl⟩
  have HBS := Lib.hid hB
  have hb0 := hbx.cell 0 _ rfl
  have hsp1 := hblk.cell 1 _ rfl
  clear hB
  refine callsIn_wide.2 ?_
  show Calls Try.prog 15 #[.func (.yield lp) #[] #[], .pointer (some ⟨bs, 0, none⟩)] W _
  go_enter Try.func15, Try.ntmps15
  go_wp2_with (first | ((with_reducible show wpList _ _ _ (⟨some 8, _, _, _, _, _⟩ :: _) _ _); refine wpList_load1 rfl 24 (.tmp 1) rfl bs 0 (by rfl) _ _ (hb0) Try.underlying24 rfl ?_) | ((with_reducible show wpList _ _ _ (⟨some 10, _, _, _, _, _⟩ :: _) _ _); refine wpList_load1 rfl 24 (.tmp 1) rfl bs 0 (by rfl) _ _ (hb0) Try.underlying24 rfl ?_) | ((with_reducible show wpList _ _ _ (⟨some 13, _, _, _, _, _⟩ :: _) _ _); refine wpList_load1 rfl 46 (.tmp 12) rfl sp 1 (by rfl) _ _ (hsp1) Try.underlying46 rfl ?_) | ((with_reducible show wpList _ _ _ (⟨some 14, _, _, _, _, _⟩ :: _) _ _); refine wpList_rangeM rfl (.tmp 13) 46 35 rfl Try.underlying46 mb L.length (lookV L) (by rfl) hmap ?_; intro w3 hr3 b3; simp only [Act.put, List.setIfInBounds_toArray, List.set_cons_zero, List.set_cons_succ]))
  obtain ⟨r, hr⟩ : ∃ r, r = W.heap.size := ⟨_, rfl⟩
  rw [← hr] at hr3 ⊢
  have hrw : B ≤ r := by rw [hr, HBS.out]; exact Nat.le_refl _
  have HR3 := Lib.hid hr3
  have HB3 : Hid (Below B W w3) := by show Below _ _ _; rw [HBS.out]; exact b3
  clear hr3 b3 hr hmap hblk hbx hb0 hsp1
  go_loopg [3, 15] L.length (fun gk s3 s15 wr => ∃ (done : List HsT) (l : List Vx) (l3 : Value), gk = L.length - done.length ∧ l3 = s3 ∧ Hid (Gath L l done) ∧ Hid (RangeIs hashOk hashEnc wr mb r L.length (lookV L) done) ∧ Hid (ROwn Vx.cells 66 wr B 35 l3 l) ∧ Hid (Below B W wr))
  case atStart => exact ⟨[], [], _, by simp, rfl, Lib.hid (Gath.nil _), HR3, Lib.hid (ROwn.nil _ _ _), HB3⟩
  case round =>
    clear HR3 HB3
    obtain ⟨done, l, l3, hgk, rfl, HG, HR, HO, HB⟩ := hrel
    have hll : l.length ≤ 1000 := by rw [HG.out.len]; exact Nat.le_trans (range_le HR.out) hn
    have HGK := Lib.hid hgk
    clear hgk
    go_wp2_with (first | ((with_reducible show wpList _ _ _ (⟨some 15, _, _, _, _, _⟩ :: _) _ _); refine wpList_nextM rfl Try.hashKey (.tmp 14) rfl mb r L.length (lookV L) done (by rfl) HR.out (fun hdone => ?_) (fun x u w5 hx hl hndn hrg hgr hen => ?_)) | ((with_reducible show wpList _ _ _ (⟨some 5, _, _, _, _, _⟩ :: _) _ _); obtain ⟨x, hv, hvx, hvu⟩ := lookV_some hl; subst hvu; subst hvx; have HV := Lib.hid hv; have hne5 := range_own HR.out HO.out; have HR5 := Lib.hid hrg; have HO5 : Hid (ROwn Vx.cells 66 w5 B 35 l3 l) := (HO.out.kept hgr (.inr (fun e => hne5.2 e.symm))); have HB5 := Lib.hid (HB.out.grown hgr (Nat.le_trans (Nat.le_of_eq HBS.out) HB.out.size) (fun q e => by cases e; exact hrw)); clear hv hl hx hndn hrg hgr hne5 HR HO HB; refine wpList_allocZ rfl 35 rfl _ Try.zeroVx ?_; intro wa sa ba na; clear sa) | ((with_reducible show wpList _ _ _ (⟨none, Op.store _ (.tmp 5) _, _, _, _, _⟩ :: _) _ _); refine wpList_storeBlk rfl 35 (.tmp 5) (.tmp 18) rfl w5.heap.size x.cells.toArray (by rfl) (by rfl) _ _ na (vx_sizeA x) (vx_hold _ _) (vx_all x) ?_; intro w6 n6 g6; have bb6 := below_new ba g6 (Nat.le_refl _) ba.size; have HR6 := Lib.hid (HR5.out.below bb6); have HO6 : Hid (ROwn Vx.cells 66 w6 B 35 l3 l) := (HO5.out.below bb6); have HB6 := Lib.hid (HB5.out.trans (bb6.mono (Nat.le_trans (Nat.le_of_eq HBS.out) HB5.out.size))); have HN6 := Lib.hid n6; clear bb6 ba na g6 HR5 HO5 HB5 n6 hen) | ((with_reducible show wpList _ _ _ (⟨some 20, _, _, _, _, _⟩ :: _) _ _); refine wpList_load_mid rfl 35 (.tmp 5) rfl w5.heap.size 0 (by rfl) x.cells _ (blk_rangeP HN6.out) Try.underlying35 rfl (vx_size x) ?_) | ((with_reducible show wpList _ _ _ (⟨some 21, _, _, _, _, _⟩ :: _) _ _); refine wpList_bsV rfl 28 35 (.tmp 20) rfl (.agg x.cells.toArray) (by rfl) Try.underlying28 (.agg vz.cells.toArray) 66 Try.infoVx2 (vx_szv x) (by omega) (by omega) ?_; intro w7 s7 b7 n7; have HR7 := Lib.hid (HR6.out.below b7); have HO7 : Hid (ROwn Vx.cells 66 w7 B 35 l3 l) := (HO6.out.below b7); have HB7 := Lib.hid (HB6.out.trans (b7.mono (Nat.le_trans (Nat.le_of_eq HBS.out) HB6.out.size))); clear b7 s7 HR6 HO6 HB6 HN6) | ((with_reducible show wpList _ _ _ (⟨some 22, _, _, _, _, _⟩ :: _) _ _); refine wpList_append_R rfl (.tmp 19) (.tmp 21) 28 rfl Vx.cells_len Vx.one B 35 (.agg vz.cells.toArray) 80 Try.underlying28 Try.infoVx (vx_szv vz) (by omega) (by omega) l3 l [x] (by rfl) HO7.out (.slice (some ⟨w6.heap.size, 0, none⟩) 1 1) (by rfl) (RAt.blk n7) (by intro c hc; cases hc) (by have := hll; simp; omega) (Nat.le_trans (Nat.le_of_eq HBS.out) HB7.out.size) ?_; intro l8 w8 hown8 hgr8))
    · have hp0 : l.Perm L := HG.out.perm HND.out (range_nodup HR.out) (fun u hu => hdone u.id u.hi (by rw [lookV_mem HND.out hu]; rfl))
      have HP0 := Lib.hid hp0
      clear hp0 hdone HGK HG HR
      refine (SortV_calls cmpV_swo (enters_of Try.func17 (by kernel_rfl) rfl) cmp_calls B _ l _ HO.out (by omega)).mono ?_
      rintro e w5 ⟨rfl, R, hp, hsrt, h5, g5⟩
      have HP : Hid (R.Perm L) := hp.trans HP0.out
      obtain ⟨R', hR'⟩ : ∃ R' : List {x : Vx // x ∈ L}, R'.map (·.1) = R := ⟨R.attachWith (· ∈ L) (fun x hx => HP.out.mem_iff.1 hx), List.attachWith_map_subtype_val ..⟩
      have HR' : Hid (R'.map (·.1) = R) := hR'
      have HRL : Hid (R'.length = R.length) := by show _ = _; rw [← hR', List.length_map]
      clear hR'
      have HS : Hid (R.Pairwise fun x y => 0 ≤ cmpV y x) := hsrt.imp fun h => Int.not_lt.1 h
      have hB5 := HB.out.grown g5 (Nat.le_trans (Nat.le_of_eq HBS.out) HB.out.size) (fun q e => (HO.out.lt q e).1)
      have HO5 := Lib.hid h5
      have hJ5 : Hid (J [] w5) := HJ.out _ _ _ none HJ0.out (below_grown (by rw [HBS.out] at hB5; exact hB5) none) (fun r e => by cases e)
      have HSF5 : Hid (SafeRow Safe w5 l3) := fun q hq => HK.out.new w5 q (HW.out.trans ((by rw [HBS.out] at hB5; exact hB5 : Below W.heap.size W w5).mono HW.out.size)) (Nat.le_trans HW.out.size (Nat.le_trans (Nat.le_of_eq HBS.out.symm) (h5.lt q hq).1)) (h5.isCells hq)
      obtain ⟨ao, cc, hl3⟩ := h5.slice
      obtain ⟨N, hN⟩ : ∃ N, N = R.length := ⟨_, rfl⟩
      have HN := Lib.hid hN
      have hN2 : N ≤ 1000 := by rw [hN, hp.length_eq]; exact hll
      have HNL : Hid (N = L.length) := by show _ = _; rw [hN]; exact HP.out.length_eq
      rw [← hN] at hl3
      subst hl3
      clear hp hsrt g5 hB5 h5 hN HO HB HP0 HJ0 hll
      go_wp2_with fail
      go_loopw [27] (fun i wr => ∃ k : Nat, k ≤ N ∧ i = .int .i64 k ∧ Hid (J (R'.take k) wr) ∧ Hid (ROwn Vx.cells 66 wr B 35 (.slice ao N cc) R) ∧ Hid (SafeRow Safe wr (.slice ao N cc))) (fun i _ => N - (intOf i).toNat)
      case atStart => exact ⟨0, Nat.zero_le _, rfl, hJ5, HO5, HSF5⟩
      case round =>
        obtain ⟨k, hk, rfl, HJk, HOk, HSk⟩ := hrel
        clear hJ5 HO5 HSF5
        by_cases hlt : k < N
        · obtain ⟨⟨x, hxl⟩, hx'⟩ : ∃ x, R'[k]? = some x := ⟨_, List.getElem?_eq_getElem (by rw [HRL.out, ← HN.out]; exact hlt)⟩
          have hx : R[k]? = some x := by rw [← HR'.out, List.getElem?_map, hx']; rfl
          obtain ⟨g, o, rfl, hrg⟩ := HOk.out.at.range Vx.cells_len k x hx
          have HTK : Hid (R'.take (k + 1) = R'.take k ++ [⟨x, hxl⟩]) := by show _ = _; rw [List.take_add_one, hx']; rfl
          have hkl : (R'.take k).length < L.length := by rw [List.length_take, ← HNL.out]; omega
          clear hx hx'
          go_upto_region 10 with (first | ((with_reducible show wpList _ _ _ (⟨some 30, _, _, _, _, _⟩ :: _) _ _); refine wpList_load_mid rfl 35 (.tmp 29) rfl g (o + k * 66) (by rfl) x.cells _ hrg Try.underlying35 rfl (vx_size x) ?_) | ((with_reducible show wpList _ _ _ (⟨some 7, _, _, _, _, _⟩ :: _) _ _); refine wpList_allocZ rfl 35 rfl _ Try.zeroVx ?_; intro wa sa ba na; clear sa) | ((with_reducible show wpList _ _ _ (⟨none, Op.store _ (.tmp 7) _, _, _, _, _⟩ :: _) _ _); refine wpList_storeBlk rfl 35 (.tmp 7) (.tmp 30) rfl wr.heap.size x.cells.toArray (by rfl) (by rfl) _ _ na (vx_sizeA x) (vx_hold _ _) (vx_all x) ?_; intro w7 n7 g7; have bb7 := below_new ba g7 (Nat.le_refl _) ba.size; clear ba na g7))
          have HJ7 : Hid (J (R'.take k) w7) := HJ.out _ _ _ none HJk.out (below_grown bb7 none) (fun r e => by cases e)
          have HO7 : Hid (ROwn Vx.cells 66 w7 B 35 (.slice (some ⟨g, o, none⟩) N cc) R) := HOk.out.below bb7
          have HS7 : Hid (SafeRow Safe w7 (.slice (some ⟨g, o, none⟩) N cc)) := fun q hq => HK.out.step _ _ q bb7 (HSk.out q hq)
          clear HJk HOk HSk bb7 hrg
          obtain ⟨fn, tmps, assign, body, hyy, hRR⟩ := HY.out (R'.take k) ⟨x, hxl⟩ w7 HJ7.out hkl
          clear hkl
          refine (wpIn_wide (n := n)).1 ?_
          refine wpIn_region_lit ?_
          gi_wp2_with ((with_reducible show wpListIn _ _ _ _ _ (⟨some 32, _, _, _, _, _⟩ :: _) _ _); refine wpListIn_of_wp .wide (by rfl) (by rfl) (fun _ _ h => by obtain ⟨⟨v, hv⟩, _⟩ := h; cases hv) ?_; refine wp_load_mid 35 (.tmp 7) rfl wr.heap.size 0 (by rfl) x.cells _ (blk_rangeP n7) Try.underlying35 rfl (vx_size x) ?_)
          refine ⟨(fun h => by (cases h)), ?_⟩
          refine hRR.mono ?_
          rintro e w9 (⟨rfl, hJ9, hk9⟩ | ⟨rfl, hJx9⟩)
          · have HJ9 : Hid (J (R'.take (k + 1)) w9) := by show J _ _; rw [HTK.out]; exact hJ9
            have HO9 : Hid (ROwn Vx.cells 66 w9 B 35 (.slice (some ⟨g, o, none⟩) N cc) R) := HO7.out.same fun q hq => (HK.out.keep _ _ q hk9 (HS7.out q hq)).1
            have HS9 : Hid (SafeRow Safe w9 (.slice (some ⟨g, o, none⟩) N cc)) := fun q hq => (HK.out.keep _ _ q hk9 (HS7.out q hq)).2
            clear hJ9 hk9 hyy hRR n7
            gi_wp2_with fail
            go_wp2_with fail
            go_roundw
            case rel => exact ⟨k + 1, by omega, by go_num, HJ9, HO9, HS9⟩
            case measure => simp [intOf]; omega
          · have HX9 := Lib.hid hJx9
            clear hJx9 hyy hRR n7
            gi_wp2_with fail
            go_wp2_with fail
            go_returns
            exact ⟨⟨_, rfl⟩, .inr ⟨R'.take k ++ [⟨x, hxl⟩], trivial, HX9.out⟩⟩
        · have hkn : k = N := by omega
          subst hkn
          go_wp2_with fail
          go_returns
          refine ⟨⟨_, rfl⟩, .inl ⟨R', ⟨by rw [HR'.out]; exact HP.out, by rw [HR'.out]; exact HS.out.imp fun h => Int.not_lt.2 h⟩, ?_⟩⟩
          have := HJk.out
          rwa [List.take_of_length_le (by rw [HRL.out]; exact Nat.le_of_eq HN.out.symm)] at this
    · have hne8 := range_own HR7.out HO7.out
      have HR8 := Lib.hid (HR7.out.kept hgr8 hne8.1 hne8.2)
      have HB8 := Lib.hid (HB7.out.grown hgr8 (Nat.le_trans (Nat.le_of_eq HBS.out) HB7.out.size) (fun q e => (HO7.out.lt q e).1))
      have HO8 := Lib.hid hown8
      have HG8 := Lib.hid (HG.out.add HV.out)
      clear hne8 hgr8 hown8 n7 HR7 HB7 HO7
      go_roundg (L.length - (done ++ [x.id]).length)
      case rel => exact ⟨done ++ [x.id], l ++ [x], l8, rfl, rfl, HG8, HR8, HO8, HB8⟩
      case measure =>
        have e2 := HGK.out
        have e1 : (done ++ [x.id]).length ≤ L.length := range_le HR8.out
        rw [List.length_append, List.length_singleton] at *
        omega
theorem All1_stops {Kp : World → World → Prop} {Safe : World → Nat → Prop} (n : Nat) (bs sp mb : Nat) (keep : Int) (L : List Vx) (w : World) (hK : KpOk Kp Safe w) (hb : Blk w bs #[.pointer (some ⟨sp, 0, none⟩)] 24) (hs : StoreIs w sp mb keep L) (hn : L.length ≤ 1000) :
    SeqStopsK Fence.wide n Try.prog 15 #[.pointer (some ⟨bs, 0, none⟩)] (fun v : Vx => #[Value.agg v.cells.toArray]) Kp (fun xs => xs.Perm L ∧ xs.Pairwise fun x y => ¬ cmpV y x < 0) AnyPre L.length w := by
  intro lp J Jx W hW hJ hJx hY h0
  refine (All1_stopsS n bs sp mb keep L w hK hb hs hn lp (fun pre W => J (pre.map Subtype.val) W) (fun pre W => Jx (pre.map Subtype.val) W) W hW (fun s A B row h1 h2 h3 => hJ _ A B row h1 h2 h3) (fun s A B row h1 h2 h3 => hJx _ A B row h1 h2 h3) (fun pre x W1 h1 h2 => ?_) h0).mono ?_
  · refine (hY (pre.map Subtype.val) x.1 W1 h1 (by rw [List.length_map]; exact h2)).mono fun e W' h => ?_
    rcases h with ⟨h3, h4, h5⟩ | ⟨h3, h4⟩
    · exact .inl ⟨h3, by rw [List.map_append]; exact h4, h5⟩
    · exact .inr ⟨h3, by rw [List.map_append]; exact h4⟩
  · rintro e W' ⟨h1, ⟨xs, h2, h3⟩ | ⟨pre, h2, h3⟩⟩
    · exact ⟨h1, .inl ⟨_, h2, h3⟩⟩
    · exact ⟨h1, .inr ⟨_, trivial, h3⟩⟩
end Go.Proofs.Ytodnmhflafpefaa
