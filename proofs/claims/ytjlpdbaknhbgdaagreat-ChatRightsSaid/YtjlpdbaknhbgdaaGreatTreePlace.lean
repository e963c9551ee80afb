/-
  tree.sound, tree.Place.
-/
import Derived.Test.YtjlpdbaknhbgdaaGreatTreeRight
import Derived.WalkLawsBesides
import Derived.Outline
import Derived.Handy
set_option linter.unusedSimpArgs false
set_option linter.unusedVariables false
namespace Go.Proofs.YtjlpdbaknhbgdaaGreat
open Go.RowKit

/-- Which field of a struct. -/
def fieldTO : TypeDesc → Nat → Option (TypeId × Nat)
  | .struct fs, i => (fs[i]?).map fun f => (f.type, f.offset)
  | _, _ => none
theorem run_field {P : Program} {t : TypeId} {d : TypeDesc} {i : Nat} {ft off : Nat} {cs : Array Value} {v : Value} {w : World} (hu : P.underlying t = some d) (hf : fieldTO d i = some (ft, off)) (hp : (part ft cs off).run P w = .ok v w) : (Instr.field t (.agg cs) i).run P w = .ok v w := by
  cases d <;> simp only [fieldTO, reduceCtorEq] at hf
  rename_i fs
  cases hfi : fs[i]? with
  | none => simp [hfi] at hf
  | some f =>
    rw [hfi] at hf
    simp only [Option.map_some, Option.some.injEq, Prod.mk.injEq] at hf
    obtain ⟨rfl, rfl⟩ := hf
    simp [Instr.field, run_underlying hu, hfi, asAgg, Result.andThen, hp]
theorem wp_field {P : Program} {o : Oper} {a : Act} {w : World} {K : Act → World → Prop} {Q : Exit → Act → World → Prop} (t : TypeId) (x : Operand) (i : Nat) (ho : o.op = .field t x i) (cs : Array Value) (hx : a.eval x = .agg cs) (d : TypeDesc) (hu : P.underlying t = some d) (ft off : Nat) (hf : fieldTO d i = some (ft, off)) (v : Value)
    (hp : (part ft cs off).run P w = .ok v w) (h : K (a.put o.dst v) w) : o.wp P a w K Q := by
  unfold Oper.wp execOp
  simp only [ho, hx, Sem.run_bind, run_field hu hf hp, Sem.run_pure, Result.andThen_ok]
  exact h
theorem wpList_field {P : Program} {ops : Array Oper} {rest : List Oper} {o : Oper} {a : Act} {w : World} {Q : Exit → Act → World → Prop} (hgd : o.guard = none) (t : TypeId) (x : Operand) (i : Nat) (ho : o.op = .field t x i) (cs : Array Value) (hx : a.eval x = .agg cs) (d : TypeDesc) (hu : P.underlying t = some d) (ft off : Nat) (hf : fieldTO d i = some (ft, off)) (v : Value)
    (hp : (part ft cs off).run P w = .ok v w) (h : wpList P ops Q rest (a.put o.dst v) w) : wpList P ops Q (o :: rest) a w :=
  wpList_plain hgd fun _ hK => wp_field t x i ho cs hx d hu ft off hf v hp (hK _ _ h)
theorem part_one {P : Program} {t : TypeId} {d : TypeDesc} (hu : P.underlying t = some d) (hd : d.isRow = false) (xs : Array Value) (off : Nat) (v : Value) (w : World) (he : xs[off]? = some v) : (part t xs off).run P w = .ok v w := by
  have hagg : (isAgg t).run P w = .ok false w := by
    unfold isAgg
    rw [Sem.run_bind, run_underlying hu w]
    cases d <;> simp_all
  simp [part, Sem.run_bind, hagg, Result.andThen, he]
def firstL (x : Int) (L : List LeafA) : Int := match L.findIdx? (fun l => decide (l.n = x)) with
  | none => -1
  | some i => i
theorem firstL_none {x : Int} {L : List LeafA} (h : ∀ j l, j < L.length → L[j]? = some l → l.n ≠ x) : firstL x L = -1 := by
  have : L.findIdx? (fun l => decide (l.n = x)) = none := List.findIdx?_eq_none_iff.2 fun l hl => by
    obtain ⟨j, hj, rfl⟩ := List.getElem_of_mem hl
    exact decide_eq_false (h j _ hj (List.getElem?_eq_getElem hj))
  rw [firstL, this]
theorem firstL_some {x : Int} {L : List LeafA} {k : Nat} {l : LeafA} (h : ∀ j l, j < k → L[j]? = some l → l.n ≠ x) (hx : L[k]? = some l) (hd : l.n = x) : firstL x L = (k : Int) := by
  obtain ⟨hk, rfl⟩ := List.getElem?_eq_some_iff.1 hx
  have : L.findIdx? (fun l => decide (l.n = x)) = some k := List.findIdx?_eq_some_iff_getElem.2 ⟨hk, decide_eq_true hd, fun j hj => by
    have := h j _ hj (List.getElem?_eq_getElem (by omega))
    simp [this]⟩
  rw [firstL, this]
theorem placeT_first (T : TreeT) (x : Int) : placeT T x = if x < 1 then -1 else firstL x (if rightT T then T.leaves else []) := by
  unfold placeT placeL firstL
  by_cases h : x < 1
  · simp [h]
  · rw [if_neg h, if_neg h]
    by_cases h2 : rightT T = true
    · rw [if_pos h2, if_pos h2]; rfl
    · rw [if_neg h2, if_neg h2]; rfl
set_option maxHeartbeats 4000000 in
set_option maxRecDepth 100000 in
theorem PlaceF_calls (l : LeafA) (pm : Nat) (x : Int) (w : World) (hp : Blk w pm #[.int .i64 x] 3) :
    Calls Tryz.prog 144 #[.agg l.cells.toArray, .pointer (some ⟨pm, 0, none⟩)] w fun e w' => e = .returned (.bool (l.n == x)) ∧ Below w.heap.size w w' := by
  have hb0 : Below w.heap.size w (w.alloc (.cells l.cells.toArray 144)) := below_alloc1 _ _
  have hA := leaf_nR (blk_rangeP (Blk.new w l.cells.toArray 144))
  have hc := (hp.below hb0 hp.lt).cell 0 _ rfl
  clear hp
  go_enter Tryz.func144, Tryz.ntmps144
  go_wp2_with (first | ((with_reducible show wpList _ _ _ (⟨some 5, _, _, _, _, _⟩ :: _) _ _); refine wpList_load1 rfl 3 (.tmp 4) rfl w.heap.size 0 (by rfl) _ _ hA Tryz.underlying3 rfl ?_) | ((with_reducible show wpList _ _ _ (⟨some 6, _, _, _, _, _⟩ :: _) _ _); refine wpList_load1 rfl 3 (.tmp 1) rfl pm 0 (by rfl) _ _ hc Tryz.underlying3 rfl ?_))
  go_returns
  exact ⟨rfl, hb0⟩
set_option maxHeartbeats 4000000 in
set_option maxRecDepth 100000 in
theorem IndexL_calls (ao : Option Addr) (n c : Nat) (L : List LeafA) (pm : Nat) (x : Int) (w : World) (hL : Elems LeafA.cells 97 w ao n L) (hn : n ≤ 1000000) (hp : Blk w pm #[.int .i64 x] 3) :
    Calls Tryz.prog 142 #[.slice ao n c, .func (.func 144) #[] #[.pointer (some ⟨pm, 0, none⟩)]] w fun e w' => e = .returned (.int .i64 (firstL x L)) ∧ Below w.heap.size w w' := by
  have HL := Lib.hid hL
  have HP := Lib.hid hp
  have hb0 := Lib.hid (Below.refl w.heap.size w)
  have HN := Lib.hid hL.1
  obtain ⟨r, hr⟩ : ∃ r, r = firstL x L := ⟨_, rfl⟩
  have HR := Lib.hid hr
  rw [← hr]
  clear hL hp hr
  go_enter Tryz.func142, Tryz.ntmps142
  go_wp2_with fail
  go_loopw [8] (fun iv wr => ∃ (k : Nat), k ≤ n ∧ iv = .int .i64 k ∧ Hid (∀ j l, j < k → L[j]? = some l → l.n ≠ x) ∧ Hid (Below w.heap.size w wr)) (fun iv _ => n - (intOf iv).toNat)
  case atStart => exact ⟨0, by omega, rfl, Lib.hid (fun j l hj => by omega), hb0⟩
  case round =>
    obtain ⟨k, hk, rfl, hno, hB⟩ := hrel
    clear hb0
    by_cases hlt : k < n
    · obtain ⟨g, o, l, rfl, hh, _⟩ := HL.out.at k hlt
      have hrg : wr.rangeAt g (o + k * 97) l.cells := (HL.out.below hB.out).at' k _ hh
      have HH := Lib.hid hh
      obtain ⟨d, hd⟩ : ∃ d, d = (l.n == x) := ⟨_, rfl⟩
      have HD := Lib.hid hd
      have cc : ∀ y, Below w.heap.size w y → Calls Tryz.prog 144 #[.agg l.cells.toArray, .pointer (some ⟨pm, 0, none⟩)] y fun e w' => e = .returned (.bool d) ∧ Below y.heap.size y w' := fun y hy => by rw [hd]; exact PlaceF_calls l pm x y (HP.out.below hy HP.out.lt)
      clear hh hd
      go_wp2_with ((with_reducible show wpList _ _ _ (⟨some 15, _, _, _, _, _⟩ :: _) _ _); refine wpList_load_mid rfl 144 (.tmp 14) rfl g (o + k * 97) (by rfl) l.cells _ hrg Tryz.underlying144 rfl (leaf_sizeL l) ?_)
      refine (cc _ hB.out).mono ?_
      rintro e w5 ⟨rfl, b5⟩
      have hB5 := Lib.hid (hB.out.trans (b5.mono hB.out.size))
      clear b5 cc hrg
      cases d with
      | true =>
        go_wp2_with fail
        go_returns
        rw [HR.out, firstL_some hno.out HH.out (beq_iff_eq.1 HD.out.symm)]
        exact ⟨rfl, hB5.out⟩
      | false =>
        have hno5 : Hid (∀ j l, j < k + 1 → L[j]? = some l → l.n ≠ x) := fun j l' hj hx => by
          by_cases hjk : j < k
          · exact hno.out j l' hjk hx
          · obtain rfl : j = k := by omega
            rw [HH.out] at hx
            obtain rfl := Option.some.inj hx
            exact beq_eq_false_iff_ne.1 HD.out.symm
        go_wp2_with fail
        go_roundw
        case rel => exact ⟨k + 1, by omega, by go_num, hno5, hB5⟩
        case measure => simp [intOf]; omega
    · obtain rfl : k = n := by omega
      go_wp2_with fail
      go_returns
      rw [HR.out, firstL_none (fun j l hj hx => hno.out j l (by rw [← HN.out]; exact hj) hx)]
      exact ⟨rfl, hB.out⟩
theorem blk_nxt (w : World) (o : Obj) (cs : Array Value) (t : TypeId) : Blk ((w.alloc o).alloc (.cells cs t)) (w.heap.size + 1) cs t := by
  have := Blk.new (w.alloc o) cs t
  rwa [show (w.alloc o).heap.size = w.heap.size + 1 by simp] at this
theorem Tryz.sizeTree : (Tryz.prog.info? 27).map (·.size) = some 2 := by kernel_rfl
set_option maxHeartbeats 4000000 in
set_option maxRecDepth 100000 in
theorem sound_calls (lo po : Option Addr) (n ac m pc : Nat) (lvs : List Value) (T : TreeT) (w : World) (hT : TreeIs w lo n ac po m pc lvs T) (hn : n ≤ 1000000) (hm : m ≤ 1000000) :
    Calls Tryz.prog 143 #[.agg #[.slice lo n ac, .slice po m pc]] w fun e w' => e = .returned (.agg (if rightT T then #[.slice lo n ac, .slice po m pc] else #[.slice none 0 0, .slice none 0 0])) ∧ Below w.heap.size w w' := by
  have hT0 := Lib.hid hT
  clear hT
  have hA0 : Blk ((w.alloc (.cells #[.slice lo n ac, .slice po m pc] 27)).alloc (.cells #[.slice none 0 0, .slice none 0 0] 27)) w.heap.size #[.slice lo n ac, .slice po m pc] 27 := (Blk.new _ _ _).alloc _
  have hR0 : Blk ((w.alloc (.cells #[.slice lo n ac, .slice po m pc] 27)).alloc (.cells #[.slice none 0 0, .slice none 0 0] 27)) (w.heap.size + 1) #[.slice none 0 0, .slice none 0 0] 27 := blk_nxt _ _ _ _
  have hb0 : Below w.heap.size w ((w.alloc (.cells #[.slice lo n ac, .slice po m pc] 27)).alloc (.cells #[.slice none 0 0, .slice none 0 0] 27)) := ((Below.refl _ _).alloc (Nat.le_refl _) _).alloc (by simp) _
  have hT1 := Lib.hid (hT0.out.below hb0)
  have hsz1 : ((w.alloc (.cells #[.slice lo n ac, .slice po m pc] 27)).alloc (.cells #[.slice none 0 0, .slice none 0 0] 27)).heap.size = w.heap.size + 2 := by simp
  have c1 : ∀ y, TreeIs y lo n ac po m pc lvs T → Calls Tryz.prog 124 #[.agg #[.slice lo n ac, .slice po m pc]] y fun e w' => e = .returned (.bool (rightT T)) ∧ Below y.heap.size y w' := fun y hy => TreeRight_calls lo po n ac m pc lvs T y hy hn hm
  clear hn hm
  generalize rightT T = R at c1 ⊢
  go_enter Tryz.func143, Tryz.ntmps143
  go_wp2_with ((with_reducible show wpList _ _ _ (⟨some 3, _, _, _, _, _⟩ :: _) _ _); refine wpList_loadBlk rfl 27 (.tmp 1) rfl w.heap.size (by rfl) _ _ _ hA0 Tryz.underlying27 rfl Tryz.sizeTree ?_)
  obtain ⟨W, hW⟩ : ∃ z, z = (w.alloc (.cells #[.slice lo n ac, .slice po m pc] 27)).alloc (.cells #[.slice none 0 0, .slice none 0 0] 27) := ⟨_, rfl⟩
  rw [← hW] at hA0 hR0 hb0 hT1 hsz1 ⊢
  clear hW
  refine (c1 _ hT1.out).mono ?_
  rintro e w1 ⟨rfl, b1⟩
  have hA1 := hA0.below b1 hA0.lt
  have hR1 := hR0.below b1 hR0.lt
  have hb1 := hb0.trans (b1.mono hb0.size)
  clear hA0 hR0 hb0 b1 c1 hT1 hT0
  cases R with
  | true =>
    go_wp2_with (first | ((with_reducible show wpList _ _ _ (⟨some 5, _, _, _, _, _⟩ :: _) _ _); refine wpList_loadBlk rfl 27 (.tmp 1) rfl w.heap.size (by rfl) _ _ _ hA1 Tryz.underlying27 rfl Tryz.sizeTree ?_) | ((with_reducible show wpList _ _ _ (⟨none, Op.store _ (.tmp 2) _, _, _, _, _⟩ :: _) _ _); refine wpList_storeBlk rfl 27 (.tmp 2) (.tmp 5) rfl (w.heap.size + 1) #[.slice lo n ac, .slice po m pc] (by rfl) (by rfl) _ _ hR1 Tryz.sizeTree (by rfl) (by simp [Value.oneCell']) ?_; intro w2 hR2 g2; have hb2 := hb1.grown g2 hb1.size (fun q e => by cases e; omega); clear hR1 hb1 g2))
    refine ret_blk rfl (w.heap.size + 1) 27 _ _ (by rfl) hR2 Tryz.underlying27 rfl Tryz.sizeTree rfl ?_
    exact ⟨rfl, hb2⟩
  | false =>
    go_wp2_with (first | ((with_reducible show wpList _ _ _ (⟨some 6, _, _, _, _, _⟩ :: _) _ _); refine wpList_buildCells rfl 27 #[] rfl #[.slice none 0 0, .slice none 0 0] (by kernel_rfl) ?_) | ((with_reducible show wpList _ _ _ (⟨none, Op.store _ (.tmp 2) _, _, _, _, _⟩ :: _) _ _); refine wpList_storeBlk rfl 27 (.tmp 2) (.tmp 6) rfl (w.heap.size + 1) #[.slice none 0 0, .slice none 0 0] (by rfl) (by rfl) _ _ hR1 Tryz.sizeTree (by rfl) (by simp [Value.oneCell']) ?_; intro w2 hR2 g2; have hb2 := hb1.grown g2 hb1.size (fun q e => by cases e; omega); clear hR1 hb1 g2))
    refine ret_blk rfl (w.heap.size + 1) 27 _ _ (by rfl) hR2 Tryz.underlying27 rfl Tryz.sizeTree rfl ?_
    exact ⟨rfl, hb2⟩
set_option maxHeartbeats 4000000 in
set_option maxRecDepth 100000 in
theorem Place_calls (lo po : Option Addr) (n ac m pc : Nat) (lvs : List Value) (T : TreeT) (x : Int) (w : World) (hT : TreeIs w lo n ac po m pc lvs T) (hn : n ≤ 1000000) (hm : m ≤ 1000000) :
    Calls Tryz.prog 71 #[.agg #[.slice lo n ac, .slice po m pc], .int .i64 x] w fun e w' => e = .returned (.int .i64 (placeT T x)) ∧ Below w.heap.size w w' := by
  rw [placeT_first]
  have hT0 := Lib.hid hT
  clear hT
  have hA0 : Blk ((w.alloc (.cells #[.slice lo n ac, .slice po m pc] 27)).alloc (.cells #[.int .i64 x] 3)) w.heap.size #[.slice lo n ac, .slice po m pc] 27 := (Blk.new _ _ _).alloc _
  have hX0 : Blk ((w.alloc (.cells #[.slice lo n ac, .slice po m pc] 27)).alloc (.cells #[.int .i64 x] 3)) (w.heap.size + 1) #[.int .i64 x] 3 := blk_nxt _ _ _ _
  have hb0 : Below w.heap.size w ((w.alloc (.cells #[.slice lo n ac, .slice po m pc] 27)).alloc (.cells #[.int .i64 x] 3)) := ((Below.refl _ _).alloc (Nat.le_refl _) _).alloc (by simp) _
  have hT1 := Lib.hid (hT0.out.below hb0)
  have hc1 := hX0.cell 0 _ rfl
  have c1 : ∀ y, TreeIs y lo n ac po m pc lvs T → Calls Tryz.prog 143 #[.agg #[.slice lo n ac, .slice po m pc]] y fun e w' => e = .returned (.agg (if rightT T then #[.slice lo n ac, .slice po m pc] else #[.slice none 0 0, .slice none 0 0])) ∧ Below y.heap.size y w' := fun y hy => sound_calls lo po n ac m pc lvs T y hy hn hm
  by_cases hx : x < 1
  · rw [if_pos hx]
    clear hA0 hX0 c1 hT0 hT1
    go_enter Tryz.func71, Tryz.ntmps71
    go_wp2_with ((with_reducible show wpList _ _ _ (⟨some 5, _, _, _, _, _⟩ :: _) _ _); refine wpList_load1 rfl 3 (.tmp 3) rfl (w.heap.size + 1) 0 (by rfl) _ _ hc1 Tryz.underlying3 rfl ?_)
    go_returns
    exact ⟨rfl, hb0⟩
  · rw [if_neg hx]
    have HN := Lib.hid hn
    have HX := Lib.hid hx
    have hx' : ¬ x < 1 := hx
    obtain ⟨cs, L, hcs, hL, hEl⟩ : ∃ (cs : Array Value) (L : List LeafA), (if rightT T then #[.slice lo n ac, .slice po m pc] else #[.slice none 0 0, .slice none 0 0]) = cs ∧ (if rightT T then T.leaves else []) = L ∧ (∃ ao k c b, cs = #[.slice ao k c, b] ∧ k ≤ 1000000 ∧ ∀ y, TreeIs y lo n ac po m pc lvs T → Elems LeafA.cells 97 y ao k L) := by
      refine ⟨_, _, rfl, rfl, ?_⟩
      by_cases hR : rightT T = true
      · rw [if_pos hR, if_pos hR]; exact ⟨_, _, _, _, rfl, hn, fun y hy => hy.el⟩
      · rw [if_neg hR, if_neg hR]; exact ⟨_, _, _, _, rfl, by omega, fun y hy => ⟨rfl, .inl rfl⟩⟩
    obtain ⟨ao, k, c, b, rfl, hk, hE⟩ := hEl
    rw [hcs] at c1
    rw [hL]
    have HE := Lib.hid hE
    have HK := Lib.hid hk
    clear hn hm hcs hL hE hk
    go_enter Tryz.func71, Tryz.ntmps71
    go_wp2_with (first | ((with_reducible show wpList _ _ _ (⟨some 5, _, _, _, _, _⟩ :: _) _ _); refine wpList_load1 rfl 3 (.tmp 3) rfl (w.heap.size + 1) 0 (by rfl) _ _ hc1 Tryz.underlying3 rfl ?_) | ((with_reducible show wpList _ _ _ (⟨some 7, _, _, _, _, _⟩ :: _) _ _); refine wpList_loadBlk rfl 27 (.tmp 2) rfl w.heap.size (by rfl) _ _ _ hA0 Tryz.underlying27 rfl Tryz.sizeTree ?_))
    obtain ⟨W, hW⟩ : ∃ z, z = (w.alloc (.cells #[.slice lo n ac, .slice po m pc] 27)).alloc (.cells #[.int .i64 x] 3) := ⟨_, rfl⟩
    obtain ⟨pm, hpm⟩ : ∃ z, z = w.heap.size + 1 := ⟨_, rfl⟩
    rw [← hW] at hA0 hX0 hb0 hT1 hc1 ⊢
    rw [← hpm] at hX0 hc1 ⊢
    clear hW hc1 hA0 hpm
    refine (c1 _ hT1.out).mono ?_
    rintro e w1 ⟨rfl, b1⟩
    have hX1 := hX0.below b1 hX0.lt
    have hb1 := hb0.trans (b1.mono hb0.size)
    have hT2 := Lib.hid (hT1.out.below b1)
    clear hX0 hb0 b1 c1 hT1 hT0
    go_wp2_with ((with_reducible show wpList _ _ _ (⟨some 9, _, _, _, _, _⟩ :: _) _ _); refine wpList_field rfl 27 (.tmp 8) 0 rfl _ (by rfl) _ Tryz.underlying27 24 0 (by rfl) (.slice ao k c) (part_one Tryz.underlying24 rfl _ _ _ _ rfl) ?_)
    refine (IndexL_calls _ k c L pm x _ (HE.out _ hT2.out) HK.out hX1).mono ?_
    rintro e w2 ⟨rfl, b2⟩
    have hb2 := hb1.trans (b2.mono hb1.size)
    clear hX1 b2 hb1 hT2
    go_wp2_with fail
    go_returns
    exact ⟨rfl, hb2⟩
end Go.Proofs.YtjlpdbaknhbgdaaGreat
