/-
  book: New, Len, Name, Named, Knows.
-/
import Derived.Test.YtjjmcogdohnhjaaBookClone
import Derived.Test.YtjjmcogdohnhjaaBookFol
import Derived.WalkLawsBesides
import Derived.Outline
import Derived.Handy
import Derived.Deep.RegionHeld
import Derived.Laws.ResultCell
set_option linter.unusedSimpArgs false
set_option linter.unusedVariables false
namespace Go.Proofs.Ytjjmcogdohnhjaa
open Go.RowKit

theorem ret_cellTmp {P : Program} {fn : Func} {R : Ending → World → Prop} {a : Act} {w : World} {p u : Tmp} {ty : TypeId} (hf : fn.results = #[.cell p ty, .tmp u]) (g : Nat) (t : TypeId) (cs : Array Value) (d : TypeDesc)
    (hp : a.tmps.getD p undef = .pointer (some ⟨g, 0, none⟩)) (hg : Blk w g cs t)
    (hu : P.underlying ty = some d) (hd : (match d with | .struct _ | .array _ _ => true | _ => false) = true) (hi : (P.info? ty).map (·.size) = some cs.size)
    (hdf : a.defers = []) (hR : R (.returned (.tuple #[.agg cs, a.tmps.getD u undef])) w) : bodyPost P fn R .ret a w := by
  refine bodyPost_ret (v := .tuple #[.agg cs, a.tmps.getD u undef]) ?_ hdf hR
  rw [results_cell_tmp hf, hp]
  simp [asAddr, run_loadVar_row w g t ty cs (0, 0) d hg hu hd hi, Result.andThen]
theorem Try.zeroHashV (w : World) : (zeroValue 39).run Try.prog w = .ok (.agg Z32) w := by kernel_rfl
theorem wpList_lookT {P : Program} {k : TypeId} {ok : List UInt8 → Prop} {enc : List UInt8 → Value} {w : World} {ops : Array Oper} {rest : List Oper} {o : Oper} {a : Act} {Q : Exit → Act → World → Prop} (hg : o.guard = none) (mk : MKey P k ok enc) (m x : Operand) (t e : TypeId) (ho : o.op = .lookup t m x true) (ht : P.underlying t = some (.map k e)) (z : Value) (hz : (zeroValue e).run P w = .ok z w) (b n : Nat) (look : List UInt8 → Option Value)
    (hm : a.eval m = .map (some b)) (h : MapIs ok enc w b n look) (y : List UInt8) (hy : ok y) (hx : a.eval x = enc y) (u : Value) (hu : (look y).getD z = u) (c : Bool) (hc : (look y).isSome = c) (hK : wpList P ops Q rest (a.put o.dst (.tuple #[u, .bool c])) w) : wpList P ops Q (o :: rest) a w := by
  refine wpList_plain hg fun K' hK' => ?_
  have hr := h.look mk ht hz y hy true
  subst hu hc
  unfold Oper.wp
  simp [execOp, ho, hm, hx, hr, Result.andThen]
  exact hK' _ _ hK
theorem outLook_get (O : List HsT) (h : HsT) (D : Bool) (hD : D = true ↔ h ∈ O) : (outLook O h).getD (.bool false) = .bool D := by
  unfold outLook
  by_cases e : h ∈ O
  · rw [if_pos e, hD.2 e]; rfl
  · rw [if_neg e]
    cases D with
    | false => rfl
    | true => exact absurd (hD.1 rfl) e
theorem BookIs.drew {w : World} {base b sm nm dm : Nat} {fs : List FactT} {names : List UInt8 → Option Value} (h : BookIs w base b sm nm dm fs names) : BookIs w.drew base b sm nm dm fs names := h.below (below_drewN (Below.refl _ _) 1)
theorem BookIs.setNames {w w' : World} {base b sm nm dm K : Nat} {fs : List FactT} {names names' : List UInt8 → Option Value} (h : BookIs w base b sm nm dm fs names) (f : Frm (fun _ => False) (fun q => q = dm) w w') (hm : MapIs strOk strEnc w' dm K names') : BookIs w' base b sm nm dm fs names' := by
  obtain ⟨⟨fv, h1, h2⟩, ⟨K, h3⟩, h4, ⟨L, h5⟩, h6, h7⟩ := h
  exact ⟨⟨fv, h1.frm f id, h2.frm f id id⟩, ⟨K, h3.frm f h7.2.1⟩, h4.frm f id h7.2.2, ⟨_, hm⟩, h6, h7⟩
/-- The names as values. -/
def NamesOk (names : List UInt8 → Option Value) : Prop := ∀ s v, names s = some v → ∃ h : HsT, h.length = 32 ∧ v = hashEnc h
theorem bv_zeros : (List.replicate 32 (0 : UInt8)).map bv = Z32.toList := by kernel_rfl
theorem enc_zeros : hashEnc (List.replicate 32 (0 : UInt8)) = .agg Z32 := by show Value.agg _ = _; rw [bv_zeros]
theorem NamesOk.val {names : List UInt8 → Option Value} (h : NamesOk names) (s : List UInt8) : ∃ l : HsT, l.length = 32 ∧ (names s).getD (.agg Z32) = hashEnc l ∧ (names s = none → l = List.replicate 32 0) := by
  cases hn : names s with
  | none => exact ⟨List.replicate 32 0, by simp, by show Value.agg _ = Value.agg _; rw [bv_zeros], fun _ => rfl⟩
  | some v =>
    obtain ⟨l, h1, h2⟩ := h s v hn
    exact ⟨l, h1, h2, fun h => by cases h⟩
set_option maxHeartbeats 8000000 in
set_option maxRecDepth 100000 in
theorem Len_calls (base b sm nm dm : Nat) (fs : List FactT) (names : List UInt8 → Option Value) (w : World) (h : BookIs w base b sm nm dm fs names) :
    Calls Try.prog 21 #[.pointer (some ⟨b, 0, none⟩)] w fun e w' => e = .returned (.int .i64 (fs.length : Nat)) ∧ w' = w := by
  obtain ⟨⟨fv, hk, cs, ho, -⟩, -⟩ := h
  obtain ⟨fao, fc, rfl⟩ := own_slice ho
  clear ho
  go_enter Try.func21, Try.ntmps21
  go_wp2_with (first | ((with_reducible show wpList _ _ _ (⟨some 8, _, _, _, _, _⟩ :: _) _ _); refine wpList_load1 rfl 22 (.tmp 7) rfl b 0 (by rfl) (.slice fao fs.length fc) _ (hk.cell 0 _ rfl) Try.underlying22 rfl ?_))
  go_returns
  exact ⟨rfl, rfl⟩
set_option maxHeartbeats 8000000 in
set_option maxRecDepth 100000 in
theorem LenNil_calls (w : World) :
    Calls Try.prog 21 #[.pointer none] w fun e w' => e = .returned (.int .i64 0) ∧ w' = w := by
  go_enter Try.func21, Try.ntmps21
  go_wp2
  go_returns
  exact ⟨rfl, rfl⟩
set_option maxHeartbeats 8000000 in
set_option maxRecDepth 100000 in
theorem NamedNil_calls (s : List UInt8) (w : World) :
    Calls Try.prog 20 #[.pointer none, .string (str s)] w fun e w' => e = .returned (.tuple #[hashEnc (List.replicate 32 0), .bool false]) ∧ Below w.heap.size w w' := by
  obtain ⟨base, hbase⟩ : ∃ base, base = w.heap.size := ⟨_, rfl⟩
  rw [← hbase]
  go_enter Try.func20, Try.ntmps20
  go_wp2_with (first | ((with_reducible show wpList _ _ _ (⟨some 4, _, _, _, _, _⟩ :: _) _ _); refine wpList_allocZ rfl 39 rfl _ Try.zeroHash ?_; intro w1 s1 b1 n1) | ((with_reducible show wpList _ _ _ (⟨none, Op.store _ (.tmp 4) _, _, _, _, _⟩ :: _) _ _); refine wpList_storeBlk rfl 39 (.tmp 4) (.tmp 10) rfl w.heap.size Z32 (by rfl) (by kernel_rfl) _ _ n1 Try.sizeHash rfl (by kernel_rfl) ?_; intro w2 n2 g2; have b2 := below_new b1 g2 (Nat.le_refl _) b1.size; clear b1 g2 n1 s1))
  refine ret_cellTmp rfl w.heap.size 39 Z32 _ (by rfl) n2 Try.underlying39 rfl Try.sizeHash rfl ?_
  exact ⟨by rw [enc_zeros]; rfl, by rw [hbase]; exact b2⟩
set_option maxHeartbeats 8000000 in
set_option maxRecDepth 100000 in
theorem NameNil_calls (s h : List UInt8) (hh : h.length = 32) (w : World) :
    Calls Try.prog 19 #[.pointer none, .string (str s), hashEnc h] w fun e w' => e = .returned (.tuple #[]) ∧ Below w.heap.size w w' := by
  obtain ⟨base, hbase⟩ : ∃ base, base = w.heap.size := ⟨_, rfl⟩
  rw [← hbase]
  go_enter Try.func19, Try.ntmps19
  go_wp2_with (first | ((with_reducible show wpList _ _ _ (⟨some 5, _, _, _, _, _⟩ :: _) _ _); refine wpList_boxA rfl 39 (.tmp 2) rfl (h.map bv).toArray (by rfl) ?_; intro w1 b1 n1))
  go_returns
  exact ⟨rfl, by rw [hbase]; exact b1⟩
set_option maxHeartbeats 8000000 in
set_option maxRecDepth 100000 in
theorem Named_calls (base b sm nm dm : Nat) (fs : List FactT) (names : List UInt8 → Option Value) (s : List UInt8) (w : World) (h : BookIs w base b sm nm dm fs names) (hs : strOk s) (hN : NamesOk names) :
    Calls Try.prog 20 #[.pointer (some ⟨b, 0, none⟩), .string (str s)] w fun e w' => ∃ l : HsT, l.length = 32 ∧ (names s).getD (.agg Z32) = hashEnc l ∧ e = .returned (.tuple #[hashEnc l, .bool (names s).isSome]) ∧ Below w.heap.size w w' := by
  obtain ⟨l, hl, hv, -⟩ := hN.val s
  obtain ⟨c, hc⟩ : ∃ c, (names s).isSome = c := ⟨_, rfl⟩
  have HL := Lib.hid hl
  have HV := Lib.hid hv
  have HC := Lib.hid hc
  have HS := Lib.hid hs
  obtain ⟨⟨fv, hk, -⟩, -, -, ⟨N, hd⟩, -, -⟩ := h
  obtain ⟨base0, hbase⟩ : ∃ base, base = w.heap.size := ⟨_, rfl⟩
  have HBS : Hid (base0 = w.heap.size) := hbase
  have HD := Lib.hid hd
  rw [hc, ← hbase]
  clear hl hv hc hs hd hN
  go_enter Try.func20, Try.ntmps20
  have hB0 := Below.refl w.heap.size w
  go_wp2_with (first | ((with_reducible show wpList _ _ _ (⟨some 4, _, _, _, _, _⟩ :: _) _ _); refine wpList_allocZ rfl 39 rfl _ Try.zeroHash ?_; intro w1 s1 b1 n1; have ltq5 : b < w.heap.size := hk.lt; have hCq6 := hk.below b1 hk.lt; have hCq7 := Lib.hid (HD.out.below b1); have hBq8 := hB0.trans (b1.mono (hB0.size)); clear hk HD hB0; clear b1 s1) | ((with_reducible show wpList _ _ _ (⟨some 15, _, _, _, _, _⟩ :: _) _ _); refine wpList_load1 rfl 68 (.tmp 14) rfl (b) 3 (by rfl) _ _ (hCq6.cell 3 _ rfl) Try.underlying68 rfl ?_) | ((with_reducible show wpList _ _ _ (⟨some 17, _, _, _, _, _⟩ :: _) _ _); refine wpList_lookT rfl Try.strKey (.tmp 15) (.tmp 16) 68 39 rfl Try.underlying68 (.agg Z32) (Try.zeroHashV _) dm _ _ (by rfl) hCq7.out s HS.out (by rfl) (hashEnc l) HV.out c HC.out ?_) | ((with_reducible show wpList _ _ _ (⟨some 6, _, _, _, _, _⟩ :: _) _ _); refine wpList_allocZ rfl 39 rfl _ Try.zeroHash ?_; intro wq9 hsq10 baq11 hNq12) | ((with_reducible show wpList _ _ _ (⟨none, Op.store _ (.tmp 6) _, _, _, _, _⟩ :: _) _ _); refine wpList_storeBlk rfl 39 (.tmp 6) (.tmp 18) rfl (w1.heap.size) ((l.map bv).toArray) (by rfl) (by rfl) _ _ hNq12 (by rw [bv_size, HL.out]; exact Try.sizeHash) (by rw [bv_size, HL.out, Z32_size]) (bv_all _) ?_; intro wq13 hKq14 gq15; have bbq16 := below_new baq11 gq15 (Nat.le_refl _) baq11.size; have ltq17 : b < w1.heap.size := hCq6.lt; have ltq18 : w.heap.size < w1.heap.size := n1.lt; have hCq19 := hCq6.below bbq16 hCq6.lt; have hCq20 := Lib.hid (hCq7.out.below bbq16); have hCq21 := n1.below bbq16 n1.lt; have hBq22 := hBq8.trans (bbq16.mono (hBq8.size)); clear hCq6 hCq7 n1 hBq8; clear bbq16 baq11 hNq12 gq15 hsq10) | ((with_reducible show wpList _ _ _ (⟨some 20, _, _, _, _, _⟩ :: _) _ _); refine wpList_load_mid rfl 39 (.tmp 6) rfl (w1.heap.size) 0 (by rfl) (l.map bv) _ (blk_rangeP hKq14) Try.underlying39 rfl (by rw [List.length_map, HL.out]; exact Try.sizeHash) ?_) | ((with_reducible show wpList _ _ _ (⟨none, Op.store _ (.tmp 4) _, _, _, _, _⟩ :: _) _ _); refine wpList_storeBlk rfl 39 (.tmp 4) (.tmp 20) rfl w.heap.size (l.map bv).toArray (by rfl) (by rfl) _ _ hCq21 (by rw [bv_size, HL.out]; exact Try.sizeHash) (by rw [bv_size, HL.out, Z32_size]) (bv_all _) ?_; intro w9 n9 g9; have b9 := below_new hBq22 g9 (Nat.le_refl _) hBq22.size; clear g9))
  refine ret_cellTmp rfl w.heap.size 39 (l.map bv).toArray _ (by rfl) n9 Try.underlying39 rfl (by rw [bv_size, HL.out]; exact Try.sizeHash) rfl ?_
  exact ⟨l, HL.out, HV.out, rfl, by rw [HBS.out]; exact b9⟩
set_option maxHeartbeats 8000000 in
set_option maxRecDepth 100000 in
theorem New_calls (w : World) :
    Calls Try.prog 18 #[] w fun e w' => ∃ b sm nm dm, e = .returned (.pointer (some ⟨b, 0, none⟩)) ∧ BookIs w' w.heap.size b sm nm dm [] (fun _ => none) ∧ Below w.heap.size w w' := by
  obtain ⟨base, hbase⟩ : ∃ base, base = w.heap.size := ⟨_, rfl⟩
  rw [← hbase]
  have HBS : Hid (base = w.heap.size) := hbase
  go_enter Try.func18, Try.ntmps18
  go_wp2_with (first | ((with_reducible show wpList _ _ _ (⟨some 1, _, _, _, _, _⟩ :: _) _ _); refine wpList_makeM rfl 66 rfl strOk strEnc ?_; intro w1 s1 b1 m1; clear s1; have l1 := m1.lt) | ((with_reducible show wpList _ _ _ (⟨some 2, _, _, _, _, _⟩ :: _) _ _); refine wpList_makeM rfl 67 rfl hashOk hashEnc ?_; intro w2 s2 b2 m2; clear s2; have l2 := m2.lt; have m12 := m1.below b2; have b12 := b1.trans (b2.mono b1.size)) | ((with_reducible show wpList _ _ _ (⟨some 3, _, _, _, _, _⟩ :: _) _ _); refine wpList_makeM rfl 68 rfl strOk strEnc ?_; intro w3 s3 b3 m3; clear s3; have l3 := m3.lt; have m13 := m12.below b3; have m23 := m2.below b3; have b13 := b12.trans (b3.mono b12.size)) | ((with_reducible show wpList _ _ _ (⟨some 5, _, _, _, _, _⟩ :: _) _ _); refine wpList_boxA rfl 70 (.tmp 4) rfl #[.slice none 0 0, .map (some w.heap.size), .map (some w1.heap.size), .map (some w2.heap.size)] (by rfl) ?_; intro w4 b4 n4; have m14 := m13.below b4; have m24 := m23.below b4; have m34 := m3.below b4; have b14 := b13.trans (b4.mono b13.size)))
  have e1 := b1.size
  have e2 := b2.size
  have e3 := b3.size
  go_returns
  refine ⟨w3.heap.size, w.heap.size, w1.heap.size, w2.heap.size, rfl, ⟨⟨_, n4, [], World.ownsRow_nil _ _ _ _, rfl, fun i f p hi => by simp at hi⟩, ⟨_, m14.congr (fun x _ => by simp [seenLook])⟩, ⟨_, _, m24, ⟨fun h v _ hv => (by cases hv), fun h _ _ => rfl, fun h h' v v' _ _ _ hv => (by cases hv)⟩⟩, ⟨_, m34⟩, ⟨by omega, by omega, by omega, by omega⟩, ⟨by omega, by omega, by omega⟩⟩, by rw [HBS.out]; exact b14⟩
set_option maxHeartbeats 8000000 in
set_option maxRecDepth 100000 in
theorem Name_calls (base b sm nm dm : Nat) (fs : List FactT) (names : List UInt8 → Option Value) (s h : List UInt8) (w : World) (hb : BookIs w base b sm nm dm fs names) (hs : strOk s) (hh : h.length = 32) (hbw : base ≤ w.heap.size) :
    Calls Try.prog 19 #[.pointer (some ⟨b, 0, none⟩), .string (str s), hashEnc h] w fun e w' => e = .returned (.tuple #[]) ∧ BookIs w' base b sm nm dm fs (fun x => if x = s then some (hashEnc h) else names x) ∧ Frm (fun _ => False) (fun q => q = dm) w w' ∧ Below base w w' := by
  have HBI := Lib.hid hb
  have HS := Lib.hid hs
  have HH := Lib.hid hh
  obtain ⟨⟨fv, hk, -⟩, -, -, ⟨N, hd⟩, hab, -⟩ := hb
  have HAB := Lib.hid hab
  have HD := Lib.hid hd
  clear hs hh hd hab
  have hB0 := Below.refl base w
  go_enter Try.func19, Try.ntmps19
  go_wp2_with ((with_reducible show wpList _ _ _ (⟨some 5, _, _, _, _, _⟩ :: _) _ _); refine wpList_boxA rfl 39 (.tmp 2) rfl (h.map bv).toArray (by rfl) ?_; intro w1 b1 n1; have HF1 : Hid (Frm (fun _ => False) (fun q => q = dm) w w1) := Frm.ofBelow b1; have ltq23 : b < w.heap.size := hk.lt; have hCq24 := hk.below b1 hk.lt; have hCq25 := Lib.hid (HD.out.below b1); have hCq26 := Lib.hid (HBI.out.below b1); have hBq27 := hB0.trans (b1.mono (Nat.le_trans hbw hB0.size)); clear hk HD HBI hB0; clear b1)
  refine wp_region_held_drew (S := fun x => Blk x (b) #[fv, .map (some sm), .map (some nm), .map (some dm)] 70 ∧ Blk x (w.heap.size) (h.map bv).toArray 39 ∧ Below base w x) (by kernel_rfl) ⟨hCq24.drew, n1.drew, below_drewN hBq27 1⟩ (fun hSq28 => ?_)
  have hHq29 := Lib.hid (hCq25.out.drew)
  have hHq30 := Lib.hid (hCq26.out.drew)
  have hHq31 := Lib.hid (HF1.out.drew)
  refine wpAnyH_take (i := 0) (v := Value.pointer (some ⟨b, 0, none⟩)) rfl (by kernel_rfl) (by kernel_rfl) (by kernel_rfl) (fun _ _ _ h => h) (Or.inl ⟨by rfl, fun x hx => by go_simp⟩) hSq28 ?_
  simp only [Act.put, List.getElem_toArray, List.getElem_cons_zero, List.getElem_cons_succ, List.setIfInBounds_toArray, List.set_cons_zero, List.set_cons_succ]
  refine wpAnyH_take (i := 1) (v := Value.pointer (some ⟨b, 0, none⟩)) rfl (by kernel_rfl) (by kernel_rfl) (by kernel_rfl) (fun _ _ _ h => h) (Or.inl ⟨by rfl, fun x hx => by go_simp⟩) hSq28 ?_
  simp only [Act.put, List.getElem_toArray, List.getElem_cons_zero, List.getElem_cons_succ, List.setIfInBounds_toArray, List.set_cons_zero, List.set_cons_succ]
  refine wpAnyH_take (i := 2) (v := Value.pointer (some ⟨b, 3, none⟩)) rfl (by kernel_rfl) (by kernel_rfl) (by kernel_rfl) (fun _ _ _ h => h) (Or.inl ⟨by rfl, fun x hx => by go_simp⟩) hSq28 ?_
  simp only [Act.put, List.getElem_toArray, List.getElem_cons_zero, List.getElem_cons_succ, List.setIfInBounds_toArray, List.set_cons_zero, List.set_cons_succ]
  refine wpAnyH_take (i := 3) (v := Value.map (some dm)) rfl (by kernel_rfl) (by kernel_rfl) (by kernel_rfl) (fun _ _ _ h => h) (Or.inl ⟨by rfl, fun x hx => by have hc := hx.1.cell 3 _ rfl; go_simp⟩) hSq28 ?_
  simp only [Act.put, List.getElem_toArray, List.getElem_cons_zero, List.getElem_cons_succ, List.setIfInBounds_toArray, List.set_cons_zero, List.set_cons_succ]
  refine wpAnyH_take (i := 4) (v := Value.string (str s)) rfl (by kernel_rfl) (by kernel_rfl) (by kernel_rfl) (fun _ _ _ h => h) (Or.inl ⟨by rfl, fun x hx => by go_simp⟩) hSq28 ?_
  simp only [Act.put, List.getElem_toArray, List.getElem_cons_zero, List.getElem_cons_succ, List.setIfInBounds_toArray, List.set_cons_zero, List.set_cons_succ]
  refine wpAnyH_take (i := 5) rfl (by kernel_rfl) (by kernel_rfl) (by kernel_rfl) (fun _ _ _ h => h) (yieldsIf_load_mid (by rfl) 39 (.tmp 5) rfl (w.heap.size) 0 (by rfl) (h.map bv) _ (fun x hx => blk_rangeP hx.2.1) Try.underlying39 rfl (by rw [List.length_map, HH.out]; exact Try.sizeHash)) hSq28 ?_
  simp only [Act.put, List.getElem_toArray, List.getElem_cons_zero, List.getElem_cons_succ, List.setIfInBounds_toArray, List.set_cons_zero, List.set_cons_succ]
  refine wpAnyH_ready (rs := [6]) (by kernel_rfl) (by simp) ?_
  refine AllReadyH.cons rfl (fun K hK => ?_) AllReadyH.nil
  rw [if_pos (by rfl)]
  refine wp_upd Try.strKey (.tmp 11) (.tmp 12) (.tmp 13) 68 39 rfl Try.underlying68 dm _ _ (by rfl) hHq29.out s HS.out (by rfl) (hashEnc h) (by rfl) ?_
  intro yq32 hmq33 grq34
  have hfq38 : Frm (fun _ => False) (fun q => q = dm) (World.drew w1) yq32 := Frm.grownMap hHq29.out grq34 rfl
  have HFRq37 := Lib.hid (hHq31.out.trans hfq38)
  have HBIq36 : Hid (BookIs yq32 base b sm nm dm fs (fun x => if x = s then some (hashEnc h) else names x)) := BookIs.setNames hHq30.out hfq38 hmq33
  refine hK.out _ _ ⟨hSq28.1.frm hfq38 id, hSq28.2.1.frm hfq38 id, hSq28.2.2.grown grq34 (Nat.le_trans hbw hSq28.2.2.size) (fun q e => by cases e; exact HAB.out.2.2.2)⟩ (fun hSq35 => ?_)
  clear hK K hSq28 hmq33 grq34 hfq38
  refine wpAnyH_done (by kernel_rfl) ?_ _
  have hBz := Lib.hid hSq35.2.2
  clear hSq35
  go_wp2_with fail
  go_returns
  exact ⟨rfl, HBIq36.out, HFRq37.out, hBz.out⟩
set_option maxHeartbeats 8000000 in
set_option maxRecDepth 100000 in
theorem Knows_calls (pv v : Value) (h : HsT) (a : List HsT) (fs : List FactT) (w : World) (hh : h.length = 32) (hcall : ∀ w', Below w.heap.size w w' → Calls Try.prog 24 #[pv, v] w' (KnownPost w' a fs)) (D : Bool) (hD : D = true ↔ Fol fs a h) :
    Calls Try.prog 15 #[pv, hashEnc h, v] w fun e w' => e = .returned (.bool D) ∧ Below w.heap.size w w' := by
  have HH := Lib.hid hh
  have HC := Lib.hid hcall
  have HD := Lib.hid hD
  obtain ⟨base, hbase⟩ : ∃ base, base = w.heap.size := ⟨_, rfl⟩
  have HBS : Hid (base = w.heap.size) := hbase
  rw [← hbase] at HC ⊢
  clear hh hcall hD
  go_enter Try.func15, Try.ntmps15
  go_wp2_with (first | ((with_reducible show wpList _ _ _ (⟨some 4, _, _, _, _, _⟩ :: _) _ _); refine wpList_boxA rfl 39 (.tmp 1) rfl (h.map bv).toArray (by rfl) ?_; intro w1 b1 n1))
  have b2 : Below base w w1 := by rw [HBS.out]; exact b1
  clear b1
  refine wp_region_held_drew (S := fun x => Blk x (w.heap.size) (h.map bv).toArray 39 ∧ Below base w x) (by kernel_rfl) ⟨n1.drew, below_drewN b2 1⟩ (fun hSq39 => ?_)
  refine wpAnyH_take (i := 0) (v := pv) rfl (by kernel_rfl) (by kernel_rfl) (by kernel_rfl) (fun _ _ _ h => h) (Or.inl ⟨by rfl, fun x hx => by go_simp⟩) hSq39 ?_
  simp only [Act.put, List.getElem_toArray, List.getElem_cons_zero, List.getElem_cons_succ, List.setIfInBounds_toArray, List.set_cons_zero, List.set_cons_succ]
  refine wpAnyH_take (i := 1) (v := v) rfl (by kernel_rfl) (by kernel_rfl) (by kernel_rfl) (fun _ _ _ h => h) (Or.inl ⟨by rfl, fun x hx => by go_simp⟩) hSq39 ?_
  simp only [Act.put, List.getElem_toArray, List.getElem_cons_zero, List.getElem_cons_succ, List.setIfInBounds_toArray, List.set_cons_zero, List.set_cons_succ]
  refine wpAnyH_take (i := 3) rfl (by kernel_rfl) (by kernel_rfl) (by kernel_rfl) (fun _ _ _ h => h) (yieldsIf_load_mid (by rfl) 39 (.tmp 4) rfl (w.heap.size) 0 (by rfl) (h.map bv) _ (fun x hx => blk_rangeP hx.1) Try.underlying39 rfl (by rw [List.length_map, HH.out]; exact Try.sizeHash)) hSq39 ?_
  simp only [Act.put, List.getElem_toArray, List.getElem_cons_zero, List.getElem_cons_succ, List.setIfInBounds_toArray, List.set_cons_zero, List.set_cons_succ]
  refine wpAnyH_ready (rs := [2]) (by kernel_rfl) (by simp) ?_
  refine AllReadyH.cons rfl (fun K hK => ?_) AllReadyH.nil
  go_simp
  have hcl := HC.out _ hSq39.2
  go_wp2_with (go_at_call 24; refine hcl.mono ?_; rintro e yq40 ⟨mbq42, OOq43, rfl, hmq44, hnd, h32, HWq46, hOl, bqq47⟩; have HMq45 := Lib.hid hmq44; have HWq462 := Lib.hid HWq46; clear hmq44 hnd h32 HWq46 hOl)
  clear hcl
  refine hK.out _ _ ⟨hSq39.1.below bqq47 hSq39.1.lt, hSq39.2.trans (bqq47.mono (Nat.le_trans (Nat.le_of_eq HBS.out) hSq39.2.size))⟩ (fun hSq41 => ?_)
  clear hK K hSq39 bqq47
  refine wpAnyH_ready (rs := [4]) (by kernel_rfl) (by simp) ?_
  refine AllReadyH.cons rfl (fun K hK => ?_) AllReadyH.nil
  rw [if_pos (by rfl)]
  refine wp_look Try.hashKey (.tmp 9) (.tmp 10) 62 4 rfl Try.underlying62 (.bool false) (Try.zeroBool _) mbq42 _ _ (by rfl) HWq462.out h HH.out (by rfl) ?_
  rw [outLook_get OOq43 h D (by rw [HD.out, HMq45.out])]
  refine hK.out _ _ hSq41 (fun hSq48 => ?_)
  clear hK K hSq41
  refine wpAnyH_ready (rs := [5]) (by kernel_rfl) (by simp) ?_
  refine AllReadyH.cons rfl (fun K hK => ?_) AllReadyH.nil
  go_simp
  refine hK.out _ _ hSq48 (fun hSq49 => ?_)
  clear hK K hSq48
  refine wpAnyH_done (by kernel_rfl) ?_ _
  have hBz := Lib.hid hSq49.2
  clear hSq49
  go_wp2_with fail
  go_returns
  exact ⟨rfl, hBz.out⟩
end Go.Proofs.Ytjjmcogdohnhjaa
