/-
  prim.Derive, Mix, Pub with a book, or none.
  bevyref05.Made; digests that a literal holds.
-/
import Derived.Test.YtjlpdbaknhbgdaaBkSt
import Derived.Test.YtjlpdbaknhbgdaaPrimDerive
import Derived.Test.YtjlpdbaknhbgdaaBookRefFol
import Derived.WalkLawsBesides
import Derived.Outline
import Derived.Handy
import Derived.Laws.AppendOwnNone
set_option linter.unusedSimpArgs false
set_option linter.unusedVariables false
namespace Go.Proofs.Ytjlpdbaknhbgdaa
open Go.RowKit

set_option maxHeartbeats 8000000 in
set_option maxRecDepth 100000 in
theorem PDeriveO_calls {A : Nat → Prop} (key label context : List UInt8) (B : Nat) (o : Option BkSt) (pv : Value) (hpv : pv = bkPtr o) (w : World) (ho : BkAt A w B o) (hr : BkRoom 1 o) (hB : B ≤ w.heap.size) (hAw : ∀ q, A q → q < w.heap.size) (hk : key.length = 32) (hl : label.length ≤ 68719476736) (hc : context.length ≤ 68719476736) :
    Calls Try.prog 7 #[pv, .agg (key.map bv).toArray, .string (str label), .string (str context)] w fun e w' => e = .returned (.agg ((derive key label context).map bv).toArray) ∧ BkAt A w' B (bkNote o ⟨[key], [(derive key label context)]⟩) ∧ BkFrm A o w w' ∧ Below B w w' := by
  subst hpv
  have HO := Lib.hid ho
  have HRM := Lib.hid hr
  have HAW := Lib.hid hAw
  clear ho hr hAw
  have HK := Lib.hid hk
  clear hk
  obtain ⟨y, hy⟩ : ∃ y, y = derive key label context := ⟨_, rfl⟩
  have HY : Hid (y.length = 32) := by show _ = _; rw [hy]; exact hmac_len _ _
  have HYV := Lib.hid hy
  rw [← hy]
  have c1 : ∀ x, Calls Try.prog 25 #[.agg (key.map bv).toArray, .string (str label), .string (str context)] x fun e w' => e = .returned (.agg (y.map bv).toArray) ∧ Below x.heap.size x w' := by rw [hy]; exact fun x => Derive_calls key label context x HK.out hl hc
  clear hy
  have hB0 := Below.refl w.heap.size w
  go_enter Try.func7, Try.ntmps7
  go_wp2_with (first | ((with_reducible show wpList _ _ _ (⟨some 5, _, _, _, _, _⟩ :: _) _ _); refine wpList_boxA rfl 26 (.tmp 1) rfl (key.map bv).toArray (by rfl) ?_; intro wq1 bq2 nq3; have hBq4 := hB0.trans (bq2.mono (hB0.size)); clear hB0; clear bq2) | ((with_reducible show wpList _ _ _ (⟨some 8, _, _, _, _, _⟩ :: _) _ _); refine wpList_allocZ rfl 26 rfl _ Try.zeroHash ?_; intro wq5 hsq6 baq7 hNq8; have HR1 : Hid (w.heap.size ≤ wq1.heap.size) := hBq4.size; have ltq9 : w.heap.size < wq1.heap.size := nq3.lt; have hCq10 := nq3.below baq7 nq3.lt; have hBq11 := hBq4.trans (baq7.mono (hBq4.size)); clear nq3 hBq4; clear baq7 hsq6) | ((with_reducible show wpList _ _ _ (⟨some 10, _, _, _, _, _⟩ :: _) _ _); refine wpList_load_mid rfl 26 (.tmp 5) rfl (w.heap.size) 0 (by rfl) (key.map bv) _ (blk_rangeP hCq10) Try.underlying26 rfl (by rw [List.length_map, HK.out]; exact Try.sizeHash) ?_))
  have ltq14 : w.heap.size < wq5.heap.size := hCq10.lt
  have ltq15 : wq1.heap.size < wq5.heap.size := hNq8.lt
  refine (c1 _).mono ?_
  rintro e wq12 ⟨rfl, bq13⟩
  have hCq16 := hCq10.below bq13 hCq10.lt
  have hCq17 := hNq8.below bq13 hNq8.lt
  have hBq18 := hBq11.trans (bq13.mono (hBq11.size))
  clear hCq10 hNq8 hBq11
  clear bq13
  go_wp2_with (first | ((with_reducible show wpList _ _ _ (⟨some 9, _, _, _, _, _⟩ :: _) _ _); refine wpList_allocZ rfl 26 rfl _ Try.zeroHash ?_; intro wq19 hsq20 baq21 hNq22) | ((with_reducible show wpList _ _ _ (⟨none, Op.store _ (.tmp 9) _, _, _, _, _⟩ :: _) _ _); refine wpList_storeBlk rfl 26 (.tmp 9) (.tmp 13) rfl (wq12.heap.size) ((y.map bv).toArray) (by rfl) (by rfl) _ _ hNq22 (by rw [bv_size, HY.out]; exact Try.sizeHash) (by rw [bv_size, HY.out, Z32_size]) (bv_all _) ?_; intro wq23 hKq24 gq25; have bbq26 := below_new baq21 gq25 (Nat.le_refl _) baq21.size; have ltq27 : w.heap.size < wq12.heap.size := hCq16.lt; have ltq28 : wq1.heap.size < wq12.heap.size := hCq17.lt; have hCq29 := hCq16.below bbq26 hCq16.lt; have hCq30 := hCq17.below bbq26 hCq17.lt; have hBq31 := hBq18.trans (bbq26.mono (hBq18.size)); clear hCq16 hCq17 hBq18; clear bbq26 baq21 hNq22 gq25 hsq20) | ((with_reducible show wpList _ _ _ (⟨some 15, _, _, _, _, _⟩ :: _) _ _); refine wpList_load_mid rfl 26 (.tmp 5) rfl (w.heap.size) 0 (by rfl) (key.map bv) _ (blk_rangeP hCq29) Try.underlying26 rfl (by rw [List.length_map, HK.out]; exact Try.sizeHash) ?_) | ((with_reducible show wpList _ _ _ (⟨some 16, _, _, _, _, _⟩ :: _) _ _); refine wpList_bsH rfl 23 26 (.tmp 15) rfl key HK.out (by rfl) Try.underlying23 Try.infoHash2 ?_; intro qq32 wq33 eqq34 szq35 bbq36 hNq37; have ltq38 : w.heap.size < wq23.heap.size := hCq29.lt; have ltq39 : wq1.heap.size < wq23.heap.size := hCq30.lt; have ltq40 : wq12.heap.size < wq23.heap.size := hKq24.lt; have hCq41 := hCq29.below bbq36 hCq29.lt; have hCq42 := hCq30.below bbq36 hCq30.lt; have hCq43 := hKq24.below bbq36 hKq24.lt; have hBq44 := hBq31.trans (bbq36.mono (hBq31.size)); clear hCq29 hCq30 hKq24 hBq31; clear bbq36 eqq34 szq35) | ((with_reducible show wpList _ _ _ (⟨some 17, _, _, _, _, _⟩ :: _) _ _); refine wpList_load_mid rfl 26 (.tmp 9) rfl (wq12.heap.size) 0 (by rfl) (y.map bv) _ (blk_rangeP hCq43) Try.underlying26 rfl (by rw [List.length_map, HY.out]; exact Try.sizeHash) ?_) | ((with_reducible show wpList _ _ _ (⟨some 18, _, _, _, _, _⟩ :: _) _ _); refine wpList_bsH rfl 23 26 (.tmp 17) rfl y HY.out (by rfl) Try.underlying23 Try.infoHash2 ?_; intro qq45 wq46 eqq47 szq48 bbq49 hNq50; have ltq51 : w.heap.size < wq33.heap.size := hCq41.lt; have ltq52 : wq1.heap.size < wq33.heap.size := hCq42.lt; have ltq53 : wq12.heap.size < wq33.heap.size := hCq43.lt; have ltq54 : qq32 < wq33.heap.size := hNq37.lt; have hCq55 := hCq41.below bbq49 hCq41.lt; have hCq56 := hCq42.below bbq49 hCq42.lt; have hCq57 := hCq43.below bbq49 hCq43.lt; have hCq58 := hNq37.below bbq49 hNq37.lt; have hBq59 := hBq44.trans (bbq49.mono (hBq44.size)); clear hCq41 hCq42 hCq43 hNq37 hBq44; clear bbq49 eqq47 szq48) | ((with_reducible show wpList _ _ _ (⟨some 19, _, _, _, _, _⟩ :: _) _ _); refine wpList_buildCells rfl 68 #[(0, .tmp 16), (1, .tmp 18)] rfl (#[.slice (some ⟨qq32, 0, none⟩) 1 1, .slice (some ⟨qq45, 0, none⟩) 1 1]) (by kernel_rfl) ?_))
  have hr1 : w.heap.size ≤ wq1.heap.size := HR1.out
  have hr2 : wq1.heap.size < wq46.heap.size := hCq56.lt
  go_wp2_with fail
  have ltq60 : w.heap.size < wq46.heap.size := hCq55.lt
  have ltq61 : wq1.heap.size < wq46.heap.size := hCq56.lt
  have ltq62 : wq12.heap.size < wq46.heap.size := hCq57.lt
  have ltq63 : qq32 < wq46.heap.size := hCq58.lt
  have ltq64 : qq45 < wq46.heap.size := hNq50.lt
  have HW1 : Hid (Below w.heap.size w wq46) := hBq59
  refine (NoteO_calls (A := wideA A w wq46.heap.size) _ _ ⟨[key], [y]⟩ B o _ (HO.out.wide HW1.out) (fun w' f b => ⟨HashesAt.one (hCq58.frm f (by unfold NT; decide)) HK.out (by omega), HashesAt.one (hNq50.frm f (by unfold NT; decide)) HY.out (by omega)⟩) (FOk.of11 HK.out HY.out) HRM.out (Nat.le_trans hB HW1.out.size) (wideA_le HAW.out HW1.out)).mono ?_
  rintro e wq65 ⟨rfl, hbk, hf, hbb⟩
  have hCq66 := hCq55.frm hf (by unfold NT; decide)
  have hCq67 := hCq56.frm hf (by unfold NT; decide)
  have hCq68 := hCq57.frm hf (by unfold NT; decide)
  have hCq69 := hCq58.frm hf (by unfold NT; decide)
  have hCq70 := hNq50.frm hf (by unfold NT; decide)
  have HBK := Lib.hid hbk
  have HFR := Lib.hid hf
  have HBB := Lib.hid hbb
  clear hbk hf hbb hBq59 hCq55 hCq56 hCq57 hCq58 hNq50
  go_wp2_with (first | ((with_reducible show wpList _ _ _ (⟨some 21, _, _, _, _, _⟩ :: _) _ _); refine wpList_load_mid rfl 26 (.tmp 9) rfl (wq12.heap.size) 0 (by rfl) (y.map bv) _ (blk_rangeP hCq68) Try.underlying26 rfl (by rw [List.length_map, HY.out]; exact Try.sizeHash) ?_) | ((with_reducible show wpList _ _ _ (⟨none, Op.store _ (.tmp 8) _, _, _, _, _⟩ :: _) _ _); refine wpList_storeBlk rfl 26 (.tmp 8) (.tmp 21) rfl (wq1.heap.size) ((y.map bv).toArray) (by rfl) (by rfl) _ _ hCq67 (by rw [bv_size, HY.out]; exact Try.sizeHash) (by rw [bv_size, HY.out, Z32_size]) (bv_all _) ?_; intro wq71 hKq72 gq73))
  have hfin := bk_done HW1.out HFR.out HBB.out HBK.out hB (r := wq1.heap.size) hr1 hr2 gq73
  refine ret_blk rfl (wq1.heap.size) _ _ _ (by rfl) hKq72 Try.underlying26 rfl (by rw [bv_size, HY.out]; exact Try.sizeHash) rfl ?_
  exact ⟨rfl, hfin⟩
end Go.Proofs.Ytjlpdbaknhbgdaa
set_option linter.unusedSimpArgs false
set_option linter.unusedVariables false
namespace Go.Proofs.Ytjlpdbaknhbgdaa
open Go.RowKit

theorem Try.zeroRF : (Try.prog.info? 35).bind (·.zero) = some (.agg #[.slice none 0 0, .slice none 0 0]) := by kernel_rfl
set_option maxHeartbeats 16000000 in
set_option maxRecDepth 100000 in
theorem Made_calls (a1 a2 : Option Addr) (n1 c1 n2 c2 : Nat) (w : World) :
    Calls Try.prog 6 #[.slice a1 n1 c1, .slice a2 n2 c2] w fun e w' => e = .returned (.agg #[.slice a2 n2 c2, .slice a1 n1 c1]) ∧ Below w.heap.size w w' := by
  obtain ⟨base, hbase⟩ : ∃ base, base = w.heap.size := ⟨_, rfl⟩
  rw [← hbase]
  go_enter Try.func6, Try.ntmps6
  go_wp2_with (first | ((with_reducible show wpList _ _ _ (⟨some 4, _, _, _, _, _⟩ :: _) _ _); refine wpList_allocZ rfl 35 rfl _ Try.zeroRF ?_; intro w1 s1 b1 q1) | ((with_reducible show wpList _ _ _ (⟨some 7, _, _, _, _, _⟩ :: _) _ _); refine wpList_buildCells rfl 35 #[(0, .tmp 5), (1, .tmp 6)] rfl #[.slice a2 n2 c2, .slice a1 n1 c1] (by kernel_rfl) ?_) | ((with_reducible show wpList _ _ _ (⟨none, Op.store _ (.tmp 4) _, _, _, _, _⟩ :: _) _ _); refine wpList_storeBlk rfl 35 (.tmp 4) (.tmp 7) rfl w.heap.size #[.slice a2 n2 c2, .slice a1 n1 c1] (by rfl) (by rfl) _ _ q1 Try.sizeRF rfl (by simp [Value.oneCell']) ?_; intro w2 q2 g2; have b2 := below_new b1 g2 (Nat.le_refl _) b1.size))
  refine ret_blk rfl w.heap.size _ _ _ (by rfl) q2 Try.underlying35 rfl Try.sizeRF rfl ?_
  exact ⟨rfl, by rw [hbase]; exact b2⟩
/-- A slice literal of digests. -/
theorem wpList_bsHs {P : Program} {ops : Array Oper} {rest : List Oper} {o : Oper} {a : Act} {w : World} {Q : Exit → Act → World → Prop} (hgd : o.guard = none) (t e : TypeId) (n : Nat) (parts : Array (Nat × Operand)) (ho : o.op = .buildSlice t n parts) (L : List (List UInt8)) (hn : L.length = n) (h0 : 0 < n) (h9 : n ≤ 1000) (hL : ∀ h ∈ L, h.length = 32)
    (hx : (parts.map fun (i, x) => (i, a.eval x)).toList = ((L.map fun h => Value.agg (h.map bv).toArray).zipIdx 0).map fun x => (x.2, x.1)) (hu : P.underlying t = some (.slice e)) (hz : (P.info? e).map (fun i => (i.zero, i.size)) = some (some (.agg Z32), 32))
    (hK : ∀ g w', g = w.heap.size → w'.heap.size = g + 1 → Below w.heap.size w w' → HashOwn w' g e (.slice (some ⟨g, 0, none⟩) n n) L → wpList P ops Q rest (a.put o.dst (.slice (some ⟨g, 0, none⟩) n n)) w') : wpList P ops Q (o :: rest) a w := by
  subst hn
  refine wpList_plain hgd fun K hk => ?_
  have hcat : ∀ l : List (List UInt8), (∀ h ∈ l, h.length = 32) → (l.flatMap (·.map bv)).length = l.length * 32 := fun l hl => by
    induction l with
    | nil => rfl
    | cons q l ih => rw [List.flatMap_cons, List.length_append, List.length_map, hl q List.mem_cons_self, ih (fun h hh => hl h (List.mem_cons_of_mem _ hh)), List.length_cons]; omega
  cases hi : P.info? e with
  | none => simp [hi] at hz
  | some ie =>
    simp [hi] at hz
    obtain ⟨hz1, hz2⟩ := hz
    refine Go.wp_buildSlice t e L.length parts ho (L.flatMap (·.map bv)).toArray ie (.agg Z32) hu hi hz1 (by rw [hz2]; omega) (by rw [hz2]; omega) ?_ (hk _ _ (hK _ _ rfl (by simp) (below_alloc1 _ _) ⟨hL, by rw [hcat L hL], .inr ⟨w.heap.size, L.length, (L.flatMap (·.map bv)).toArray, rfl, Nat.le_refl _, heap_alloc_new w _, Nat.le_refl _, by unfold maxLen; omega, by simp only [List.size_toArray]; rw [hcat L hL], by rw [List.take_of_length_le (by simp only [List.toList_toArray]; rw [hcat L hL]; omega)]⟩⟩))
    rw [hx, hz2, Go.Great.fill_whole (by omega) (L.map fun h => Value.agg (h.map bv).toArray) _ (by simp only [List.mem_map, forall_exists_index, and_imp, forall_apply_eq_imp_iff₂]; intro h hh; simp [Value.cells, hL h hh]) (by simp)]
    congr 1
    rw [List.flatMap_map]
    simp [Value.cells]
/-- append of a whole slice of digests. -/
theorem wpList_append_hsM {P : Program} {ops : Array Oper} {rest : List Oper} {o : Oper} {a : Act} {w : World} {Q : Exit → Act → World → Prop} (hgd : o.guard = none) (s x : Operand) (t : TypeId)
    (ho : o.op = .call { callee := .builtin .append, args := #[s, x], argTypes := #[t, t] }) (base : Nat) (e : TypeId) (ht : P.underlying t = some (.slice e)) (hi : P.info? e = P.info? e ∧ (P.info? e).map (fun i => (i.zero, i.size, i.bytes)) = some (some (.agg Z32), 32, 32))
    (v : Value) (L L2 : List (List UInt8)) (hs : a.eval s = v) (hown : HashOwn w base e v L) (v2 : Value) (hx : a.eval x = v2) (h2 : HashesAt w v2 L2) (hn : L.length + L2.length ≤ 1000000) (hbase : base ≤ w.heap.size)
    (hK : ∀ v' w', HashOwn w' base e v' (L ++ L2) → w.grownBy w' v.ownBlock → wpList P ops Q rest (a.put o.dst v') w') : wpList P ops Q (o :: rest) a w := by
  obtain ⟨i, hi1, hz, hsz, hby⟩ := info_parts hi.2
  have e1 : (L ++ L2).flatMap (·.map bv) = L.flatMap (·.map bv) ++ L2.flatMap (·.map bv) := by simp
  have hfl : ∀ l : List (List UInt8), (∀ h ∈ l, h.length = 32) → (l.flatMap (·.map bv)).length = l.length * 32 := fun l hl => by
    induction l with
    | nil => rfl
    | cons q l ih => rw [List.flatMap_cons, List.length_append, List.length_map, hl q List.mem_cons_self, ih (fun h hh => hl h (List.mem_cons_of_mem _ hh)), List.length_cons]; omega
  have hone : ∀ u ∈ L2.flatMap (·.map bv), u.oneCell' = true := fun u hu => by
    obtain ⟨q, _, hq⟩ := List.mem_flatMap.1 hu
    exact bs_one q u hq
  have h32 : ∀ q ∈ L ++ L2, q.length = 32 := fun q hq => by
    rcases List.mem_append.1 hq with hq | hq
    · exact hown.1 q hq
    · exact h2.1 q hq
  rcases h2.2 with ⟨rfl, ao, rfl⟩ | ⟨g, o', c, rfl, hc, hlt, hcell⟩
  · cases ao with
    | none =>
      refine wpList_append_own_none hgd s x t ho base e i 32 ht hi1 v _ _ hs hown.2 hx (hK v w (by rw [List.append_nil]; exact hown) (World.grownBy.refl _ _))
    | some ad =>
      refine wpList_plain hgd fun K hk => wp_append_own w s x t ho base e i (.agg Z32) 32 32 ht hi1 hz hsz hby rfl (by decide) v _ _ hs hown.2 ad 0 0 [] hx (by simp) (fun j u hj => by simp at hj) (fun u hu => by cases hu) (by unfold maxLen; omega) (by omega) hbase fun v' w' g2 g3 _ => hk _ _ (hK v' w' ⟨h32, ?_⟩ g3)
      rw [List.append_nil] at g2 ⊢
      exact g2
  · refine wpList_plain hgd fun K hk => wp_append_own w s x t ho base e i (.agg Z32) 32 32 ht hi1 hz hsz hby rfl (by decide) v _ _ hs hown.2 ⟨g, o', none⟩ L2.length c (L2.flatMap (·.map bv)) hx (hfl L2 h2.1) (fun j u hj => by rw [Addr.add_mid]; exact hcell j u hj) hone (by unfold maxLen; omega) (by omega) hbase fun v' w' g2 g3 _ => hk _ _ (hK v' w' ⟨h32, ?_⟩ g3)
    rw [e1, List.length_append]
    exact g2
/-- append of digests to a full slice: a new row. -/
theorem wpList_append_full {P : Program} {ops : Array Oper} {rest : List Oper} {o : Oper} {a : Act} {w : World} {Q : Exit → Act → World → Prop} (hgd : o.guard = none) (s x : Operand) (t : TypeId)
    (ho : o.op = .call { callee := .builtin .append, args := #[s, x], argTypes := #[t, t] }) (e : TypeId) (ht : P.underlying t = some (.slice e)) (hi : (P.info? e).map (fun i => (i.zero, i.size, i.bytes)) = some (some (.agg Z32), 32, 32))
    (g n : Nat) (L : List (List UInt8)) (hs : a.eval s = .slice (some ⟨g, 0, none⟩) n n) (hL : HashesAt w (.slice (some ⟨g, 0, none⟩) n n) L) (g2 m c : Nat) (L2 : List (List UInt8)) (hx : a.eval x = .slice (some ⟨g2, 0, none⟩) m c) (hL2 : HashesAt w (.slice (some ⟨g2, 0, none⟩) m c) L2) (hn : n = L.length) (hm : m = L2.length) (h0 : 0 < m) (N : Nat) (hN : N = n + m) (hlen : L.length + L2.length ≤ 1000000)
    (hK : ∀ g' c' w', w.heap.size ≤ g' → HashesAt w' (.slice (some ⟨g', 0, none⟩) N c') (L ++ L2) → Below w.heap.size w w' → wpList P ops Q rest (a.put o.dst (.slice (some ⟨g', 0, none⟩) N c')) w') : wpList P ops Q (o :: rest) a w := by
  subst hN
  obtain ⟨i, hi1, hz, hsz, hby⟩ := info_parts hi
  have hcat : ∀ l : List (List UInt8), (∀ h ∈ l, h.length = 32) → (l.flatMap (·.map bv)).length = l.length * 32 := fun l hl => by
    induction l with
    | nil => rfl
    | cons q l ih => rw [List.flatMap_cons, List.length_append, List.length_map, hl q List.mem_cons_self, ih (fun h hh => hl h (List.mem_cons_of_mem _ hh)), List.length_cons]; omega
  have hcell : ∀ {g n c : Nat} {l : List (List UInt8)}, HashesAt w (.slice (some ⟨g, 0, none⟩) n c) l → ∀ j u, (l.flatMap (·.map bv))[j]? = some u → w.cell? ⟨g, 0 + j, none⟩ = some u := fun h j u hj => by
    rcases h.2 with ⟨rfl, ao, he⟩ | ⟨g', o', c', he, _, _, hc⟩
    · simp at hj
    · simp only [Value.slice.injEq, Option.some.injEq, Addr.mk.injEq] at he
      obtain ⟨⟨rfl, rfl, _⟩, _, _⟩ := he
      exact hc j u hj
  refine wpList_append_arg w hgd s x t ho e i (.agg Z32) 32 32 ht hi1 hz hsz hby rfl (by decide) g 0 n n (L.flatMap (·.map bv)) hs (by rw [hcat L hL.1, hn]) (hcell hL) ⟨g2, 0, none⟩ m c (L2.flatMap (·.map bv)) hx (by rw [hcat L2 hL2.1, hm]) (fun j u hj => by rw [Addr.add_lit]; exact hcell hL2 j u hj) (fun u hu => by
    obtain ⟨q, _, hq⟩ := List.mem_flatMap.1 hu
    exact bs_one q u hq) (fun hle => by omega) (by unfold maxLen; omega) (by omega) (fun hle => by omega) fun _ v' w' hown hgr => ?_
  have h32 : ∀ q ∈ L ++ L2, q.length = 32 := fun q hq => by
    rcases List.mem_append.1 hq with hq | hq
    · exact hL.1 q hq
    · exact hL2.1 q hq
  rw [← List.flatMap_append] at hown
  have hat := HashesAt.own hown h32 (by rw [List.length_append]; omega)
  obtain ⟨ao, c', rfl⟩ := own_slice hown
  rcases hown.2 with ⟨h1, h2⟩ | ⟨g', cap, cur, h1, h2, -⟩
  · omega
  · simp only [Value.slice.injEq] at h1
    obtain ⟨rfl, _, rfl⟩ := h1
    exact hK g' _ w' h2 hat ⟨hgr.os, hgr.tape, hgr.output, hgr.size, fun k hk => hgr.block k hk (by simp)⟩
theorem HashesAt.sliceM {w : World} {v : Value} {l : List HsT} (h : HashesAt w v l) : ∃ ao n c, v = .slice ao n c ∧ n = l.length := by
  obtain ⟨ao, c, e, -⟩ := h.slice
  exact ⟨_, _, _, e, rfl⟩
theorem noteT_outs (fs : List FactT) (f : FactT) : ((noteT fs f).flatMap (·.outs)).length ≤ (fs.flatMap (·.outs)).length + f.outs.length := by
  unfold noteT
  split
  · omega
  · rw [List.flatMap_append, List.length_append]; simp
theorem HashOwn.one {w : World} {base q : Nat} {e : TypeId} {h : HsT} (hg : Blk w q (h.map bv).toArray e) (hh : h.length = 32) (hb : base ≤ q) : HashOwn w base e (.slice (some ⟨q, 0, none⟩) 1 1) [h] :=
  ⟨fun x hx => by rw [List.mem_singleton.1 hx]; exact hh, by simp [hh], .inr ⟨q, 1, (h.map bv).toArray, rfl, hb, hg, Nat.le_refl _, by unfold maxLen; omega, by simp [hh], by rw [List.take_of_length_le (by simp [hh])]; simp⟩⟩
end Go.Proofs.Ytjlpdbaknhbgdaa
