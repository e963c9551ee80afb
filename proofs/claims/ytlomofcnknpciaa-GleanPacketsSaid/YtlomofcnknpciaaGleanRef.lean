/-
  bevyref15.Has, bevyref19.put, Want, SameIds.
-/
import Derived.Test.YtlomofcnknpciaaGleanWant
import Derived.Test.YtlomofcnknpciaaShaCmp
import Derived.Test.YtlomofcnknpciaaRd
import Derived.WalkLawsBesides
import Derived.Laws.AppendOwnNone
import Derived.Outline
import Derived.Handy
import Derived.Deep.RegionHeld
set_option linter.unusedSimpArgs false
set_option linter.unusedVariables false
namespace Go.Proofs.Ytlomofcnknpciaa
open Go.RowKit

set_option maxHeartbeats 4000000 in
set_option maxRecDepth 100000 in
theorem Has15_calls (v : Value) (l : List (List UInt8)) (h : List UInt8) (hh : h.length = 32) (w : World) (hl : HashesAt w v l) (hn : l.length ≤ 1000000) :
    Calls Try.prog 45 #[v, .agg (h.map bv).toArray] w fun e w' => e = .returned (.bool (decide (h ∈ l))) ∧ Below w.heap.size w w' := by
  obtain ⟨ao, c, rfl, hc⟩ := hl.slice
  have hb0 := below_alloc1 w (.cells (h.map bv).toArray 23)
  have hA0 := Blk.new w (h.map bv).toArray 23
  have H := Lib.hid (hl.below hb0)
  obtain ⟨n, hne⟩ : ∃ n, n = l.length := ⟨_, rfl⟩
  rw [← hne] at hc hn H ⊢
  have HN := Lib.hid hne
  have HH := Lib.hid hh
  obtain ⟨D, hD⟩ : ∃ D, D = decide (h ∈ l) := ⟨_, rfl⟩
  rw [← hD]
  have HD := Lib.hid hD
  obtain ⟨W, hW⟩ : ∃ W, W = w.alloc (.cells (h.map bv).toArray 23) := ⟨_, rfl⟩
  rw [← hW] at hb0 hA0 H
  have HA := Lib.hid hA0
  have HB0 := Lib.hid hb0
  have h32 := Lib.hid hl.1
  clear hl hne hh hD hA0 hb0
  go_enter Try.func45, Try.ntmps45
  go_wp2_with fail
  rw [← hW]
  clear hW
  go_loopw [5] (fun i wr => ∃ (k : Nat), k ≤ n ∧ i = .int .i64 (k : Nat) ∧ Hid (h ∉ l.take k) ∧ Hid (∃ q, wr = W.drewN q)) (fun i _ => n - (intOf i).toNat)
  case atStart => exact ⟨0, by omega, rfl, Lib.hid (by simp), Lib.hid ⟨0, rfl⟩⟩
  case round =>
    obtain ⟨k, hk, rfl, HK, HQ⟩ := hrel
    obtain ⟨q, rfl⟩ := HQ.out
    clear HQ
    by_cases hlt : k < n
    · obtain ⟨s, hs⟩ : ∃ s, l[k]? = some s := ⟨l[k]'(by rw [← HN.out]; exact hlt), List.getElem?_eq_getElem _⟩
      have HS := Lib.hid (h32.out s (List.mem_of_getElem? hs))
      have HSK := Lib.hid hs
      obtain ⟨g, o, rfl, hr⟩ := H.out.range k s hs
      have hr1 := Lib.hid (range_drewN (w := W.drewN q) (fun j v hj => hr j v hj))
      have hr2 := Lib.hid (range_drewN (w := W.drewN q) (b := w.heap.size) (o := 0) (cs := h.map bv) (fun j v hj => by rw [Nat.zero_add]; exact HA.out.cell j v (by rw [List.getElem?_toArray]; exact hj)))
      have hi1 : Hid ((Try.prog.info? 23).map (·.size) = some (s.map bv).length) := by show _ = _; rw [List.length_map, HS.out]; exact Try.sizeHash
      have hi2 : Hid ((Try.prog.info? 23).map (·.size) = some (h.map bv).length) := by show _ = _; rw [List.length_map, HH.out]; exact Try.sizeHash
      have hu := Lib.hid Try.underlying23
      clear hs hr
      by_cases he : s = h
      · subst he
        have hD : Hid (D = true) := by show _ = _; rw [HD.out]; exact decide_eq_true (List.mem_of_getElem? HSK.out)
        have heq : ∀ x, (Op.equalIn 10000 23 (.agg (s.map bv).toArray) (.agg (s.map bv).toArray)).run Try.prog x = .ok true x := fun x => by rw [run_eq_hash x s s HS.out HS.out]; simp
        go_wp2_with fail
        refine wp_region_quiet_lit (by kernel_rfl) (by kernel_rfl) ?_
        repeat (first | ((with_reducible show wpQuiet _ _ _ _ (⟨some 15, _, _, _, _, _⟩ :: _) _); refine wpQuiet_loadMid (by rfl) 23 (.tmp 14) rfl g (o + k * 32) (by rfl) (s.map bv) _ hr1.out hu.out rfl hi1.out ?_; simp only [Act.put, List.setIfInBounds_toArray, List.set_cons_succ, List.set_cons_zero]) | ((with_reducible show wpQuiet _ _ _ _ (⟨some 16, _, _, _, _, _⟩ :: _) _); refine wpQuiet_loadMid (by rfl) 23 (.tmp 3) rfl w.heap.size 0 (by rfl) (s.map bv) _ hr2.out hu.out rfl hi2.out ?_; simp only [Act.put, List.setIfInBounds_toArray, List.set_cons_succ, List.set_cons_zero]) | go_big_quiet_step (fail))
        refine wpQuiet_nil ?_
        intro _ hw'
        obtain ⟨nq, hw''⟩ := hw'
        subst hw''
        clear heq
        go_wp2_with fail
        go_returns
        exact ⟨by rw [hD.out]; rfl, below_drewN (below_drewN HB0.out _) _⟩
      · have heq : ∀ x, (Op.equalIn 10000 23 (.agg (s.map bv).toArray) (.agg (h.map bv).toArray)).run Try.prog x = .ok false x := fun x => by
          rw [run_eq_hash x s h HS.out HH.out, show (s == h) = false by rw [beq_eq_false_iff_ne]; exact he]
        have HK2 : Hid (h ∉ l.take (k + 1)) := by
          show _ ∉ _
          obtain ⟨h3, h4⟩ := List.getElem?_eq_some_iff.1 HSK.out
          rw [List.take_succ_eq_append_getElem h3, h4, List.mem_append]
          rintro (h5 | h5)
          · exact HK.out h5
          · exact he (List.mem_singleton.1 h5).symm
        go_wp2_with fail
        refine wp_region_quiet_lit (by kernel_rfl) (by kernel_rfl) ?_
        repeat (first | ((with_reducible show wpQuiet _ _ _ _ (⟨some 15, _, _, _, _, _⟩ :: _) _); refine wpQuiet_loadMid (by rfl) 23 (.tmp 14) rfl g (o + k * 32) (by rfl) (s.map bv) _ hr1.out hu.out rfl hi1.out ?_; simp only [Act.put, List.setIfInBounds_toArray, List.set_cons_succ, List.set_cons_zero]) | ((with_reducible show wpQuiet _ _ _ _ (⟨some 16, _, _, _, _, _⟩ :: _) _); refine wpQuiet_loadMid (by rfl) 23 (.tmp 3) rfl w.heap.size 0 (by rfl) (h.map bv) _ hr2.out hu.out rfl hi2.out ?_; simp only [Act.put, List.setIfInBounds_toArray, List.set_cons_succ, List.set_cons_zero]) | go_big_quiet_step (fail))
        refine wpQuiet_nil ?_
        intro _ hw'
        obtain ⟨nq, hw''⟩ := hw'
        subst hw''
        clear heq
        go_wp2_with fail
        go_roundw
        case rel => exact ⟨k + 1, by omega, by go_num, HK2, Lib.hid ⟨_, rfl⟩⟩
        case measure => simp [intOf]; omega
    · have hD : Hid (D = false) := by
        show _ = _
        have e := HK.out
        rw [show k = l.length by rw [← HN.out]; omega, List.take_length] at e
        rw [HD.out]; exact decide_eq_false e
      go_wp2_with fail
      go_returns
      exact ⟨by rw [hD.out]; rfl, below_drewN HB0.out _⟩
theorem wpList_append_h19 {P : Program} {ops : Array Oper} {rest : List Oper} {o : Oper} {a : Act} {w : World} {Q : Exit → Act → World → Prop} (hgd : o.guard = none) (s x : Operand) (t : TypeId)
    (ho : o.op = .call { callee := .builtin .append, args := #[s, x], argTypes := #[t, t] }) (base : Nat) (e : TypeId) (ht : P.underlying t = some (.slice e)) (hi : P.info? e = P.info? e ∧ (P.info? e).map (fun i => (i.zero, i.size, i.bytes)) = some (some (.agg Z32), 32, 32))
    (v : Value) (L L2 : List (List UInt8)) (hs : a.eval s = v) (hown : HashOwn w base e v L) (v2 : Value) (hx : a.eval x = v2) (h2 : HashesAt w v2 L2) (hn : L.length + L2.length ≤ 1000000) (hbase : base ≤ w.heap.size)
    (hK : ∀ v' w', HashOwn w' base e v' (L ++ L2) → w.grownBy w' v.ownBlock → wpList P ops Q rest (a.put o.dst v') w') : wpList P ops Q (o :: rest) a w := by
  obtain ⟨i, hi1, hz, hsz, hby⟩ := info_parts hi.2
  have e1 : (L ++ L2).flatMap (·.map bv) = L.flatMap (·.map bv) ++ L2.flatMap (·.map bv) := by simp
  have hfl : ∀ l : List (List UInt8), (∀ h ∈ l, h.length = 32) → (l.flatMap (·.map bv)).length = l.length * 32 := fun l hl => by
    induction l with
    | nil => rfl
    | cons q l ih => rw [List.flatMap_cons, List.length_append, List.length_map, hl q List.mem_cons_self, ih (fun h hh => hl h (List.mem_cons_of_mem _ hh)), List.length_cons]; omega
  have hone : ∀ u ∈ L2.flatMap (·.map bv), u.oneCell' = true := fun u hu => by
    obtain ⟨q, _, hq⟩ := List.mem_flatMap.1 hu
    exact bs_one q u hq
  have h32 : ∀ q ∈ L ++ L2, q.length = 32 := fun q hq => by
    rcases List.mem_append.1 hq with hq | hq
    · exact hown.1 q hq
    · exact h2.1 q hq
  rcases h2.2 with ⟨rfl, ao, rfl⟩ | ⟨g, o', c, rfl, hc, hlt, hcell⟩
  · cases ao with
    | none =>
      refine wpList_append_own_none hgd s x t ho base e i 32 ht hi1 v _ _ hs hown.2 hx (hK v w (by rw [List.append_nil]; exact hown) (World.grownBy.refl _ _))
    | some ad =>
      refine wpList_plain hgd fun K hk => wp_append_own w s x t ho base e i (.agg Z32) 32 32 ht hi1 hz hsz hby rfl (by decide) v _ _ hs hown.2 ad 0 0 [] hx (by simp) (fun j u hj => by simp at hj) (fun u hu => by cases hu) (by unfold maxLen; omega) (by omega) hbase fun v' w' g2 g3 _ => hk _ _ (hK v' w' ⟨h32, ?_⟩ g3)
      rw [List.append_nil] at g2 ⊢
      exact g2
  · refine wpList_plain hgd fun K hk => wp_append_own w s x t ho base e i (.agg Z32) 32 32 ht hi1 hz hsz hby rfl (by decide) v _ _ hs hown.2 ⟨g, o', none⟩ L2.length c (L2.flatMap (·.map bv)) hx (hfl L2 h2.1) (fun j u hj => by rw [Addr.add_mid]; exact hcell j u hj) hone (by unfold maxLen; omega) (by omega) hbase fun v' w' g2 g3 _ => hk _ _ (hK v' w' ⟨h32, ?_⟩ g3)
    rw [e1, List.length_append]
    exact g2
theorem HashOwn.drew {w : World} {base : Nat} {e : TypeId} {v : Value} {l : List HsT} (h : HashOwn w base e v l) : HashOwn w.drew base e v l := h.below (below_drewN (Below.refl _ _) 1)
theorem hashes_one {w : World} {q c : Nat} {t : TypeId} {h : HsT} (hg : Blk w q (h.map bv).toArray t) (hh : h.length = 32) (hc : 1 ≤ c) : HashesAt w (.slice (some ⟨q, 0, none⟩) 1 c) [h] :=
  ⟨fun x hx => by rw [List.mem_singleton.1 hx]; exact hh, .inr ⟨q, 0, c, rfl, hc, hg.lt, fun j u hj => by
    rw [Nat.zero_add]
    exact hg.cell j u (by rw [List.getElem?_toArray]; simpa using hj)⟩⟩
theorem rises_snoc {l : List HsT} {h : HsT} (hl : Rises l) (h1 : ∀ x ∈ l, cmpT x h < 0) : Rises (l ++ [h]) :=
  List.pairwise_append.2 ⟨hl, List.pairwise_singleton _ _, fun x hx z hz => by rw [List.mem_singleton.1 hz]; exact h1 x hx⟩
/-- What the loop of put has, when i of the list are gone over. -/
structure PutI (l : List HsT) (h : HsT) (i : Nat) (d : Bool) (O : List HsT) : Prop where
  rises : Rises O
  mem : ∀ x, x ∈ O ↔ x ∈ l.take i ∨ (d = true ∧ x = h)
  len : O.length ≤ i + 1
  less : d = false → ∀ x ∈ O, cmpT x h < 0
  ahead : ∀ x ∈ O, ∀ y ∈ l.drop i, cmpT x y < 0
theorem PutI.start (l : List HsT) (h : HsT) : PutI l h 0 false [] := ⟨List.Pairwise.nil, by simp, by simp, by simp, by simp⟩
theorem drop_rises {l : List HsT} {i : Nat} {x : HsT} (hl : Rises l) (hx : l[i]? = some x) : x ∈ l.drop i ∧ ∀ z ∈ l.drop (i + 1), z ∈ l.drop i ∧ cmpT x z < 0 := by
  have e1 : l.drop i = x :: l.drop (i + 1) := by
    obtain ⟨h1, h2⟩ := List.getElem?_eq_some_iff.1 hx
    rw [List.drop_eq_getElem_cons h1, h2]
  have h3 : (l.drop i).Pairwise fun a b => cmpT a b < 0 := List.Pairwise.drop hl
  rw [e1] at h3 ⊢
  exact ⟨List.mem_cons_self, fun z hz => ⟨List.mem_cons_of_mem _ hz, (List.pairwise_cons.1 h3).1 z hz⟩⟩
theorem PutI.skip {l : List HsT} {h x : HsT} {i : Nat} {d : Bool} {O : List HsT} (P : PutI l h i d O) (hl : Rises l) (hx : l[i]? = some x) (hc : d = false → cmpT x h < 0) : PutI l h (i + 1) d (O ++ [x]) := by
  obtain ⟨hm, hd⟩ := drop_rises hl hx
  have htk : l.take (i + 1) = l.take i ++ [x] := by rw [List.take_add_one, hx]; rfl
  refine ⟨rises_snoc P.rises (fun y hy => P.ahead y hy x hm), fun y => ?_, by have := P.len; simp; omega, fun he y hy => ?_, fun y hy z hz => ?_⟩
  · rw [List.mem_append, P.mem, htk, List.mem_append, List.mem_singleton]
    constructor
    · rintro ((h1 | h1) | h1)
      · exact .inl (.inl h1)
      · exact .inr h1
      · exact .inl (.inr h1)
    · rintro ((h1 | h1) | h1)
      · exact .inl (.inl h1)
      · exact .inr h1
      · exact .inl (.inr h1)
  · rcases List.mem_append.1 hy with hy | hy
    · exact P.less he y hy
    · rw [List.mem_singleton.1 hy]; exact hc he
  · rcases List.mem_append.1 hy with hy | hy
    · exact P.ahead y hy z (hd z hz).1
    · rw [List.mem_singleton.1 hy]; exact (hd z hz).2
theorem PutI.put {l : List HsT} {h x : HsT} {i : Nat} {O : List HsT} (P : PutI l h i false O) (hl : Rises l) (h32 : ∀ y ∈ l, y.length = 32) (hh : h.length = 32) (hx : l[i]? = some x) (hc : cmpT h x < 0) (hlen : O.length ≤ i) : PutI l h i true (O ++ [h]) := by
  have e1 : l.drop i = x :: l.drop (i + 1) := by
    obtain ⟨h1, h2⟩ := List.getElem?_eq_some_iff.1 hx
    rw [List.drop_eq_getElem_cons h1, h2]
  obtain ⟨hm, hd⟩ := drop_rises hl hx
  refine ⟨rises_snoc P.rises (P.less rfl), fun y => ?_, by simp; omega, fun he => (by cases he), fun y hy z hz => ?_⟩
  · rw [List.mem_append, P.mem, List.mem_singleton]; simp
  · rcases List.mem_append.1 hy with hy | hy
    · exact P.ahead y hy z hz
    · rw [List.mem_singleton.1 hy]
      rw [e1] at hz
      rcases List.mem_cons.1 hz with hz2 | hz2
      · rw [hz2]; exact hc
      · have hz3 : z ∈ l := List.mem_of_mem_drop hz2
        have hx3 : x ∈ l := List.mem_of_getElem? hx
        exact cmpT_trans h x z (by rw [hh, h32 x hx3]) (by rw [h32 x hx3, h32 z hz3]) hc (hd z hz2).2
theorem PutI.lenF {l : List HsT} {h : HsT} {i : Nat} {O : List HsT} (P : PutI l h i false O) (hl : Rises l) (hi : i ≤ l.length) : O.length ≤ i := by
  have h1 : O.length ≤ (l.take i).length := nodup_len P.rises.nodup (fun x hx => ((P.mem x).1 hx).elim id (fun e => by cases e.1))
  rw [List.length_take] at h1
  omega
set_option maxHeartbeats 8000000 in
set_option maxRecDepth 100000 in
theorem put19_calls (base : Nat) (v : Value) (l : List HsT) (h : HsT) (w : World) (hl : HashOwn w base 23 v l) (hr : Rises l) (hh : h.length = 32) (hn : l.length ≤ 500000) (hbw : base ≤ w.heap.size) :
    Calls Try.prog 93 #[v, .agg (h.map bv).toArray] w fun e w' => ∃ v' R, e = .returned v' ∧ HashOwn w' base 23 v' R ∧ Rises R ∧ (∀ x, x ∈ R ↔ x ∈ l ∨ x = h) ∧ R.length ≤ l.length + 1 ∧ Below w.heap.size w w' := by
  obtain ⟨ao, c, rfl⟩ := hl.slice
  have hb0 := below_alloc1 w (.cells (h.map bv).toArray 23)
  have hA0 := Blk.new w (h.map bv).toArray 23
  have HL := Lib.hid hl
  have HR := Lib.hid hr
  have HH := Lib.hid hh
  obtain ⟨n, hnn⟩ : ∃ n, n = l.length := ⟨_, rfl⟩
  have HN := Lib.hid hnn
  rw [← hnn] at hn HL ⊢
  obtain ⟨D, hD⟩ : ∃ D, D = decide (h ∈ l) := ⟨_, rfl⟩
  have HD := Lib.hid hD
  have cH : ∀ y, HashesAt y (.slice ao n c) l → Calls Try.prog 45 #[.slice ao n c, .agg (h.map bv).toArray] y fun e w' => e = .returned (.bool D) ∧ Below y.heap.size y w' := fun y hy => by rw [hD]; exact Has15_calls _ l h HH.out y hy (by omega)
  clear hl hr hh hnn hD
  go_enter Try.func93, Try.ntmps93
  go_wp2_with ((with_reducible show wpList _ _ _ (⟨some 9, _, _, _, _, _⟩ :: _) _ _); refine wpList_load_mid rfl 23 (.tmp 3) rfl (w.heap.size) 0 (by rfl) (h.map bv) _ (blk_rangeP hA0) Try.underlying23 rfl (by rw [List.length_map, HH.out]; exact Try.sizeHash) ?_)
  generalize w.alloc (.cells (h.map bv).toArray 23) = W0 at hb0 hA0 ⊢
  refine (cH _ (HL.out.below hb0).at).mono ?_
  rintro e w1 ⟨rfl, b1⟩
  have hB1 := hb0.trans (b1.mono hb0.size)
  have hA1 := hA0.below b1 hA0.lt
  clear b1 hb0 hA0 cH
  cases D with
  | true =>
    go_wp2_with fail
    go_returns
    refine ⟨_, l, rfl, HL.out.below hB1, HR.out, fun x => ⟨.inl, fun hx => hx.elim id (fun e => ?_)⟩, by have := HN.out; omega, hB1⟩
    have := of_decide_eq_true HD.out.symm
    rw [e]; exact this
  | false =>
    have hni : h ∉ l := of_decide_eq_false HD.out.symm
    have HNI := Lib.hid hni
    clear hni
    have hHA1 := Lib.hid hA1
    have hHB1 := Lib.hid hB1
    clear hA1 hB1
    go_wp2_with fail
    go_loopw [5, 6, 7] (fun ov dv iv wr => ∃ (i : Nat) (O : List HsT) (d : Bool), i ≤ n ∧ dv = .bool d ∧ iv = .int .i64 i ∧ Hid (Blk wr w.heap.size (h.map bv).toArray 23) ∧ Hid (Below w.heap.size w wr) ∧ Hid (HashOwn wr (w.heap.size + 1) 23 ov O) ∧ Hid (PutI l h i d O)) (fun _ _ iv _ => n - (intOf iv).toNat)
    case atStart => exact ⟨0, [], false, by omega, rfl, rfl, hHA1, hHB1, Lib.hid (HashOwn.nil _ _ _), Lib.hid (PutI.start l h)⟩
    case round =>
      obtain ⟨i, O, d, hi, rfl, rfl, hA, hB, hO, hP⟩ := hrel
      clear hHA1 hHB1
      have hsz := hA.out.lt
      have hOl : O.length ≤ 500001 := by have := hP.out.len; omega
      have hAw := hA.out
      have hBw := hB.out
      by_cases hlt : i < n
      · obtain ⟨x, hx⟩ : ∃ x, l[i]? = some x := ⟨_, List.getElem?_eq_getElem (by rw [← HN.out]; exact hlt)⟩
        obtain ⟨g, o, rfl, _⟩ := HL.out.at.range i x hx
        have H32 : Hid (x.length = 32) := HL.out.1 x (List.mem_of_getElem? hx)
        have HRG : Hid (∀ z, Below w.heap.size w z → z.rangeAt g (o + i * 32) (x.map bv)) := fun z hz => (HL.out.below hz).at.range' i x hx
        have HX := Lib.hid hx
        have hne : x ≠ h := fun e => HNI.out (e ▸ List.mem_of_getElem? hx)
        have HNE := Lib.hid hne
        clear hx hne hA hB
        cases d with
        | true =>
          have hP2 := Lib.hid (hP.out.skip HR.out HX.out (fun e => by cases e))
          clear hP
          go_wp2_with fail
          refine wp_region_held_drew (S := fun x => Blk x (w.heap.size) (h.map bv).toArray 23 ∧ Below w.heap.size w x) (by kernel_rfl) ⟨hAw.drew, below_drewN hBw 1⟩ (fun hSq1 => ?_)
          have hHq2 := Lib.hid (hO.out.drew)
          refine wpAnyH_take (i := 0) (v := .bool true) rfl (by kernel_rfl) (by kernel_rfl) (by kernel_rfl) (fun _ _ _ h => h) (Or.inl ⟨by rfl, fun x hx => by go_simp⟩) hSq1 ?_
          simp only [Act.put, List.getElem_toArray, List.getElem_cons_zero, List.getElem_cons_succ, List.setIfInBounds_toArray, List.set_cons_zero, List.set_cons_succ]
          refine wpAnyH_take (i := 1) (v := .bool false) rfl (by kernel_rfl) (by kernel_rfl) (by kernel_rfl) (fun _ _ _ h => h) (Or.inl ⟨by rfl, fun x hx => by go_simp⟩) hSq1 ?_
          simp only [Act.put, List.getElem_toArray, List.getElem_cons_zero, List.getElem_cons_succ, List.setIfInBounds_toArray, List.set_cons_zero, List.set_cons_succ]
          refine wpAnyH_take (i := 2) (v := .bool false) rfl (by kernel_rfl) (by kernel_rfl) (by kernel_rfl) (fun _ _ _ h => h) (Or.inl ⟨by rfl, fun x hx => by go_simp⟩) hSq1 ?_
          simp only [Act.put, List.getElem_toArray, List.getElem_cons_zero, List.getElem_cons_succ, List.setIfInBounds_toArray, List.set_cons_zero, List.set_cons_succ]
          refine wpAnyH_take (i := 3) (v := undef) rfl (by kernel_rfl) (by kernel_rfl) (by kernel_rfl) (fun _ _ _ h => h) (Or.inr ⟨by rfl, rfl⟩) hSq1 ?_
          simp only [Act.put, List.getElem_toArray, List.getElem_cons_zero, List.getElem_cons_succ, List.setIfInBounds_toArray, List.set_cons_zero, List.set_cons_succ]
          refine wpAnyH_take (i := 4) (v := undef) rfl (by kernel_rfl) (by kernel_rfl) (by kernel_rfl) (fun _ _ _ h => h) (Or.inr ⟨by rfl, rfl⟩) hSq1 ?_
          simp only [Act.put, List.getElem_toArray, List.getElem_cons_zero, List.getElem_cons_succ, List.setIfInBounds_toArray, List.set_cons_zero, List.set_cons_succ]
          refine wpAnyH_take (i := 5) (v := undef) rfl (by kernel_rfl) (by kernel_rfl) (by kernel_rfl) (fun _ _ _ h => h) (Or.inr ⟨by rfl, rfl⟩) hSq1 ?_
          simp only [Act.put, List.getElem_toArray, List.getElem_cons_zero, List.getElem_cons_succ, List.setIfInBounds_toArray, List.set_cons_zero, List.set_cons_succ]
          refine wpAnyH_take (i := 6) (v := undef) rfl (by kernel_rfl) (by kernel_rfl) (by kernel_rfl) (fun _ _ _ h => h) (Or.inr ⟨by rfl, rfl⟩) hSq1 ?_
          simp only [Act.put, List.getElem_toArray, List.getElem_cons_zero, List.getElem_cons_succ, List.setIfInBounds_toArray, List.set_cons_zero, List.set_cons_succ]
          refine wpAnyH_take (i := 7) (v := undef) rfl (by kernel_rfl) (by kernel_rfl) (by kernel_rfl) (fun _ _ _ h => h) (Or.inr ⟨by rfl, rfl⟩) hSq1 ?_
          simp only [Act.put, List.getElem_toArray, List.getElem_cons_zero, List.getElem_cons_succ, List.setIfInBounds_toArray, List.set_cons_zero, List.set_cons_succ]
          refine wpAnyH_take (i := 8) (v := undef) rfl (by kernel_rfl) (by kernel_rfl) (by kernel_rfl) (fun _ _ _ h => h) (Or.inr ⟨by rfl, rfl⟩) hSq1 ?_
          simp only [Act.put, List.getElem_toArray, List.getElem_cons_zero, List.getElem_cons_succ, List.setIfInBounds_toArray, List.set_cons_zero, List.set_cons_succ]
          refine wpAnyH_take (i := 9) (v := .bool false) rfl (by kernel_rfl) (by kernel_rfl) (by kernel_rfl) (fun _ _ _ h => h) (Or.inl ⟨by rfl, fun x hx => by go_simp⟩) hSq1 ?_
          simp only [Act.put, List.getElem_toArray, List.getElem_cons_zero, List.getElem_cons_succ, List.setIfInBounds_toArray, List.set_cons_zero, List.set_cons_succ]
          refine wpAnyH_done (by kernel_rfl) ?_ _
          have hA5 := hSq1.1
          have hB5 := hSq1.2
          have hO5 := hHq2
          clear hSq1 hHq2 hAw hBw
          go_wp2_with (first | ((with_reducible show wpList _ _ _ (⟨some 36, _, _, _, _, _⟩ :: _) _ _); refine wpList_load_mid rfl 23 (.tmp 35) rfl g (o + i * 32) (by rfl) (x.map bv) _ (HRG.out _ hB5) Try.underlying23 rfl (by rw [List.length_map, H32.out]; exact Try.sizeHash) ?_) | ((with_reducible show wpList _ _ _ (⟨some 37, _, _, _, _, _⟩ :: _) _ _); refine wpList_bsH rfl 34 23 (.tmp 36) rfl x H32.out (by rfl) Try.underlying34 Try.infoHash2 ?_; intro qq3 wq4 eqq5 szq6 bbq7 hNq8; have ltq9 : w.heap.size < (World.drew wr).heap.size := hA5.lt; have hCq10 := hA5.below bbq7 hA5.lt; have hCq11 := Lib.hid (hO5.out.below bbq7); have hBq12 := hB5.trans (bbq7.mono (hB5.size)); clear hA5 hO5 hB5; clear bbq7 eqq5 szq6) | ((with_reducible show wpList _ _ _ (⟨some 38, _, _, _, _, _⟩ :: _) _ _); refine wpList_append_h19 rfl (.tmp 32) (.tmp 37) 34 rfl (w.heap.size + 1) 23 Try.underlying34 ⟨rfl, Try.infoHash3⟩ _ (O) [x] (by rfl) hCq11.out _ (by rfl) (hashes_one hNq8 H32.out (by omega)) (by simp; omega) (by have := hCq10.lt; omega) ?_; intro vq16 wq13 hkq14 gq15; have hltgq15 := hCq10.lt; have hCq17 := hCq10.grown gq15 (fun e => by have := (hCq11.out.2.lt _ e.symm).1; omega); have hBq18 := hBq12.grown gq15 hBq12.size (fun q e => by have := (hCq11.out.2.lt q e).1; omega); have hOq19 := Lib.hid hkq14; clear hkq14 gq15 hCq11 hNq8 hBq12 hCq10))
          go_roundw
          case rel => exact ⟨i + 1, O ++ [x], true, by omega, by rfl, by go_num, Lib.hid hCq17, Lib.hid hBq18, hOq19, hP2⟩
          case measure => simp [intOf]; omega
        | false =>
          by_cases hc : cmpT h x < 0
          · have hlf := hP.out.lenF HR.out (by have := HN.out; omega)
            have hP1 := hP.out.put HR.out HL.out.1 HH.out HX.out hc hlf
            have hP2 := Lib.hid (hP1.skip HR.out HX.out (fun e => by cases e))
            have cL : ∀ y, Calls Try.prog 46 #[.agg (h.map bv).toArray, .agg (x.map bv).toArray] y fun e w' => e = .returned (.bool true) ∧ Below y.heap.size y w' := fun y => by
              have := Less_calls h x HH.out H32.out y
              rw [show ltT h x = true from decide_eq_true hc] at this
              exact this
            clear hc hP hP1
            go_wp2_with fail
            refine wp_region_held_drew (S := fun x => Blk x (w.heap.size) (h.map bv).toArray 23 ∧ Below w.heap.size w x) (by kernel_rfl) ⟨hAw.drew, below_drewN hBw 1⟩ (fun hSq20 => ?_)
            have hHq21 := Lib.hid (hO.out.drew)
            refine wpAnyH_take (i := 0) (v := .bool false) rfl (by kernel_rfl) (by kernel_rfl) (by kernel_rfl) (fun _ _ _ h => h) (Or.inl ⟨by rfl, fun x hx => by go_simp⟩) hSq20 ?_
            simp only [Act.put, List.getElem_toArray, List.getElem_cons_zero, List.getElem_cons_succ, List.setIfInBounds_toArray, List.set_cons_zero, List.set_cons_succ]
            refine wpAnyH_take (i := 1) (v := .bool true) rfl (by kernel_rfl) (by kernel_rfl) (by kernel_rfl) (fun _ _ _ h => h) (Or.inl ⟨by rfl, fun x hx => by go_simp⟩) hSq20 ?_
            simp only [Act.put, List.getElem_toArray, List.getElem_cons_zero, List.getElem_cons_succ, List.setIfInBounds_toArray, List.set_cons_zero, List.set_cons_succ]
            refine wpAnyH_take (i := 2) (v := .bool true) rfl (by kernel_rfl) (by kernel_rfl) (by kernel_rfl) (fun _ _ _ h => h) (Or.inl ⟨by rfl, fun x hx => by go_simp⟩) hSq20 ?_
            simp only [Act.put, List.getElem_toArray, List.getElem_cons_zero, List.getElem_cons_succ, List.setIfInBounds_toArray, List.set_cons_zero, List.set_cons_succ]
            refine wpAnyH_take (i := 3) rfl (by kernel_rfl) (by kernel_rfl) (by kernel_rfl) (fun _ _ _ h => h) (yieldsIf_load_mid (by rfl) 23 (.tmp 3) rfl (w.heap.size) 0 (by rfl) (h.map bv) _ (fun x hx => blk_rangeP hx.1) Try.underlying23 rfl (by rw [List.length_map, HH.out]; exact Try.sizeHash)) hSq20 ?_
            simp only [Act.put, List.getElem_toArray, List.getElem_cons_zero, List.getElem_cons_succ, List.setIfInBounds_toArray, List.set_cons_zero, List.set_cons_succ]
            refine wpAnyH_take (i := 4) (v := .slice (some ⟨g, o, none⟩) n c) rfl (by kernel_rfl) (by kernel_rfl) (by kernel_rfl) (fun _ _ _ h => h) (Or.inl ⟨by rfl, fun x hx => by go_simp⟩) hSq20 ?_
            simp only [Act.put, List.getElem_toArray, List.getElem_cons_zero, List.getElem_cons_succ, List.setIfInBounds_toArray, List.set_cons_zero, List.set_cons_succ]
            refine wpAnyH_take (i := 5) (v := .int .i64 i) rfl (by kernel_rfl) (by kernel_rfl) (by kernel_rfl) (fun _ _ _ h => h) (Or.inl ⟨by rfl, fun x hx => by go_simp⟩) hSq20 ?_
            simp only [Act.put, List.getElem_toArray, List.getElem_cons_zero, List.getElem_cons_succ, List.setIfInBounds_toArray, List.set_cons_zero, List.set_cons_succ]
            refine wpAnyH_take (i := 6) (v := .pointer (some ⟨g, o + i * 32, none⟩)) rfl (by kernel_rfl) (by kernel_rfl) (by kernel_rfl) (fun _ _ _ h => h) (Or.inl ⟨by rfl, fun x hx => by go_simp⟩) hSq20 ?_
            simp only [Act.put, List.getElem_toArray, List.getElem_cons_zero, List.getElem_cons_succ, List.setIfInBounds_toArray, List.set_cons_zero, List.set_cons_succ]
            refine wpAnyH_take (i := 7) rfl (by kernel_rfl) (by kernel_rfl) (by kernel_rfl) (fun _ _ _ h => h) (yieldsIf_load_mid (by rfl) 23 (.tmp 24) rfl (g) (o + i * 32) (by rfl) (x.map bv) _ (fun x hx => HRG.out _ hx.2) Try.underlying23 rfl (by rw [List.length_map, H32.out]; exact Try.sizeHash)) hSq20 ?_
            simp only [Act.put, List.getElem_toArray, List.getElem_cons_zero, List.getElem_cons_succ, List.setIfInBounds_toArray, List.set_cons_zero, List.set_cons_succ]
            refine wpAnyH_ready (rs := [8]) (by kernel_rfl) (by simp) ?_
            refine AllReadyH.cons rfl (fun K hK => ?_) AllReadyH.nil
            go_simp
            go_wp2_with (go_at_call 46; refine (cL _).mono ?_; rintro e yq22 ⟨rfl, bq23⟩)
            have hHq24 := Lib.hid (hHq21.out.below bq23)
            refine hK.out _ _ ⟨hSq20.1.below bq23 hSq20.1.lt, hSq20.2.trans (bq23.mono (hSq20.2.size))⟩ (fun hSq25 => ?_)
            clear hK K hSq20 bq23
            refine wpAnyH_take (i := 9) (v := .bool true) rfl (by kernel_rfl) (by kernel_rfl) (by kernel_rfl) (fun _ _ _ h => h) (Or.inl ⟨by rfl, fun x hx => by go_simp⟩) hSq25 ?_
            simp only [Act.put, List.getElem_toArray, List.getElem_cons_zero, List.getElem_cons_succ, List.setIfInBounds_toArray, List.set_cons_zero, List.set_cons_succ]
            refine wpAnyH_done (by kernel_rfl) ?_ _
            have hA5 := hSq25.1
            have hB5 := hSq25.2
            have hO5 := hHq24
            clear hSq25 hHq24 hAw hBw cL
            go_wp2_with (first | ((with_reducible show wpList _ _ _ (⟨some 29, _, _, _, _, _⟩ :: _) _ _); refine wpList_load_mid rfl 23 (.tmp 3) rfl (w.heap.size) 0 (by rfl) (h.map bv) _ (blk_rangeP hA5) Try.underlying23 rfl (by rw [List.length_map, HH.out]; exact Try.sizeHash) ?_) | ((with_reducible show wpList _ _ _ (⟨some 30, _, _, _, _, _⟩ :: _) _ _); refine wpList_bsH rfl 34 23 (.tmp 29) rfl h HH.out (by rfl) Try.underlying34 Try.infoHash2 ?_; intro qq26 wq27 eqq28 szq29 bbq30 hNq31; have ltq32 : w.heap.size < yq22.heap.size := hA5.lt; have hCq33 := hA5.below bbq30 hA5.lt; have hCq34 := Lib.hid (hO5.out.below bbq30); have hBq35 := hB5.trans (bbq30.mono (hB5.size)); clear hA5 hO5 hB5; clear bbq30 eqq28 szq29) | ((with_reducible show wpList _ _ _ (⟨some 31, _, _, _, _, _⟩ :: _) _ _); refine wpList_append_h19 rfl (.tmp 28) (.tmp 30) 34 rfl (w.heap.size + 1) 23 Try.underlying34 ⟨rfl, Try.infoHash3⟩ _ (O) [h] (by rfl) hCq34.out _ (by rfl) (hashes_one hNq31 HH.out (by omega)) (by simp; omega) (by have := hCq33.lt; omega) ?_; intro vq39 wq36 hkq37 gq38; have hltgq38 := hCq33.lt; have hCq40 := hCq33.grown gq38 (fun e => by have := (hCq34.out.2.lt _ e.symm).1; omega); have hBq41 := hBq35.grown gq38 hBq35.size (fun q e => by have := (hCq34.out.2.lt q e).1; omega); have hOq42 := Lib.hid hkq37; clear hkq37 gq38 hCq34 hNq31 hBq35 hCq33) | ((with_reducible show wpList _ _ _ (⟨some 36, _, _, _, _, _⟩ :: _) _ _); refine wpList_load_mid rfl 23 (.tmp 35) rfl g (o + i * 32) (by rfl) (x.map bv) _ (HRG.out _ hBq41) Try.underlying23 rfl (by rw [List.length_map, H32.out]; exact Try.sizeHash) ?_) | ((with_reducible show wpList _ _ _ (⟨some 37, _, _, _, _, _⟩ :: _) _ _); refine wpList_bsH rfl 34 23 (.tmp 36) rfl x H32.out (by rfl) Try.underlying34 Try.infoHash2 ?_; intro qq43 wq44 eqq45 szq46 bbq47 hNq48; have ltq49 : w.heap.size < wq36.heap.size := hCq40.lt; have hCq50 := hCq40.below bbq47 hCq40.lt; have hCq51 := Lib.hid (hOq42.out.below bbq47); have hBq52 := hBq41.trans (bbq47.mono (hBq41.size)); clear hCq40 hOq42 hBq41; clear bbq47 eqq45 szq46) | ((with_reducible show wpList _ _ _ (⟨some 38, _, _, _, _, _⟩ :: _) _ _); refine wpList_append_h19 rfl (.tmp 32) (.tmp 37) 34 rfl (w.heap.size + 1) 23 Try.underlying34 ⟨rfl, Try.infoHash3⟩ _ (O ++ [h]) [x] (by rfl) hCq51.out _ (by rfl) (hashes_one hNq48 H32.out (by omega)) (by simp; omega) (by have := hCq50.lt; omega) ?_; intro vq56 wq53 hkq54 gq55; have hltgq55 := hCq50.lt; have hCq57 := hCq50.grown gq55 (fun e => by have := (hCq51.out.2.lt _ e.symm).1; omega); have hBq58 := hBq52.grown gq55 hBq52.size (fun q e => by have := (hCq51.out.2.lt q e).1; omega); have hOq59 := Lib.hid hkq54; clear hkq54 gq55 hCq51 hNq48 hBq52 hCq50))
            go_roundw
            case rel => exact ⟨i + 1, O ++ [h] ++ [x], true, by omega, by rfl, by go_num, Lib.hid hCq57, Lib.hid hBq58, hOq59, hP2⟩
            case measure => simp [intOf]; omega
          · have hcx : cmpT x h < 0 := by
              have e1 := cmpT_swap x h
              by_cases e : cmpT x h < 0
              · exact e
              · exact absurd (cmpT_eq x h (by rw [H32.out, HH.out]) (by omega)) HNE.out
            have hP2 := Lib.hid (hP.out.skip HR.out HX.out (fun _ => hcx))
            have cL : ∀ y, Calls Try.prog 46 #[.agg (h.map bv).toArray, .agg (x.map bv).toArray] y fun e w' => e = .returned (.bool false) ∧ Below y.heap.size y w' := fun y => by
              have := Less_calls h x HH.out H32.out y
              rw [show ltT h x = false from decide_eq_false hc] at this
              exact this
            clear hc hcx hP
            go_wp2_with fail
            refine wp_region_held_drew (S := fun x => Blk x (w.heap.size) (h.map bv).toArray 23 ∧ Below w.heap.size w x) (by kernel_rfl) ⟨hAw.drew, below_drewN hBw 1⟩ (fun hSq60 => ?_)
            have hHq61 := Lib.hid (hO.out.drew)
            refine wpAnyH_take (i := 0) (v := .bool false) rfl (by kernel_rfl) (by kernel_rfl) (by kernel_rfl) (fun _ _ _ h => h) (Or.inl ⟨by rfl, fun x hx => by go_simp⟩) hSq60 ?_
            simp only [Act.put, List.getElem_toArray, List.getElem_cons_zero, List.getElem_cons_succ, List.setIfInBounds_toArray, List.set_cons_zero, List.set_cons_succ]
            refine wpAnyH_take (i := 1) (v := .bool true) rfl (by kernel_rfl) (by kernel_rfl) (by kernel_rfl) (fun _ _ _ h => h) (Or.inl ⟨by rfl, fun x hx => by go_simp⟩) hSq60 ?_
            simp only [Act.put, List.getElem_toArray, List.getElem_cons_zero, List.getElem_cons_succ, List.setIfInBounds_toArray, List.set_cons_zero, List.set_cons_succ]
            refine wpAnyH_take (i := 2) (v := .bool true) rfl (by kernel_rfl) (by kernel_rfl) (by kernel_rfl) (fun _ _ _ h => h) (Or.inl ⟨by rfl, fun x hx => by go_simp⟩) hSq60 ?_
            simp only [Act.put, List.getElem_toArray, List.getElem_cons_zero, List.getElem_cons_succ, List.setIfInBounds_toArray, List.set_cons_zero, List.set_cons_succ]
            refine wpAnyH_take (i := 3) rfl (by kernel_rfl) (by kernel_rfl) (by kernel_rfl) (fun _ _ _ h => h) (yieldsIf_load_mid (by rfl) 23 (.tmp 3) rfl (w.heap.size) 0 (by rfl) (h.map bv) _ (fun x hx => blk_rangeP hx.1) Try.underlying23 rfl (by rw [List.length_map, HH.out]; exact Try.sizeHash)) hSq60 ?_
            simp only [Act.put, List.getElem_toArray, List.getElem_cons_zero, List.getElem_cons_succ, List.setIfInBounds_toArray, List.set_cons_zero, List.set_cons_succ]
            refine wpAnyH_take (i := 4) (v := .slice (some ⟨g, o, none⟩) n c) rfl (by kernel_rfl) (by kernel_rfl) (by kernel_rfl) (fun _ _ _ h => h) (Or.inl ⟨by rfl, fun x hx => by go_simp⟩) hSq60 ?_
            simp only [Act.put, List.getElem_toArray, List.getElem_cons_zero, List.getElem_cons_succ, List.setIfInBounds_toArray, List.set_cons_zero, List.set_cons_succ]
            refine wpAnyH_take (i := 5) (v := .int .i64 i) rfl (by kernel_rfl) (by kernel_rfl) (by kernel_rfl) (fun _ _ _ h => h) (Or.inl ⟨by rfl, fun x hx => by go_simp⟩) hSq60 ?_
            simp only [Act.put, List.getElem_toArray, List.getElem_cons_zero, List.getElem_cons_succ, List.setIfInBounds_toArray, List.set_cons_zero, List.set_cons_succ]
            refine wpAnyH_take (i := 6) (v := .pointer (some ⟨g, o + i * 32, none⟩)) rfl (by kernel_rfl) (by kernel_rfl) (by kernel_rfl) (fun _ _ _ h => h) (Or.inl ⟨by rfl, fun x hx => by go_simp⟩) hSq60 ?_
            simp only [Act.put, List.getElem_toArray, List.getElem_cons_zero, List.getElem_cons_succ, List.setIfInBounds_toArray, List.set_cons_zero, List.set_cons_succ]
            refine wpAnyH_take (i := 7) rfl (by kernel_rfl) (by kernel_rfl) (by kernel_rfl) (fun _ _ _ h => h) (yieldsIf_load_mid (by rfl) 23 (.tmp 24) rfl (g) (o + i * 32) (by rfl) (x.map bv) _ (fun x hx => HRG.out _ hx.2) Try.underlying23 rfl (by rw [List.length_map, H32.out]; exact Try.sizeHash)) hSq60 ?_
            simp only [Act.put, List.getElem_toArray, List.getElem_cons_zero, List.getElem_cons_succ, List.setIfInBounds_toArray, List.set_cons_zero, List.set_cons_succ]
            refine wpAnyH_ready (rs := [8]) (by kernel_rfl) (by simp) ?_
            refine AllReadyH.cons rfl (fun K hK => ?_) AllReadyH.nil
            go_simp
            go_wp2_with (go_at_call 46; refine (cL _).mono ?_; rintro e yq62 ⟨rfl, bq63⟩)
            have hHq64 := Lib.hid (hHq61.out.below bq63)
            refine hK.out _ _ ⟨hSq60.1.below bq63 hSq60.1.lt, hSq60.2.trans (bq63.mono (hSq60.2.size))⟩ (fun hSq65 => ?_)
            clear hK K hSq60 bq63
            refine wpAnyH_take (i := 9) (v := .bool false) rfl (by kernel_rfl) (by kernel_rfl) (by kernel_rfl) (fun _ _ _ h => h) (Or.inl ⟨by rfl, fun x hx => by go_simp⟩) hSq65 ?_
            simp only [Act.put, List.getElem_toArray, List.getElem_cons_zero, List.getElem_cons_succ, List.setIfInBounds_toArray, List.set_cons_zero, List.set_cons_succ]
            refine wpAnyH_done (by kernel_rfl) ?_ _
            have hA5 := hSq65.1
            have hB5 := hSq65.2
            have hO5 := hHq64
            clear hSq65 hHq64 hAw hBw cL
            go_wp2_with (first | ((with_reducible show wpList _ _ _ (⟨some 36, _, _, _, _, _⟩ :: _) _ _); refine wpList_load_mid rfl 23 (.tmp 35) rfl g (o + i * 32) (by rfl) (x.map bv) _ (HRG.out _ hB5) Try.underlying23 rfl (by rw [List.length_map, H32.out]; exact Try.sizeHash) ?_) | ((with_reducible show wpList _ _ _ (⟨some 37, _, _, _, _, _⟩ :: _) _ _); refine wpList_bsH rfl 34 23 (.tmp 36) rfl x H32.out (by rfl) Try.underlying34 Try.infoHash2 ?_; intro qq66 wq67 eqq68 szq69 bbq70 hNq71; have ltq72 : w.heap.size < yq62.heap.size := hA5.lt; have hCq73 := hA5.below bbq70 hA5.lt; have hCq74 := Lib.hid (hO5.out.below bbq70); have hBq75 := hB5.trans (bbq70.mono (hB5.size)); clear hA5 hO5 hB5; clear bbq70 eqq68 szq69) | ((with_reducible show wpList _ _ _ (⟨some 38, _, _, _, _, _⟩ :: _) _ _); refine wpList_append_h19 rfl (.tmp 32) (.tmp 37) 34 rfl (w.heap.size + 1) 23 Try.underlying34 ⟨rfl, Try.infoHash3⟩ _ (O) [x] (by rfl) hCq74.out _ (by rfl) (hashes_one hNq71 H32.out (by omega)) (by simp; omega) (by have := hCq73.lt; omega) ?_; intro vq79 wq76 hkq77 gq78; have hltgq78 := hCq73.lt; have hCq80 := hCq73.grown gq78 (fun e => by have := (hCq74.out.2.lt _ e.symm).1; omega); have hBq81 := hBq75.grown gq78 hBq75.size (fun q e => by have := (hCq74.out.2.lt q e).1; omega); have hOq82 := Lib.hid hkq77; clear hkq77 gq78 hCq74 hNq71 hBq75 hCq73))
            go_roundw
            case rel => exact ⟨i + 1, O ++ [x], false, by omega, by rfl, by go_num, Lib.hid hCq80, Lib.hid hBq81, hOq82, hP2⟩
            case measure => simp [intOf]; omega
      · obtain rfl : i = n := by omega
        have hDn : l.take i = l := List.take_of_length_le (by have := HN.out; omega)
        have HDN := Lib.hid hDn
        clear hDn
        cases d with
        | true =>
          have hM2 : Hid (∀ x, x ∈ O ↔ x ∈ l ∨ x = h) := fun x => by rw [hP.out.mem x, HDN.out]; simp
          go_wp2_with fail
          go_returns
          exact ⟨_, O, rfl, hO.out.low (by omega), hP.out.rises, hM2.out, hP.out.len, hBw⟩
        | false =>
          have hM2 : Hid (∀ x, x ∈ O ++ [h] ↔ x ∈ l ∨ x = h) := fun x => by rw [List.mem_append, List.mem_singleton, hP.out.mem x, HDN.out]; simp
          have hR2 := Lib.hid (rises_snoc hP.out.rises (hP.out.less rfl))
          have hOf := hP.out.lenF HR.out (by have := HN.out; omega)
          go_wp2_with (first | ((with_reducible show wpList _ _ _ (⟨some 42, _, _, _, _, _⟩ :: _) _ _); refine wpList_load_mid rfl 23 (.tmp 3) rfl (w.heap.size) 0 (by rfl) (h.map bv) _ (blk_rangeP hAw) Try.underlying23 rfl (by rw [List.length_map, HH.out]; exact Try.sizeHash) ?_) | ((with_reducible show wpList _ _ _ (⟨some 43, _, _, _, _, _⟩ :: _) _ _); refine wpList_bsH rfl 34 23 (.tmp 42) rfl h HH.out (by rfl) Try.underlying34 Try.infoHash2 ?_; intro qq83 wq84 eqq85 szq86 bbq87 hNq88; have ltq89 : w.heap.size < wr.heap.size := hAw.lt; have hCq90 := hAw.below bbq87 hAw.lt; have hCq91 := Lib.hid (hO.out.below bbq87); have hBq92 := hBw.trans (bbq87.mono (hBw.size)); clear hAw hO hBw; clear bbq87 eqq85 szq86) | ((with_reducible show wpList _ _ _ (⟨some 44, _, _, _, _, _⟩ :: _) _ _); refine wpList_append_h19 rfl (.tmp 41) (.tmp 43) 34 rfl (w.heap.size + 1) 23 Try.underlying34 ⟨rfl, Try.infoHash3⟩ _ (O) [h] (by rfl) hCq91.out _ (by rfl) (hashes_one hNq88 HH.out (by omega)) (by simp; omega) (by have := hCq90.lt; omega) ?_; intro vq96 wq93 hkq94 gq95; have hltgq95 := hCq90.lt; have hCq97 := hCq90.grown gq95 (fun e => by have := (hCq91.out.2.lt _ e.symm).1; omega); have hBq98 := hBq92.grown gq95 hBq92.size (fun q e => by have := (hCq91.out.2.lt q e).1; omega); have hOq99 := Lib.hid hkq94; clear hkq94 gq95 hCq91 hNq88 hBq92 hCq90))
          go_returns
          exact ⟨_, _, rfl, hOq99.out.low (by omega), hR2.out, hM2.out, by simp; omega, hBq98⟩
set_option maxHeartbeats 8000000 in
set_option maxRecDepth 100000 in
theorem RWant_calls (v1 v2 : Value) (told hv : List HsT) (w : World) (h1 : HashesAt w v1 told) (h2 : HashesAt w v2 hv) (hn1 : told.length ≤ 100000) (hn2 : hv.length ≤ 100000) :
    Calls Try.prog 38 #[v1, v2] w fun e w' => ∃ v' R, e = .returned v' ∧ HashesAt w' v' (R.take 256) ∧ Rises R ∧ (∀ x, x ∈ R ↔ x ∈ told ∧ x ∉ hv) ∧ Below w.heap.size w w' := by
  obtain ⟨tao, tc, rfl, _⟩ := h1.slice
  have H1 := Lib.hid h1
  have H2 := Lib.hid h2
  obtain ⟨n, hnn⟩ : ∃ n, n = told.length := ⟨_, rfl⟩
  have HN := Lib.hid hnn
  rw [← hnn] at hn1 H1 ⊢
  have hb0 := Lib.hid (Below.refl w.heap.size w)
  clear h1 h2 hnn
  go_enter Try.func38, Try.ntmps38
  go_wp2_with fail
  go_loopw [5, 6] (fun ov iv wr => ∃ (i : Nat) (O : List HsT), i ≤ n ∧ iv = .int .i64 i ∧ Hid (HashOwn wr w.heap.size 23 ov O) ∧ Hid (Rises O) ∧ Hid (∀ x, x ∈ O ↔ x ∈ told.take i ∧ x ∉ hv) ∧ Hid (O.length ≤ i) ∧ Hid (Below w.heap.size w wr)) (fun _ iv _ => n - (intOf iv).toNat)
  case atStart => exact ⟨0, [], by omega, rfl, Lib.hid (HashOwn.nil _ _ _), Lib.hid List.Pairwise.nil, Lib.hid (by simp), Lib.hid (by simp), hb0⟩
  case round =>
    obtain ⟨i, O, hi, rfl, hO, hR, hM, hLn, hB⟩ := hrel
    clear hb0
    have hol := hLn.out
    by_cases hlt : i < n
    · obtain ⟨x, hx⟩ : ∃ x, told[i]? = some x := ⟨_, List.getElem?_eq_getElem (by rw [← HN.out]; exact hlt)⟩
      have hTw := H1.out.below hB.out
      obtain ⟨g, o, rfl, hrg⟩ := hTw.range i x hx
      have H32 : Hid (x.length = 32) := hTw.1 x (List.mem_of_getElem? hx)
      have HRG : Hid (∀ z, Below w.heap.size w z → z.rangeAt g (o + i * 32) (x.map bv)) := fun z hz => (H1.out.below hz).range' i x hx
      have HTK : Hid (told.take (i + 1) = told.take i ++ [x]) := by show _ = _; rw [List.take_add_one, hx]; rfl
      obtain ⟨D, hD⟩ : ∃ D, D = decide (x ∈ hv) := ⟨_, rfl⟩
      have HD := Lib.hid hD
      have cH : ∀ y, Below w.heap.size w y → Calls Try.prog 45 #[v2, .agg (x.map bv).toArray] y fun e w' => e = .returned (.bool D) ∧ Below y.heap.size y w' := fun y hy => by rw [hD]; exact Has15_calls _ hv x H32.out y (H2.out.below hy) (by omega)
      clear hx hTw hD
      go_wp2_with ((with_reducible show wpList _ _ _ (⟨some 17, _, _, _, _, _⟩ :: _) _ _); refine wpList_load_mid rfl 23 (.tmp 16) rfl g (o + i * 32) (by rfl) (x.map bv) _ hrg Try.underlying23 rfl (by rw [List.length_map, H32.out]; exact Try.sizeHash) ?_)
      refine (cH _ hB.out).mono ?_
      rintro e w5 ⟨rfl, b5⟩
      have hO5 := Lib.hid (hO.out.below b5)
      have hB5 := hB.out.trans (b5.mono hB.out.size)
      clear b5 cH hrg hO hB
      cases D with
      | true =>
        have hM5 : Hid (∀ y, y ∈ O ↔ y ∈ told.take (i + 1) ∧ y ∉ hv) := fun y => by
          have hxv : x ∈ hv := of_decide_eq_true HD.out.symm
          rw [hM.out, HTK.out, List.mem_append, List.mem_singleton]
          constructor
          · rintro ⟨h3, h4⟩; exact ⟨.inl h3, h4⟩
          · rintro ⟨h3 | h3, h4⟩
            · exact ⟨h3, h4⟩
            · rw [h3] at h4; exact absurd hxv h4
        have hBB := Lib.hid hB5
        clear hB5
        go_wp2_with fail
        go_roundw
        case rel => exact ⟨i + 1, O, by omega, by go_num, hO5, hR, hM5, Lib.hid (by omega), hBB⟩
        case measure => simp [intOf]; omega
      | false =>
        have hM5 : Hid (∀ R' : List HsT, (∀ y, y ∈ R' ↔ y ∈ O ∨ y = x) → ∀ y, y ∈ R' ↔ y ∈ told.take (i + 1) ∧ y ∉ hv) := fun R' hR' y => by
          have hxv : x ∉ hv := of_decide_eq_false HD.out.symm
          rw [hR', hM.out, HTK.out, List.mem_append, List.mem_singleton]
          constructor
          · rintro (⟨h3, h4⟩ | h3)
            · exact ⟨.inl h3, h4⟩
            · rw [h3]; exact ⟨.inr rfl, hxv⟩
          · rintro ⟨h3 | h3, h4⟩
            · exact .inl ⟨h3, h4⟩
            · exact .inr h3
        have hrg5 := HRG.out _ hB5
        go_wp2_with ((with_reducible show wpList _ _ _ (⟨some 24, _, _, _, _, _⟩ :: _) _ _); refine wpList_load_mid rfl 23 (.tmp 23) rfl g (o + i * 32) (by rfl) (x.map bv) _ hrg5 Try.underlying23 rfl (by rw [List.length_map, H32.out]; exact Try.sizeHash) ?_)
        refine (put19_calls w.heap.size _ O x _ hO5.out hR.out H32.out (by omega) hB5.size).mono ?_
        rintro e w6 ⟨v6, R6, rfl, h6, hr6, hm6, hl6, b6⟩
        have hO6 := Lib.hid h6
        have hR6 := Lib.hid hr6
        have hM6 : Hid (∀ y, y ∈ R6 ↔ y ∈ told.take (i + 1) ∧ y ∉ hv) := hM5.out R6 hm6
        have hB6 := Lib.hid (hB5.trans (b6.mono hB5.size))
        have hL6 : Hid (R6.length ≤ i + 1) := by show _ ≤ _; omega
        clear h6 hr6 hm6 hl6 b6 hO5 hR hM hB5 hrg5 hM5
        go_wp2_with fail
        go_roundw
        case rel => exact ⟨i + 1, R6, by omega, by go_num, hO6, hR6, hM6, hL6, hB6⟩
        case measure => simp [intOf]; omega
    · obtain rfl : i = n := by omega
      have hM7 : Hid (∀ x, x ∈ O ↔ x ∈ told ∧ x ∉ hv) := fun x => by
        have := hM.out x
        rwa [List.take_of_length_le (by have := HN.out; omega)] at this
      obtain ⟨oao, oc, rfl⟩ := hO.out.slice
      have hoc : O.length ≤ oc := own_capH hO.out.2
      by_cases hgt : 256 < O.length
      · have hcut := hO.out.cut 256 (by omega)
        go_wp2_with fail
        go_returns
        exact ⟨_, O, rfl, hcut, hR.out, hM7.out, hB.out⟩
      · have hle : O.take 256 = O := List.take_of_length_le (by omega)
        have HLE := Lib.hid hle
        clear hle
        go_wp2_with fail
        go_returns
        exact ⟨_, O, rfl, by rw [HLE.out]; exact hO.out.at, hR.out, hM7.out, hB.out⟩
set_option maxHeartbeats 8000000 in
set_option maxRecDepth 100000 in
theorem SameIds_calls (v1 v2 : Value) (l : List HsT) (w : World) (h1 : HashesAt w v1 l) (h2 : HashesAt w v2 l) (hn : l.length ≤ 1000000) :
    Calls Try.prog 36 #[v1, v2] w fun e w' => e = .returned (.bool true) ∧ Below w.heap.size w w' := by
  obtain ⟨xao, xc, rfl, _⟩ := h1.slice
  obtain ⟨yao, yc, rfl, _⟩ := h2.slice
  have H1 := Lib.hid h1
  have H2 := Lib.hid h2
  obtain ⟨n, hnn⟩ : ∃ n, n = l.length := ⟨_, rfl⟩
  have HN := Lib.hid hnn
  rw [← hnn] at hn H1 H2 ⊢
  have hb0 := Lib.hid (Below.refl w.heap.size w)
  clear h1 h2 hnn
  go_enter Try.func36, Try.ntmps36
  go_wp2_with fail
  go_loopw [5] (fun iv wr => ∃ (i : Nat), i ≤ n ∧ iv = .int .i64 i ∧ Hid (Below w.heap.size w wr)) (fun iv _ => n - (intOf iv).toNat)
  case atStart => exact ⟨0, by omega, rfl, hb0⟩
  case round =>
    obtain ⟨i, hi, rfl, hB⟩ := hrel
    clear hb0
    by_cases hlt : i < n
    · obtain ⟨q, hq⟩ : ∃ q, l[i]? = some q := ⟨_, List.getElem?_eq_getElem (by rw [← HN.out]; exact hlt)⟩
      obtain ⟨kg, ko, rfl, _⟩ := H1.out.range i q hq
      obtain ⟨yg, yo, rfl, _⟩ := H2.out.range i q hq
      have HQ : Hid (q.length = 32) := H1.out.1 q (List.mem_of_getElem? hq)
      have HKR : Hid (∀ x, Below w.heap.size w x → x.rangeAt kg (ko + i * 32) (q.map bv)) := fun x hx => (H1.out.below hx).range' i q hq
      have HYR : Hid (∀ x, Below w.heap.size w x → x.rangeAt yg (yo + i * 32) (q.map bv)) := fun x hx => (H2.out.below hx).range' i q hq
      have hqe : ∀ x, (Op.equalIn 10000 23 (.agg (q.map bv).toArray) (.agg (q.map bv).toArray)).run Try.prog x = .ok true x := fun x => by rw [run_eq_hash x _ _ HQ.out HQ.out, beq_self_eq_true]
      have hb3 := hB.out
      clear hq hB
      go_wp2_with fail
      refine wp_region_held_drew (S := fun x => Below w.heap.size w x) (by kernel_rfl) (below_drewN hb3 1) (fun hSq100 => ?_)
      refine wpAnyH_take (i := 0) (v := .slice (some ⟨kg, ko, none⟩) n xc) rfl (by kernel_rfl) (by kernel_rfl) (by kernel_rfl) (fun _ _ _ h => h) (Or.inl ⟨by rfl, fun x hx => by go_simp⟩) hSq100 ?_
      simp only [Act.put, List.getElem_toArray, List.getElem_cons_zero, List.getElem_cons_succ, List.setIfInBounds_toArray, List.set_cons_zero, List.set_cons_succ]
      refine wpAnyH_take (i := 1) (v := .int .i64 i) rfl (by kernel_rfl) (by kernel_rfl) (by kernel_rfl) (fun _ _ _ h => h) (Or.inl ⟨by rfl, fun x hx => by go_simp⟩) hSq100 ?_
      simp only [Act.put, List.getElem_toArray, List.getElem_cons_zero, List.getElem_cons_succ, List.setIfInBounds_toArray, List.set_cons_zero, List.set_cons_succ]
      refine wpAnyH_take (i := 2) (v := .pointer (some ⟨kg, ko + i * 32, none⟩)) rfl (by kernel_rfl) (by kernel_rfl) (by kernel_rfl) (fun _ _ _ h => h) (Or.inl ⟨by rfl, fun x hx => by go_simp⟩) hSq100 ?_
      simp only [Act.put, List.getElem_toArray, List.getElem_cons_zero, List.getElem_cons_succ, List.setIfInBounds_toArray, List.set_cons_zero, List.set_cons_succ]
      refine wpAnyH_take (i := 3) rfl (by kernel_rfl) (by kernel_rfl) (by kernel_rfl) (fun _ _ _ h => h) (yieldsIf_load_mid (by rfl) 23 (.tmp 19) rfl (kg) (ko + i * 32) (by rfl) (q.map bv) _ (fun x hx => HKR.out x hx) Try.underlying23 rfl (by rw [List.length_map, HQ.out]; exact Try.sizeHash)) hSq100 ?_
      simp only [Act.put, List.getElem_toArray, List.getElem_cons_zero, List.getElem_cons_succ, List.setIfInBounds_toArray, List.set_cons_zero, List.set_cons_succ]
      refine wpAnyH_take (i := 4) (v := .slice (some ⟨yg, yo, none⟩) n yc) rfl (by kernel_rfl) (by kernel_rfl) (by kernel_rfl) (fun _ _ _ h => h) (Or.inl ⟨by rfl, fun x hx => by go_simp⟩) hSq100 ?_
      simp only [Act.put, List.getElem_toArray, List.getElem_cons_zero, List.getElem_cons_succ, List.setIfInBounds_toArray, List.set_cons_zero, List.set_cons_succ]
      refine wpAnyH_take (i := 5) (v := .int .i64 i) rfl (by kernel_rfl) (by kernel_rfl) (by kernel_rfl) (fun _ _ _ h => h) (Or.inl ⟨by rfl, fun x hx => by go_simp⟩) hSq100 ?_
      simp only [Act.put, List.getElem_toArray, List.getElem_cons_zero, List.getElem_cons_succ, List.setIfInBounds_toArray, List.set_cons_zero, List.set_cons_succ]
      refine wpAnyH_take (i := 6) (v := .pointer (some ⟨yg, yo + i * 32, none⟩)) rfl (by kernel_rfl) (by kernel_rfl) (by kernel_rfl) (fun _ _ _ h => h) (Or.inl ⟨by rfl, fun x hx => by go_simp⟩) hSq100 ?_
      simp only [Act.put, List.getElem_toArray, List.getElem_cons_zero, List.getElem_cons_succ, List.setIfInBounds_toArray, List.set_cons_zero, List.set_cons_succ]
      refine wpAnyH_take (i := 7) rfl (by kernel_rfl) (by kernel_rfl) (by kernel_rfl) (fun _ _ _ h => h) (yieldsIf_load_mid (by rfl) 23 (.tmp 23) rfl (yg) (yo + i * 32) (by rfl) (q.map bv) _ (fun x hx => HYR.out x hx) Try.underlying23 rfl (by rw [List.length_map, HQ.out]; exact Try.sizeHash)) hSq100 ?_
      simp only [Act.put, List.getElem_toArray, List.getElem_cons_zero, List.getElem_cons_succ, List.setIfInBounds_toArray, List.set_cons_zero, List.set_cons_succ]
      refine wpAnyH_take (i := 8) (v := .bool false) rfl (by kernel_rfl) (by kernel_rfl) (by kernel_rfl) (fun _ _ _ h => h) (Or.inl ⟨by rfl, fun x hx => by go_simp⟩) hSq100 ?_
      simp only [Act.put, List.getElem_toArray, List.getElem_cons_zero, List.getElem_cons_succ, List.setIfInBounds_toArray, List.set_cons_zero, List.set_cons_succ]
      refine wpAnyH_done (by kernel_rfl) ?_ _
      have HB7 := Lib.hid hSq100
      clear hSq100 hqe
      go_wp2_with fail
      go_roundw
      case rel => exact ⟨i + 1, by omega, by go_num, HB7⟩
      case measure => simp [intOf]; omega
    · obtain rfl : i = n := by omega
      go_wp2_with fail
      go_returns
      exact ⟨rfl, hB.out⟩
end Go.Proofs.Ytlomofcnknpciaa
