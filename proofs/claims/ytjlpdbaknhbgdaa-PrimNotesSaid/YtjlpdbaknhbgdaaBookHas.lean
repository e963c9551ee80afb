/-
  The document's Has and Alike.
-/
import Derived.Test.YtjlpdbaknhbgdaaBookHash
set_option linter.unusedSimpArgs false
set_option linter.unusedVariables false
namespace Go.Proofs.Ytjlpdbaknhbgdaa
open Go.RowKit

theorem run_eq_h2 (w : World) (a b : List UInt8) (ha : a.length = 32) (hb : b.length = 32) :
    (Op.equalIn 10000 25 (.agg (a.map bv).toArray) (.agg (b.map bv).toArray)).run Try.prog w = .ok (a == b) w := by
  obtain ⟨i, hi⟩ := Try.infoU8h
  exact run_eq_bytes w 9998 32 25 5 i Try.underlying25 Try.underlying5 Try.plainU8 hi Try.cellsU8e a b ha hb
set_option maxHeartbeats 4000000 in
set_option maxRecDepth 100000 in
theorem Has_calls (v : Value) (l : List (List UInt8)) (h : List UInt8) (hh : h.length = 32) (w : World) (hl : HashesAt w v l) (hn : l.length ≤ 1000000) :
    Calls Try.prog 40 #[v, .agg (h.map bv).toArray] w fun e w' => e = .returned (.bool (decide (h ∈ l))) ∧ Below w.heap.size w w' := by
  obtain ⟨ao, c, rfl, hc⟩ := hl.slice
  have hb0 := below_alloc1 w (.cells (h.map bv).toArray 25)
  have hA0 := Blk.new w (h.map bv).toArray 25
  have H := Lib.hid (hl.below hb0)
  obtain ⟨n, hne⟩ : ∃ n, n = l.length := ⟨_, rfl⟩
  rw [← hne] at hc hn H ⊢
  have HN := Lib.hid hne
  have HH := Lib.hid hh
  obtain ⟨D, hD⟩ : ∃ D, D = decide (h ∈ l) := ⟨_, rfl⟩
  rw [← hD]
  have HD := Lib.hid hD
  obtain ⟨W, hW⟩ : ∃ W, W = w.alloc (.cells (h.map bv).toArray 25) := ⟨_, rfl⟩
  rw [← hW] at hb0 hA0 H
  have HA := Lib.hid hA0
  have HB0 := Lib.hid hb0
  have h32 := Lib.hid hl.1
  clear hl hne hh hD hA0 hb0
  go_enter Try.func40, Try.ntmps40
  go_wp2_with fail
  rw [← hW]
  clear hW
  go_loopw [5] (fun i wr => ∃ (k : Nat), k ≤ n ∧ i = .int .i64 (k : Nat) ∧ Hid (h ∉ l.take k) ∧ Hid (∃ q, wr = W.drewN q)) (fun i _ => n - (intOf i).toNat)
  case atStart => exact ⟨0, by omega, rfl, Lib.hid (by simp), Lib.hid ⟨0, rfl⟩⟩
  case round =>
    obtain ⟨k, hk, rfl, HK, HQ⟩ := hrel
    obtain ⟨q, rfl⟩ := HQ.out
    clear HQ
    by_cases hlt : k < n
    · obtain ⟨s, hs⟩ : ∃ s, l[k]? = some s := ⟨l[k]'(by rw [← HN.out]; exact hlt), List.getElem?_eq_getElem _⟩
      have HS := Lib.hid (h32.out s (List.mem_of_getElem? hs))
      have HSK := Lib.hid hs
      obtain ⟨g, o, rfl, hr⟩ := H.out.range k s hs
      have hr1 := Lib.hid (range_drewN (w := W.drewN q) (fun j v hj => hr j v hj))
      have hr2 := Lib.hid (range_drewN (w := W.drewN q) (b := w.heap.size) (o := 0) (cs := h.map bv) (fun j v hj => by rw [Nat.zero_add]; exact HA.out.cell j v (by rw [List.getElem?_toArray]; exact hj)))
      have hi1 : Hid ((Try.prog.info? 25).map (·.size) = some (s.map bv).length) := by show _ = _; rw [List.length_map, HS.out]; exact Try.sizeA32
      have hi2 : Hid ((Try.prog.info? 25).map (·.size) = some (h.map bv).length) := by show _ = _; rw [List.length_map, HH.out]; exact Try.sizeA32
      have hu := Lib.hid Try.underlying25
      clear hs hr
      by_cases he : s = h
      · subst he
        have hD : Hid (D = true) := by show _ = _; rw [HD.out]; exact decide_eq_true (List.mem_of_getElem? HSK.out)
        have heq : ∀ x, (Op.equalIn 10000 25 (.agg (s.map bv).toArray) (.agg (s.map bv).toArray)).run Try.prog x = .ok true x := fun x => by rw [run_eq_h2 x s s HS.out HS.out]; simp
        go_wp2_with fail
        refine wp_region_quiet_lit (by kernel_rfl) (by kernel_rfl) ?_
        repeat (first | ((with_reducible show wpQuiet _ _ _ _ (⟨some 15, _, _, _, _, _⟩ :: _) _); refine wpQuiet_loadMid (by rfl) 25 (.tmp 14) rfl g (o + k * 32) (by rfl) (s.map bv) _ hr1.out hu.out rfl hi1.out ?_; simp only [Act.put, List.setIfInBounds_toArray, List.set_cons_succ, List.set_cons_zero]) | ((with_reducible show wpQuiet _ _ _ _ (⟨some 16, _, _, _, _, _⟩ :: _) _); refine wpQuiet_loadMid (by rfl) 25 (.tmp 3) rfl w.heap.size 0 (by rfl) (s.map bv) _ hr2.out hu.out rfl hi2.out ?_; simp only [Act.put, List.setIfInBounds_toArray, List.set_cons_succ, List.set_cons_zero]) | go_big_quiet_step (fail))
        refine wpQuiet_nil ?_
        intro _ hw'
        obtain ⟨nq, hw''⟩ := hw'
        subst hw''
        clear heq
        go_wp2_with fail
        go_returns
        exact ⟨by rw [hD.out]; rfl, below_drewN (below_drewN HB0.out _) _⟩
      · have heq : ∀ x, (Op.equalIn 10000 25 (.agg (s.map bv).toArray) (.agg (h.map bv).toArray)).run Try.prog x = .ok false x := fun x => by
          rw [run_eq_h2 x s h HS.out HH.out, show (s == h) = false by rw [beq_eq_false_iff_ne]; exact he]
        have HK2 : Hid (h ∉ l.take (k + 1)) := by
          show _ ∉ _
          obtain ⟨h3, h4⟩ := List.getElem?_eq_some_iff.1 HSK.out
          rw [List.take_succ_eq_append_getElem h3, h4, List.mem_append]
          rintro (h5 | h5)
          · exact HK.out h5
          · exact he (List.mem_singleton.1 h5).symm
        go_wp2_with fail
        refine wp_region_quiet_lit (by kernel_rfl) (by kernel_rfl) ?_
        repeat (first | ((with_reducible show wpQuiet _ _ _ _ (⟨some 15, _, _, _, _, _⟩ :: _) _); refine wpQuiet_loadMid (by rfl) 25 (.tmp 14) rfl g (o + k * 32) (by rfl) (s.map bv) _ hr1.out hu.out rfl hi1.out ?_; simp only [Act.put, List.setIfInBounds_toArray, List.set_cons_succ, List.set_cons_zero]) | ((with_reducible show wpQuiet _ _ _ _ (⟨some 16, _, _, _, _, _⟩ :: _) _); refine wpQuiet_loadMid (by rfl) 25 (.tmp 3) rfl w.heap.size 0 (by rfl) (h.map bv) _ hr2.out hu.out rfl hi2.out ?_; simp only [Act.put, List.setIfInBounds_toArray, List.set_cons_succ, List.set_cons_zero]) | go_big_quiet_step (fail))
        refine wpQuiet_nil ?_
        intro _ hw'
        obtain ⟨nq, hw''⟩ := hw'
        subst hw''
        clear heq
        go_wp2_with fail
        go_roundw
        case rel => exact ⟨k + 1, by omega, by go_num, HK2, Lib.hid ⟨_, rfl⟩⟩
        case measure => simp [intOf]; omega
    · have hD : Hid (D = false) := by
        show _ = _
        have e := HK.out
        rw [show k = l.length by rw [← HN.out]; omega, List.take_length] at e
        rw [HD.out]; exact decide_eq_false e
      go_wp2_with fail
      go_returns
      exact ⟨by rw [hD.out]; rfl, below_drewN HB0.out _⟩
set_option maxHeartbeats 4000000 in
set_option maxRecDepth 100000 in
theorem Alike_calls (v1 v2 : Value) (a b : List (List UInt8)) (w : World) (h1 : HashesAt w v1 a) (h2 : HashesAt w v2 b) (hn : a.length ≤ 1000000) (hn2 : b.length ≤ 1000000) :
    Calls Try.prog 18 #[v1, v2] w fun e w' => e = .returned (.bool (decide (a = b))) ∧ Below w.heap.size w w' := by
  obtain ⟨ao, c, rfl, hc⟩ := h1.slice
  obtain ⟨ao2, c2, rfl, hc2⟩ := h2.slice
  have H1 := Lib.hid h1
  have H2 := Lib.hid h2
  obtain ⟨n, hne⟩ : ∃ n, n = a.length := ⟨_, rfl⟩
  obtain ⟨m, hme⟩ : ∃ m, m = b.length := ⟨_, rfl⟩
  rw [← hne] at hc hn H1 ⊢
  rw [← hme] at hc2 hn2 H2 ⊢
  have HN := Lib.hid hne
  have HM := Lib.hid hme
  obtain ⟨D, hD⟩ : ∃ D, D = decide (a = b) := ⟨_, rfl⟩
  rw [← hD]
  have HD := Lib.hid hD
  clear h1 h2 hne hme hD
  by_cases hnm : n = m
  · subst hnm
    go_enter Try.func18, Try.ntmps18
    go_wp2_with fail
    go_loopw [5] (fun i wr => ∃ (k : Nat), k ≤ n ∧ i = .int .i64 (k : Nat) ∧ Hid (a.take k = b.take k) ∧ Hid (∃ q, wr = w.drewN q)) (fun i _ => n - (intOf i).toNat)
    case atStart => exact ⟨0, by omega, rfl, Lib.hid rfl, Lib.hid ⟨0, rfl⟩⟩
    case round =>
      obtain ⟨k, hk, rfl, HK, HQ⟩ := hrel
      obtain ⟨q, rfl⟩ := HQ.out
      clear HQ
      by_cases hlt : k < n
      · obtain ⟨s, hs⟩ : ∃ s, a[k]? = some s := ⟨a[k]'(by rw [← HN.out]; exact hlt), List.getElem?_eq_getElem _⟩
        obtain ⟨t, ht⟩ : ∃ t, b[k]? = some t := ⟨b[k]'(by rw [← HM.out]; exact hlt), List.getElem?_eq_getElem _⟩
        have HS := Lib.hid (H1.out.1 s (List.mem_of_getElem? hs))
        have HT := Lib.hid (H2.out.1 t (List.mem_of_getElem? ht))
        have HSK := Lib.hid hs
        have HTK := Lib.hid ht
        obtain ⟨g, o, rfl, hr⟩ := H1.out.range k s hs
        obtain ⟨g2, o2, rfl, hr'⟩ := H2.out.range k t ht
        have hr1 := Lib.hid (range_drewN (w := w.drewN q) (fun j v hj => hr j v hj))
        have hr2 := Lib.hid (range_drewN (w := w.drewN q) (fun j v hj => hr' j v hj))
        have hi1 : Hid ((Try.prog.info? 25).map (·.size) = some (s.map bv).length) := by show _ = _; rw [List.length_map, HS.out]; exact Try.sizeA32
        have hi2 : Hid ((Try.prog.info? 25).map (·.size) = some (t.map bv).length) := by show _ = _; rw [List.length_map, HT.out]; exact Try.sizeA32
        have hu := Lib.hid Try.underlying25
        clear hs ht hr hr'
        by_cases he : s = t
        · subst he
          have heq : ∀ x, (Op.equalIn 10000 25 (.agg (s.map bv).toArray) (.agg (s.map bv).toArray)).run Try.prog x = .ok true x := fun x => by rw [run_eq_h2 x s s HS.out HS.out]; simp
          have HK2 : Hid (a.take (k + 1) = b.take (k + 1)) := by
            show _ = _
            obtain ⟨h3, h4⟩ := List.getElem?_eq_some_iff.1 HSK.out
            obtain ⟨h5, h6⟩ := List.getElem?_eq_some_iff.1 HTK.out
            rw [List.take_succ_eq_append_getElem h3, List.take_succ_eq_append_getElem h5, h4, h6, HK.out]
          go_wp2_with fail
          refine wp_region_quiet_lit (by kernel_rfl) (by kernel_rfl) ?_
          repeat (first | ((with_reducible show wpQuiet _ _ _ _ (⟨some 20, _, _, _, _, _⟩ :: _) _); refine wpQuiet_loadMid (by rfl) 25 (.tmp 19) rfl g (o + k * 32) (by rfl) (s.map bv) _ hr1.out hu.out rfl hi1.out ?_; simp only [Act.put, List.setIfInBounds_toArray, List.set_cons_succ, List.set_cons_zero]) | ((with_reducible show wpQuiet _ _ _ _ (⟨some 24, _, _, _, _, _⟩ :: _) _); refine wpQuiet_loadMid (by rfl) 25 (.tmp 23) rfl g2 (o2 + k * 32) (by rfl) (s.map bv) _ hr2.out hu.out rfl hi2.out ?_; simp only [Act.put, List.setIfInBounds_toArray, List.set_cons_succ, List.set_cons_zero]) | go_big_quiet_step (fail))
          refine wpQuiet_nil ?_
          intro _ hw'
          obtain ⟨nq, hw''⟩ := hw'
          subst hw''
          clear heq
          go_wp2_with fail
          go_roundw
          case rel => exact ⟨k + 1, by omega, by go_num, HK2, Lib.hid ⟨_, rfl⟩⟩
          case measure => simp [intOf]; omega
        · have heq : ∀ x, (Op.equalIn 10000 25 (.agg (s.map bv).toArray) (.agg (t.map bv).toArray)).run Try.prog x = .ok false x := fun x => by
            rw [run_eq_h2 x s t HS.out HT.out, show (s == t) = false by rw [beq_eq_false_iff_ne]; exact he]
          have hD : Hid (D = false) := by
            show _ = _
            rw [HD.out]
            refine decide_eq_false fun e => he ?_
            have h7 := HSK.out
            rw [e, HTK.out] at h7
            simpa using h7.symm
          go_wp2_with fail
          refine wp_region_quiet_lit (by kernel_rfl) (by kernel_rfl) ?_
          repeat (first | ((with_reducible show wpQuiet _ _ _ _ (⟨some 20, _, _, _, _, _⟩ :: _) _); refine wpQuiet_loadMid (by rfl) 25 (.tmp 19) rfl g (o + k * 32) (by rfl) (s.map bv) _ hr1.out hu.out rfl hi1.out ?_; simp only [Act.put, List.setIfInBounds_toArray, List.set_cons_succ, List.set_cons_zero]) | ((with_reducible show wpQuiet _ _ _ _ (⟨some 24, _, _, _, _, _⟩ :: _) _); refine wpQuiet_loadMid (by rfl) 25 (.tmp 23) rfl g2 (o2 + k * 32) (by rfl) (t.map bv) _ hr2.out hu.out rfl hi2.out ?_; simp only [Act.put, List.setIfInBounds_toArray, List.set_cons_succ, List.set_cons_zero]) | go_big_quiet_step (fail))
          refine wpQuiet_nil ?_
          intro _ hw'
          obtain ⟨nq, hw''⟩ := hw'
          subst hw''
          clear heq
          go_wp2_with fail
          go_returns
          exact ⟨by rw [hD.out]; rfl, below_drewN (below_drewN (Below.refl _ _) _) _⟩
      · have hD : Hid (D = true) := by
          show _ = _
          have e := HK.out
          rw [show k = n by omega] at e
          have e1 : a.take n = a := by rw [HN.out, List.take_length]
          have e2 : b.take n = b := by rw [HM.out, List.take_length]
          rw [e1, e2] at e
          rw [HD.out]; exact decide_eq_true e
        go_wp2_with fail
        go_returns
        exact ⟨by rw [hD.out]; rfl, below_drewN (Below.refl _ _) _⟩
  · have hD : Hid (D = false) := by show _ = _; rw [HD.out]; exact decide_eq_false fun e => hnm (by rw [HN.out, HM.out, e])
    have hne : ((n : Int) == (m : Int)) = false := by rw [beq_eq_false_iff_ne]; omega
    go_enter Try.func18, Try.ntmps18
    go_wp2_with fail
    go_returns
    exact ⟨by rw [hD.out]; rfl, Below.refl _ _⟩
end Go.Proofs.Ytjlpdbaknhbgdaa
