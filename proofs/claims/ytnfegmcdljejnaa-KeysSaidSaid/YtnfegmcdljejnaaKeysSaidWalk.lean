/-
  KeysSaid: what was said, contexts, tags and spots are the document's: for all digests, depths and cores.
-/
import Derived.Test.YtnfegmcdljejnaaKeysSpotsWalk
set_option linter.unusedSimpArgs false
set_option linter.unusedVariables false
namespace Go.Proofs.Ytnfegmcdljejnaa
open Go.RowKit

set_option maxHeartbeats 4000000 in
set_option maxRecDepth 100000 in
theorem walkKeysSaid_long (a c d : List UInt8) (ha : a.length = 32) (hc : c.length = 32) (hd : d.length = 32) (n : Int) (s : List UInt8) (hm : s.length ≤ maxLen) (hs : ¬ s.length ≤ 5000) (w : World) :
    Calls Try.prog 9 #[.agg (a.map bv).toArray, .agg (c.map bv).toArray, .agg (d.map bv).toArray, .int .i64 n, .string (str s)] w fun e w' => e = .returned (.bool true) ∧ Below w.heap.size w w' := by
  unfold maxLen at hm
  have HA := Lib.hid ha
  have HC := Lib.hid hc
  have HD := Lib.hid hd
  clear ha hc hd
  have hA0 : Blk (((w.alloc (.cells (a.map bv).toArray 23)).alloc (.cells (c.map bv).toArray 23)).alloc (.cells (d.map bv).toArray 23)) w.heap.size (a.map bv).toArray 23 := ((Blk.new _ _ _).alloc _).alloc _
  have hC0 : Blk (((w.alloc (.cells (a.map bv).toArray 23)).alloc (.cells (c.map bv).toArray 23)).alloc (.cells (d.map bv).toArray 23)) (w.heap.size + 1) (c.map bv).toArray 23 := (blk_new1 _ _ _ _).alloc _
  have hD0 : Blk (((w.alloc (.cells (a.map bv).toArray 23)).alloc (.cells (c.map bv).toArray 23)).alloc (.cells (d.map bv).toArray 23)) (w.heap.size + 1 + 1) (d.map bv).toArray 23 := blk_new2 _ _ _ _ _ _ _
  have hb0 : Below w.heap.size w (((w.alloc (.cells (a.map bv).toArray 23)).alloc (.cells (c.map bv).toArray 23)).alloc (.cells (d.map bv).toArray 23)) := (((Below.refl _ _).alloc (Nat.le_refl _) _).alloc (by simp) _).alloc (by simp; omega) _
  go_enter Try.func9, Try.ntmps9
  go_wp2_with fail
  generalize ((w.alloc (.cells (a.map bv).toArray 23)).alloc (.cells (c.map bv).toArray 23)).alloc (.cells (d.map bv).toArray 23) = W0 at hA0 hC0 hD0 hb0 ⊢
  refine (awake_calls _).mono ?_
  rintro e w1 ⟨rfl, b1⟩
  have hA1 := hA0.below b1 hA0.lt
  have hC1 := hC0.below b1 hC0.lt
  have hD1 := hD0.below b1 hD0.lt
  have hb1 := hb0.trans (b1.mono hb0.size)
  clear hA0 hC0 hD0 hb0 b1
  go_wp2_with fail
  refine (awake_calls _).mono ?_
  rintro e w2 ⟨rfl, b2⟩
  go_wp2_with fail
  go_returns
  exact ⟨rfl, hb1.trans (b2.mono hb1.size)⟩
set_option maxHeartbeats 4000000 in
set_option maxRecDepth 100000 in
theorem walkKeysSaid_bad (a c d : List UInt8) (ha : a.length = 32) (hc : c.length = 32) (hd : d.length = 32) (n : Int) (s : List UInt8) (hs : s.length ≤ 5000) (hn : n < 0 ∨ 4611686018427387903 < n) (w : World) :
    Calls Try.prog 9 #[.agg (a.map bv).toArray, .agg (c.map bv).toArray, .agg (d.map bv).toArray, .int .i64 n, .string (str s)] w fun e w' => e = .returned (.bool true) ∧ Below w.heap.size w w' := by
  have HA := Lib.hid ha
  have HC := Lib.hid hc
  have HD := Lib.hid hd
  clear ha hc hd
  have hA0 : Blk (((w.alloc (.cells (a.map bv).toArray 23)).alloc (.cells (c.map bv).toArray 23)).alloc (.cells (d.map bv).toArray 23)) w.heap.size (a.map bv).toArray 23 := ((Blk.new _ _ _).alloc _).alloc _
  have hC0 : Blk (((w.alloc (.cells (a.map bv).toArray 23)).alloc (.cells (c.map bv).toArray 23)).alloc (.cells (d.map bv).toArray 23)) (w.heap.size + 1) (c.map bv).toArray 23 := (blk_new1 _ _ _ _).alloc _
  have hD0 : Blk (((w.alloc (.cells (a.map bv).toArray 23)).alloc (.cells (c.map bv).toArray 23)).alloc (.cells (d.map bv).toArray 23)) (w.heap.size + 1 + 1) (d.map bv).toArray 23 := blk_new2 _ _ _ _ _ _ _
  have hb0 : Below w.heap.size w (((w.alloc (.cells (a.map bv).toArray 23)).alloc (.cells (c.map bv).toArray 23)).alloc (.cells (d.map bv).toArray 23)) := (((Below.refl _ _).alloc (Nat.le_refl _) _).alloc (by simp) _).alloc (by simp; omega) _
  obtain ⟨u, hu⟩ : ∃ t, t = saidT a s := ⟨_, rfl⟩
  have hul : u.length = 32 := by rw [hu]; exact saidT_len _ _
  have c1 : ∀ x, Calls Try.prog 44 #[.agg (a.map bv).toArray, .string (str s)] x fun e w' => e = .returned (.agg (u.map bv).toArray) ∧ Below x.heap.size x w' := by rw [hu]; exact fun x => Said_calls a s x HA.out hs
  have c2 : ∀ x, Calls Try.prog 45 #[.agg (a.map bv).toArray, .string (str s)] x fun e w' => e = .returned (.agg (u.map bv).toArray) ∧ Below x.heap.size x w' := by rw [hu]; exact fun x => RefSaid_calls a s x HA.out hs
  have hq1 : ∀ x, (Op.equalIn 10000 23 (.agg (u.map bv).toArray) (.agg (u.map bv).toArray)).run Try.prog x = .ok true x := fun x => by
    rw [run_eq_hash x _ _ hul hul, beq_self_eq_true]
  clear hu hul
  obtain ⟨t, ht⟩ : ∃ t, t = tagT a c := ⟨_, rfl⟩
  have htl : t.length = 32 := by rw [ht]; exact hmac_len _ _
  have c3 : ∀ x, Calls Try.prog 26 #[.agg (a.map bv).toArray, .agg (c.map bv).toArray] x fun e w' => e = .returned (.agg (t.map bv).toArray) ∧ Below x.heap.size x w' := by rw [ht]; exact fun x => Tag_calls a c x HA.out HC.out
  have c4 : ∀ x, Calls Try.prog 27 #[.agg (a.map bv).toArray, .agg (c.map bv).toArray] x fun e w' => e = .returned (.agg (t.map bv).toArray) ∧ Below x.heap.size x w' := by rw [ht]; exact fun x => RefTag_calls a c x HA.out HC.out
  have hq2 : ∀ x, (Op.equalIn 10000 23 (.agg (t.map bv).toArray) (.agg (t.map bv).toArray)).run Try.prog x = .ok true x := fun x => by
    rw [run_eq_hash x _ _ htl htl, beq_self_eq_true]
  clear ht htl
  obtain ⟨m, hm⟩ : ∃ m, m = spotT s := ⟨_, rfl⟩
  have c5 : ∀ x, Calls Try.prog 28 #[.string (str s)] x fun e w' => e = .returned (.int .i64 m) ∧ Below x.heap.size x w' := by rw [hm]; exact fun x => Spot_calls s x hs
  have c6 : ∀ x, Calls Try.prog 29 #[.string (str s)] x fun e w' => e = .returned (.int .i64 m) ∧ Below x.heap.size x w' := by rw [hm]; exact fun x => RefSpot_calls s x hs
  clear hm
  have HN := Lib.hid hn
  have cb : ∀ x, Calls Try.prog 46 #[.agg (a.map bv).toArray, .int .i64 n, .agg (c.map bv).toArray, .agg (d.map bv).toArray] x fun e w' => e = .returned (.string (str [])) ∧ Below x.heap.size x w' := fun x => ContextBad_calls a c d n x HA.out HC.out HD.out HN.out
  go_enter Try.func9, Try.ntmps9
  go_wp2_with fail
  generalize ((w.alloc (.cells (a.map bv).toArray 23)).alloc (.cells (c.map bv).toArray 23)).alloc (.cells (d.map bv).toArray 23) = W0 at hA0 hC0 hD0 hb0 ⊢
  refine (awake_calls _).mono ?_
  rintro e w1 ⟨rfl, b1⟩
  have hA1 := hA0.below b1 hA0.lt
  have hC1 := hC0.below b1 hC0.lt
  have hD1 := hD0.below b1 hD0.lt
  have hb1 := hb0.trans (b1.mono hb0.size)
  clear hA0 hC0 hD0 hb0 b1
  go_wp2_with fail
  refine wp_region_held_drew (S := fun x => Blk x (w.heap.size) (a.map bv).toArray 23 ∧ Blk x (w.heap.size + 1) (c.map bv).toArray 23 ∧ Blk x (w.heap.size + 1 + 1) (d.map bv).toArray 23 ∧ Below w.heap.size w x) (by kernel_rfl) ⟨hA1.drew, hC1.drew, hD1.drew, below_drewN hb1 1⟩ (fun hHeld3x0 => ?_)
  refine wpAnyH_take (i := 0) rfl (by kernel_rfl) (by kernel_rfl) (by kernel_rfl) (fun _ _ _ h => h) (yieldsIf_load_mid (by rfl) 23 (.tmp 5) rfl (w.heap.size) 0 (by rfl) (a.map bv) _ (fun x hx => blk_range hx.1) Try.underlying23 rfl (by rw [List.length_map, HA.out]; exact Try.sizeHash)) hHeld3x0 ?_
  simp only [Act.put, List.getElem_toArray, List.getElem_cons_zero, List.getElem_cons_succ, List.setIfInBounds_toArray, List.set_cons_zero, List.set_cons_succ]
  refine wpAnyH_take (i := 1) (v := .string (str s)) rfl (by kernel_rfl) (by kernel_rfl) (by kernel_rfl) (fun _ _ _ h => h) (Or.inl ⟨by rfl, fun x hx => by go_simp⟩) hHeld3x0 ?_
  simp only [Act.put, List.getElem_toArray, List.getElem_cons_zero, List.getElem_cons_succ, List.setIfInBounds_toArray, List.set_cons_zero, List.set_cons_succ]
  refine wpAnyH_take (i := 3) rfl (by kernel_rfl) (by kernel_rfl) (by kernel_rfl) (fun _ _ _ h => h) (yieldsIf_load_mid (by rfl) 23 (.tmp 5) rfl (w.heap.size) 0 (by rfl) (a.map bv) _ (fun x hx => blk_range hx.1) Try.underlying23 rfl (by rw [List.length_map, HA.out]; exact Try.sizeHash)) hHeld3x0 ?_
  simp only [Act.put, List.getElem_toArray, List.getElem_cons_zero, List.getElem_cons_succ, List.setIfInBounds_toArray, List.set_cons_zero, List.set_cons_succ]
  refine wpAnyH_take (i := 4) (v := .string (str s)) rfl (by kernel_rfl) (by kernel_rfl) (by kernel_rfl) (fun _ _ _ h => h) (Or.inl ⟨by rfl, fun x hx => by go_simp⟩) hHeld3x0 ?_
  simp only [Act.put, List.getElem_toArray, List.getElem_cons_zero, List.getElem_cons_succ, List.setIfInBounds_toArray, List.set_cons_zero, List.set_cons_succ]
  refine wpAnyH_ready (rs := [2]) (by kernel_rfl) (by simp) ?_
  refine AllReadyH.cons rfl (fun K hK => ?_) AllReadyH.nil
  go_simp
  go_wp2_with (go_at_call 44; refine (c1 _).mono ?_; rintro e y3x1 ⟨rfl, b3x1⟩)
  refine hK.out _ _ ⟨hHeld3x0.1.below b3x1 hHeld3x0.1.lt, hHeld3x0.2.1.below b3x1 hHeld3x0.2.1.lt, hHeld3x0.2.2.1.below b3x1 hHeld3x0.2.2.1.lt, hHeld3x0.2.2.2.trans (b3x1.mono hHeld3x0.2.2.2.size)⟩ (fun hHeld3x1 => ?_)
  clear hK K hHeld3x0 b3x1
  refine wpAnyH_ready (rs := [5]) (by kernel_rfl) (by simp) ?_
  refine AllReadyH.cons rfl (fun K hK => ?_) AllReadyH.nil
  go_simp
  go_wp2_with (go_at_call 45; refine (c2 _).mono ?_; rintro e y3x2 ⟨rfl, b3x2⟩)
  refine hK.out _ _ ⟨hHeld3x1.1.below b3x2 hHeld3x1.1.lt, hHeld3x1.2.1.below b3x2 hHeld3x1.2.1.lt, hHeld3x1.2.2.1.below b3x2 hHeld3x1.2.2.1.lt, hHeld3x1.2.2.2.trans (b3x2.mono hHeld3x1.2.2.2.size)⟩ (fun hHeld3x2 => ?_)
  clear hK K hHeld3x1 b3x2
  refine wpAnyH_take (i := 6) (v := .bool false) rfl (by kernel_rfl) (by kernel_rfl) (by kernel_rfl) (fun _ _ _ h => h) (Or.inl ⟨by rfl, fun x hx => by go_simp⟩) hHeld3x2 ?_
  simp only [Act.put, List.getElem_toArray, List.getElem_cons_zero, List.getElem_cons_succ, List.setIfInBounds_toArray, List.set_cons_zero, List.set_cons_succ]
  refine wpAnyH_take (i := 7) (v := .bool false) rfl (by kernel_rfl) (by kernel_rfl) (by kernel_rfl) (fun _ _ _ h => h) (Or.inl ⟨by rfl, fun x hx => by go_simp⟩) hHeld3x2 ?_
  simp only [Act.put, List.getElem_toArray, List.getElem_cons_zero, List.getElem_cons_succ, List.setIfInBounds_toArray, List.set_cons_zero, List.set_cons_succ]
  refine wpAnyH_take (i := 8) rfl (by kernel_rfl) (by kernel_rfl) (by kernel_rfl) (fun _ _ _ h => h) (yieldsIf_load_mid (by rfl) 23 (.tmp 5) rfl (w.heap.size) 0 (by rfl) (a.map bv) _ (fun x hx => blk_range hx.1) Try.underlying23 rfl (by rw [List.length_map, HA.out]; exact Try.sizeHash)) hHeld3x2 ?_
  simp only [Act.put, List.getElem_toArray, List.getElem_cons_zero, List.getElem_cons_succ, List.setIfInBounds_toArray, List.set_cons_zero, List.set_cons_succ]
  refine wpAnyH_take (i := 9) rfl (by kernel_rfl) (by kernel_rfl) (by kernel_rfl) (fun _ _ _ h => h) (yieldsIf_load_mid (by rfl) 23 (.tmp 6) rfl (w.heap.size + 1) 0 (by rfl) (c.map bv) _ (fun x hx => blk_range hx.2.1) Try.underlying23 rfl (by rw [List.length_map, HC.out]; exact Try.sizeHash)) hHeld3x2 ?_
  simp only [Act.put, List.getElem_toArray, List.getElem_cons_zero, List.getElem_cons_succ, List.setIfInBounds_toArray, List.set_cons_zero, List.set_cons_succ]
  refine wpAnyH_take (i := 11) rfl (by kernel_rfl) (by kernel_rfl) (by kernel_rfl) (fun _ _ _ h => h) (yieldsIf_load_mid (by rfl) 23 (.tmp 5) rfl (w.heap.size) 0 (by rfl) (a.map bv) _ (fun x hx => blk_range hx.1) Try.underlying23 rfl (by rw [List.length_map, HA.out]; exact Try.sizeHash)) hHeld3x2 ?_
  simp only [Act.put, List.getElem_toArray, List.getElem_cons_zero, List.getElem_cons_succ, List.setIfInBounds_toArray, List.set_cons_zero, List.set_cons_succ]
  refine wpAnyH_take (i := 12) rfl (by kernel_rfl) (by kernel_rfl) (by kernel_rfl) (fun _ _ _ h => h) (yieldsIf_load_mid (by rfl) 23 (.tmp 6) rfl (w.heap.size + 1) 0 (by rfl) (c.map bv) _ (fun x hx => blk_range hx.2.1) Try.underlying23 rfl (by rw [List.length_map, HC.out]; exact Try.sizeHash)) hHeld3x2 ?_
  simp only [Act.put, List.getElem_toArray, List.getElem_cons_zero, List.getElem_cons_succ, List.setIfInBounds_toArray, List.set_cons_zero, List.set_cons_succ]
  refine wpAnyH_ready (rs := [10]) (by kernel_rfl) (by simp) ?_
  refine AllReadyH.cons rfl (fun K hK => ?_) AllReadyH.nil
  go_simp
  go_wp2_with (go_at_call 26; refine (c3 _).mono ?_; rintro e y3x3 ⟨rfl, b3x3⟩)
  refine hK.out _ _ ⟨hHeld3x2.1.below b3x3 hHeld3x2.1.lt, hHeld3x2.2.1.below b3x3 hHeld3x2.2.1.lt, hHeld3x2.2.2.1.below b3x3 hHeld3x2.2.2.1.lt, hHeld3x2.2.2.2.trans (b3x3.mono hHeld3x2.2.2.2.size)⟩ (fun hHeld3x3 => ?_)
  clear hK K hHeld3x2 b3x3
  refine wpAnyH_ready (rs := [13]) (by kernel_rfl) (by simp) ?_
  refine AllReadyH.cons rfl (fun K hK => ?_) AllReadyH.nil
  go_simp
  go_wp2_with (go_at_call 27; refine (c4 _).mono ?_; rintro e y3x4 ⟨rfl, b3x4⟩)
  refine hK.out _ _ ⟨hHeld3x3.1.below b3x4 hHeld3x3.1.lt, hHeld3x3.2.1.below b3x4 hHeld3x3.2.1.lt, hHeld3x3.2.2.1.below b3x4 hHeld3x3.2.2.1.lt, hHeld3x3.2.2.2.trans (b3x4.mono hHeld3x3.2.2.2.size)⟩ (fun hHeld3x4 => ?_)
  clear hK K hHeld3x3 b3x4
  refine wpAnyH_take (i := 14) (v := .bool false) rfl (by kernel_rfl) (by kernel_rfl) (by kernel_rfl) (fun _ _ _ h => h) (Or.inl ⟨by rfl, fun x hx => by go_simp⟩) hHeld3x4 ?_
  simp only [Act.put, List.getElem_toArray, List.getElem_cons_zero, List.getElem_cons_succ, List.setIfInBounds_toArray, List.set_cons_zero, List.set_cons_succ]
  refine wpAnyH_take (i := 15) (v := .bool false) rfl (by kernel_rfl) (by kernel_rfl) (by kernel_rfl) (fun _ _ _ h => h) (Or.inl ⟨by rfl, fun x hx => by go_simp⟩) hHeld3x4 ?_
  simp only [Act.put, List.getElem_toArray, List.getElem_cons_zero, List.getElem_cons_succ, List.setIfInBounds_toArray, List.set_cons_zero, List.set_cons_succ]
  refine wpAnyH_take (i := 16) (v := .bool false) rfl (by kernel_rfl) (by kernel_rfl) (by kernel_rfl) (fun _ _ _ h => h) (Or.inl ⟨by rfl, fun x hx => by go_simp⟩) hHeld3x4 ?_
  simp only [Act.put, List.getElem_toArray, List.getElem_cons_zero, List.getElem_cons_succ, List.setIfInBounds_toArray, List.set_cons_zero, List.set_cons_succ]
  refine wpAnyH_take (i := 17) (v := .string (str s)) rfl (by kernel_rfl) (by kernel_rfl) (by kernel_rfl) (fun _ _ _ h => h) (Or.inl ⟨by rfl, fun x hx => by go_simp⟩) hHeld3x4 ?_
  simp only [Act.put, List.getElem_toArray, List.getElem_cons_zero, List.getElem_cons_succ, List.setIfInBounds_toArray, List.set_cons_zero, List.set_cons_succ]
  refine wpAnyH_take (i := 19) (v := .string (str s)) rfl (by kernel_rfl) (by kernel_rfl) (by kernel_rfl) (fun _ _ _ h => h) (Or.inl ⟨by rfl, fun x hx => by go_simp⟩) hHeld3x4 ?_
  simp only [Act.put, List.getElem_toArray, List.getElem_cons_zero, List.getElem_cons_succ, List.setIfInBounds_toArray, List.set_cons_zero, List.set_cons_succ]
  refine wpAnyH_ready (rs := [18]) (by kernel_rfl) (by simp) ?_
  refine AllReadyH.cons rfl (fun K hK => ?_) AllReadyH.nil
  go_simp
  go_wp2_with (go_at_call 28; refine (c5 _).mono ?_; rintro e y3x5 ⟨rfl, b3x5⟩)
  refine hK.out _ _ ⟨hHeld3x4.1.below b3x5 hHeld3x4.1.lt, hHeld3x4.2.1.below b3x5 hHeld3x4.2.1.lt, hHeld3x4.2.2.1.below b3x5 hHeld3x4.2.2.1.lt, hHeld3x4.2.2.2.trans (b3x5.mono hHeld3x4.2.2.2.size)⟩ (fun hHeld3x5 => ?_)
  clear hK K hHeld3x4 b3x5
  refine wpAnyH_ready (rs := [20]) (by kernel_rfl) (by simp) ?_
  refine AllReadyH.cons rfl (fun K hK => ?_) AllReadyH.nil
  go_simp
  go_wp2_with (go_at_call 29; refine (c6 _).mono ?_; rintro e y3x6 ⟨rfl, b3x6⟩)
  refine hK.out _ _ ⟨hHeld3x5.1.below b3x6 hHeld3x5.1.lt, hHeld3x5.2.1.below b3x6 hHeld3x5.2.1.lt, hHeld3x5.2.2.1.below b3x6 hHeld3x5.2.2.1.lt, hHeld3x5.2.2.2.trans (b3x6.mono hHeld3x5.2.2.2.size)⟩ (fun hHeld3x6 => ?_)
  clear hK K hHeld3x5 b3x6
  refine wpAnyH_take (i := 21) (v := .bool false) rfl (by kernel_rfl) (by kernel_rfl) (by kernel_rfl) (fun _ _ _ h => h) (Or.inl ⟨by rfl, fun x hx => by go_simp⟩) hHeld3x6 ?_
  simp only [Act.put, List.getElem_toArray, List.getElem_cons_zero, List.getElem_cons_succ, List.setIfInBounds_toArray, List.set_cons_zero, List.set_cons_succ]
  refine wpAnyH_ready (rs := [22]) (by kernel_rfl) (by simp) ?_
  refine AllReadyH.cons rfl (fun K hK => ?_) AllReadyH.nil
  go_simp
  refine hK.out _ _ hHeld3x6 (fun hHeld3x7 => ?_)
  clear hK K hHeld3x6
  refine wpAnyH_done (by kernel_rfl) ?_ _
  obtain ⟨hA2, hC2, hD2, hb2⟩ := hHeld3x7
  rcases hn with hn | hn
  all_goals
    go_wp2_with (first | ((with_reducible show wpList _ _ _ (⟨some 48, _, _, _, _, _⟩ :: _) _ _); refine wpList_if (by rfl) (wp_load_mid 23 (.tmp 5) rfl (w.heap.size) 0 (by rfl) (a.map bv) _ (blk_range hA2) Try.underlying23 rfl (by rw [List.length_map, HA.out]; exact Try.sizeHash) ?_)) | ((with_reducible show wpList _ _ _ (⟨some 50, _, _, _, _, _⟩ :: _) _ _); refine wpList_if (by rfl) (wp_load_mid 23 (.tmp 6) rfl (w.heap.size + 1) 0 (by rfl) (c.map bv) _ (blk_range hC2) Try.underlying23 rfl (by rw [List.length_map, HC.out]; exact Try.sizeHash) ?_)) | ((with_reducible show wpList _ _ _ (⟨some 51, _, _, _, _, _⟩ :: _) _ _); refine wpList_if (by rfl) (wp_load_mid 23 (.tmp 7) rfl (w.heap.size + 1 + 1) 0 (by rfl) (d.map bv) _ (blk_range hD2) Try.underlying23 rfl (by rw [List.length_map, HD.out]; exact Try.sizeHash) ?_)))
    refine (cb _).mono ?_
    rintro e w9 ⟨rfl, b9⟩
    go_wp2_with fail
    go_returns
    exact ⟨rfl, hb2.trans (b9.mono hb2.size)⟩
set_option maxHeartbeats 4000000 in
set_option maxRecDepth 100000 in
theorem walkKeysSaid_ok (a c d : List UInt8) (ha : a.length = 32) (hc : c.length = 32) (hd : d.length = 32) (n : Int) (s : List UInt8) (hs : s.length ≤ 5000) (h0 : 0 ≤ n) (h1 : n ≤ 4611686018427387903) (w : World) :
    Calls Try.prog 9 #[.agg (a.map bv).toArray, .agg (c.map bv).toArray, .agg (d.map bv).toArray, .int .i64 n, .string (str s)] w fun e w' => e = .returned (.bool true) ∧ Below w.heap.size w w' := by
  have HA := Lib.hid ha
  have HC := Lib.hid hc
  have HD := Lib.hid hd
  clear ha hc hd
  have hA0 : Blk (((w.alloc (.cells (a.map bv).toArray 23)).alloc (.cells (c.map bv).toArray 23)).alloc (.cells (d.map bv).toArray 23)) w.heap.size (a.map bv).toArray 23 := ((Blk.new _ _ _).alloc _).alloc _
  have hC0 : Blk (((w.alloc (.cells (a.map bv).toArray 23)).alloc (.cells (c.map bv).toArray 23)).alloc (.cells (d.map bv).toArray 23)) (w.heap.size + 1) (c.map bv).toArray 23 := (blk_new1 _ _ _ _).alloc _
  have hD0 : Blk (((w.alloc (.cells (a.map bv).toArray 23)).alloc (.cells (c.map bv).toArray 23)).alloc (.cells (d.map bv).toArray 23)) (w.heap.size + 1 + 1) (d.map bv).toArray 23 := blk_new2 _ _ _ _ _ _ _
  have hb0 : Below w.heap.size w (((w.alloc (.cells (a.map bv).toArray 23)).alloc (.cells (c.map bv).toArray 23)).alloc (.cells (d.map bv).toArray 23)) := (((Below.refl _ _).alloc (Nat.le_refl _) _).alloc (by simp) _).alloc (by simp; omega) _
  obtain ⟨u, hu⟩ : ∃ t, t = saidT a s := ⟨_, rfl⟩
  have hul : u.length = 32 := by rw [hu]; exact saidT_len _ _
  have c1 : ∀ x, Calls Try.prog 44 #[.agg (a.map bv).toArray, .string (str s)] x fun e w' => e = .returned (.agg (u.map bv).toArray) ∧ Below x.heap.size x w' := by rw [hu]; exact fun x => Said_calls a s x HA.out hs
  have c2 : ∀ x, Calls Try.prog 45 #[.agg (a.map bv).toArray, .string (str s)] x fun e w' => e = .returned (.agg (u.map bv).toArray) ∧ Below x.heap.size x w' := by rw [hu]; exact fun x => RefSaid_calls a s x HA.out hs
  have hq1 : ∀ x, (Op.equalIn 10000 23 (.agg (u.map bv).toArray) (.agg (u.map bv).toArray)).run Try.prog x = .ok true x := fun x => by
    rw [run_eq_hash x _ _ hul hul, beq_self_eq_true]
  clear hu hul
  obtain ⟨t, ht⟩ : ∃ t, t = tagT a c := ⟨_, rfl⟩
  have htl : t.length = 32 := by rw [ht]; exact hmac_len _ _
  have c3 : ∀ x, Calls Try.prog 26 #[.agg (a.map bv).toArray, .agg (c.map bv).toArray] x fun e w' => e = .returned (.agg (t.map bv).toArray) ∧ Below x.heap.size x w' := by rw [ht]; exact fun x => Tag_calls a c x HA.out HC.out
  have c4 : ∀ x, Calls Try.prog 27 #[.agg (a.map bv).toArray, .agg (c.map bv).toArray] x fun e w' => e = .returned (.agg (t.map bv).toArray) ∧ Below x.heap.size x w' := by rw [ht]; exact fun x => RefTag_calls a c x HA.out HC.out
  have hq2 : ∀ x, (Op.equalIn 10000 23 (.agg (t.map bv).toArray) (.agg (t.map bv).toArray)).run Try.prog x = .ok true x := fun x => by
    rw [run_eq_hash x _ _ htl htl, beq_self_eq_true]
  clear ht htl
  obtain ⟨m, hm⟩ : ∃ m, m = spotT s := ⟨_, rfl⟩
  have c5 : ∀ x, Calls Try.prog 28 #[.string (str s)] x fun e w' => e = .returned (.int .i64 m) ∧ Below x.heap.size x w' := by rw [hm]; exact fun x => Spot_calls s x hs
  have c6 : ∀ x, Calls Try.prog 29 #[.string (str s)] x fun e w' => e = .returned (.int .i64 m) ∧ Below x.heap.size x w' := by rw [hm]; exact fun x => RefSpot_calls s x hs
  clear hm
  obtain ⟨g, hg⟩ : ∃ t, t = ctxT a n.toNat c d := ⟨_, rfl⟩
  have c7 : ∀ x, Calls Try.prog 46 #[.agg (a.map bv).toArray, .int .i64 n, .agg (c.map bv).toArray, .agg (d.map bv).toArray] x fun e w' => e = .returned (.string (str g)) ∧ Below x.heap.size x w' := by rw [hg]; exact fun x => Context_calls a c d n x HA.out HC.out HD.out h0 h1
  have c8 : ∀ x, Calls Try.prog 47 #[.agg (a.map bv).toArray, .int .i64 n, .agg (c.map bv).toArray, .agg (d.map bv).toArray] x fun e w' => e = .returned (.string (str g)) ∧ Below x.heap.size x w' := by rw [hg]; exact fun x => RefContext_calls a c d n x HA.out HC.out HD.out h0 h1
  clear hg
  go_enter Try.func9, Try.ntmps9
  go_wp2_with fail
  generalize ((w.alloc (.cells (a.map bv).toArray 23)).alloc (.cells (c.map bv).toArray 23)).alloc (.cells (d.map bv).toArray 23) = W0 at hA0 hC0 hD0 hb0 ⊢
  refine (awake_calls _).mono ?_
  rintro e w1 ⟨rfl, b1⟩
  have hA1 := hA0.below b1 hA0.lt
  have hC1 := hC0.below b1 hC0.lt
  have hD1 := hD0.below b1 hD0.lt
  have hb1 := hb0.trans (b1.mono hb0.size)
  clear hA0 hC0 hD0 hb0 b1
  go_wp2_with fail
  refine wp_region_held_drew (S := fun x => Blk x (w.heap.size) (a.map bv).toArray 23 ∧ Blk x (w.heap.size + 1) (c.map bv).toArray 23 ∧ Blk x (w.heap.size + 1 + 1) (d.map bv).toArray 23 ∧ Below w.heap.size w x) (by kernel_rfl) ⟨hA1.drew, hC1.drew, hD1.drew, below_drewN hb1 1⟩ (fun hHeld4x0 => ?_)
  refine wpAnyH_take (i := 0) rfl (by kernel_rfl) (by kernel_rfl) (by kernel_rfl) (fun _ _ _ h => h) (yieldsIf_load_mid (by rfl) 23 (.tmp 5) rfl (w.heap.size) 0 (by rfl) (a.map bv) _ (fun x hx => blk_range hx.1) Try.underlying23 rfl (by rw [List.length_map, HA.out]; exact Try.sizeHash)) hHeld4x0 ?_
  simp only [Act.put, List.getElem_toArray, List.getElem_cons_zero, List.getElem_cons_succ, List.setIfInBounds_toArray, List.set_cons_zero, List.set_cons_succ]
  refine wpAnyH_take (i := 1) (v := .string (str s)) rfl (by kernel_rfl) (by kernel_rfl) (by kernel_rfl) (fun _ _ _ h => h) (Or.inl ⟨by rfl, fun x hx => by go_simp⟩) hHeld4x0 ?_
  simp only [Act.put, List.getElem_toArray, List.getElem_cons_zero, List.getElem_cons_succ, List.setIfInBounds_toArray, List.set_cons_zero, List.set_cons_succ]
  refine wpAnyH_take (i := 3) rfl (by kernel_rfl) (by kernel_rfl) (by kernel_rfl) (fun _ _ _ h => h) (yieldsIf_load_mid (by rfl) 23 (.tmp 5) rfl (w.heap.size) 0 (by rfl) (a.map bv) _ (fun x hx => blk_range hx.1) Try.underlying23 rfl (by rw [List.length_map, HA.out]; exact Try.sizeHash)) hHeld4x0 ?_
  simp only [Act.put, List.getElem_toArray, List.getElem_cons_zero, List.getElem_cons_succ, List.setIfInBounds_toArray, List.set_cons_zero, List.set_cons_succ]
  refine wpAnyH_take (i := 4) (v := .string (str s)) rfl (by kernel_rfl) (by kernel_rfl) (by kernel_rfl) (fun _ _ _ h => h) (Or.inl ⟨by rfl, fun x hx => by go_simp⟩) hHeld4x0 ?_
  simp only [Act.put, List.getElem_toArray, List.getElem_cons_zero, List.getElem_cons_succ, List.setIfInBounds_toArray, List.set_cons_zero, List.set_cons_succ]
  refine wpAnyH_ready (rs := [2]) (by kernel_rfl) (by simp) ?_
  refine AllReadyH.cons rfl (fun K hK => ?_) AllReadyH.nil
  go_simp
  go_wp2_with (go_at_call 44; refine (c1 _).mono ?_; rintro e y4x1 ⟨rfl, b4x1⟩)
  refine hK.out _ _ ⟨hHeld4x0.1.below b4x1 hHeld4x0.1.lt, hHeld4x0.2.1.below b4x1 hHeld4x0.2.1.lt, hHeld4x0.2.2.1.below b4x1 hHeld4x0.2.2.1.lt, hHeld4x0.2.2.2.trans (b4x1.mono hHeld4x0.2.2.2.size)⟩ (fun hHeld4x1 => ?_)
  clear hK K hHeld4x0 b4x1
  refine wpAnyH_ready (rs := [5]) (by kernel_rfl) (by simp) ?_
  refine AllReadyH.cons rfl (fun K hK => ?_) AllReadyH.nil
  go_simp
  go_wp2_with (go_at_call 45; refine (c2 _).mono ?_; rintro e y4x2 ⟨rfl, b4x2⟩)
  refine hK.out _ _ ⟨hHeld4x1.1.below b4x2 hHeld4x1.1.lt, hHeld4x1.2.1.below b4x2 hHeld4x1.2.1.lt, hHeld4x1.2.2.1.below b4x2 hHeld4x1.2.2.1.lt, hHeld4x1.2.2.2.trans (b4x2.mono hHeld4x1.2.2.2.size)⟩ (fun hHeld4x2 => ?_)
  clear hK K hHeld4x1 b4x2
  refine wpAnyH_take (i := 6) (v := .bool false) rfl (by kernel_rfl) (by kernel_rfl) (by kernel_rfl) (fun _ _ _ h => h) (Or.inl ⟨by rfl, fun x hx => by go_simp⟩) hHeld4x2 ?_
  simp only [Act.put, List.getElem_toArray, List.getElem_cons_zero, List.getElem_cons_succ, List.setIfInBounds_toArray, List.set_cons_zero, List.set_cons_succ]
  refine wpAnyH_take (i := 7) (v := .bool false) rfl (by kernel_rfl) (by kernel_rfl) (by kernel_rfl) (fun _ _ _ h => h) (Or.inl ⟨by rfl, fun x hx => by go_simp⟩) hHeld4x2 ?_
  simp only [Act.put, List.getElem_toArray, List.getElem_cons_zero, List.getElem_cons_succ, List.setIfInBounds_toArray, List.set_cons_zero, List.set_cons_succ]
  refine wpAnyH_take (i := 8) rfl (by kernel_rfl) (by kernel_rfl) (by kernel_rfl) (fun _ _ _ h => h) (yieldsIf_load_mid (by rfl) 23 (.tmp 5) rfl (w.heap.size) 0 (by rfl) (a.map bv) _ (fun x hx => blk_range hx.1) Try.underlying23 rfl (by rw [List.length_map, HA.out]; exact Try.sizeHash)) hHeld4x2 ?_
  simp only [Act.put, List.getElem_toArray, List.getElem_cons_zero, List.getElem_cons_succ, List.setIfInBounds_toArray, List.set_cons_zero, List.set_cons_succ]
  refine wpAnyH_take (i := 9) rfl (by kernel_rfl) (by kernel_rfl) (by kernel_rfl) (fun _ _ _ h => h) (yieldsIf_load_mid (by rfl) 23 (.tmp 6) rfl (w.heap.size + 1) 0 (by rfl) (c.map bv) _ (fun x hx => blk_range hx.2.1) Try.underlying23 rfl (by rw [List.length_map, HC.out]; exact Try.sizeHash)) hHeld4x2 ?_
  simp only [Act.put, List.getElem_toArray, List.getElem_cons_zero, List.getElem_cons_succ, List.setIfInBounds_toArray, List.set_cons_zero, List.set_cons_succ]
  refine wpAnyH_take (i := 11) rfl (by kernel_rfl) (by kernel_rfl) (by kernel_rfl) (fun _ _ _ h => h) (yieldsIf_load_mid (by rfl) 23 (.tmp 5) rfl (w.heap.size) 0 (by rfl) (a.map bv) _ (fun x hx => blk_range hx.1) Try.underlying23 rfl (by rw [List.length_map, HA.out]; exact Try.sizeHash)) hHeld4x2 ?_
  simp only [Act.put, List.getElem_toArray, List.getElem_cons_zero, List.getElem_cons_succ, List.setIfInBounds_toArray, List.set_cons_zero, List.set_cons_succ]
  refine wpAnyH_take (i := 12) rfl (by kernel_rfl) (by kernel_rfl) (by kernel_rfl) (fun _ _ _ h => h) (yieldsIf_load_mid (by rfl) 23 (.tmp 6) rfl (w.heap.size + 1) 0 (by rfl) (c.map bv) _ (fun x hx => blk_range hx.2.1) Try.underlying23 rfl (by rw [List.length_map, HC.out]; exact Try.sizeHash)) hHeld4x2 ?_
  simp only [Act.put, List.getElem_toArray, List.getElem_cons_zero, List.getElem_cons_succ, List.setIfInBounds_toArray, List.set_cons_zero, List.set_cons_succ]
  refine wpAnyH_ready (rs := [10]) (by kernel_rfl) (by simp) ?_
  refine AllReadyH.cons rfl (fun K hK => ?_) AllReadyH.nil
  go_simp
  go_wp2_with (go_at_call 26; refine (c3 _).mono ?_; rintro e y4x3 ⟨rfl, b4x3⟩)
  refine hK.out _ _ ⟨hHeld4x2.1.below b4x3 hHeld4x2.1.lt, hHeld4x2.2.1.below b4x3 hHeld4x2.2.1.lt, hHeld4x2.2.2.1.below b4x3 hHeld4x2.2.2.1.lt, hHeld4x2.2.2.2.trans (b4x3.mono hHeld4x2.2.2.2.size)⟩ (fun hHeld4x3 => ?_)
  clear hK K hHeld4x2 b4x3
  refine wpAnyH_ready (rs := [13]) (by kernel_rfl) (by simp) ?_
  refine AllReadyH.cons rfl (fun K hK => ?_) AllReadyH.nil
  go_simp
  go_wp2_with (go_at_call 27; refine (c4 _).mono ?_; rintro e y4x4 ⟨rfl, b4x4⟩)
  refine hK.out _ _ ⟨hHeld4x3.1.below b4x4 hHeld4x3.1.lt, hHeld4x3.2.1.below b4x4 hHeld4x3.2.1.lt, hHeld4x3.2.2.1.below b4x4 hHeld4x3.2.2.1.lt, hHeld4x3.2.2.2.trans (b4x4.mono hHeld4x3.2.2.2.size)⟩ (fun hHeld4x4 => ?_)
  clear hK K hHeld4x3 b4x4
  refine wpAnyH_take (i := 14) (v := .bool false) rfl (by kernel_rfl) (by kernel_rfl) (by kernel_rfl) (fun _ _ _ h => h) (Or.inl ⟨by rfl, fun x hx => by go_simp⟩) hHeld4x4 ?_
  simp only [Act.put, List.getElem_toArray, List.getElem_cons_zero, List.getElem_cons_succ, List.setIfInBounds_toArray, List.set_cons_zero, List.set_cons_succ]
  refine wpAnyH_take (i := 15) (v := .bool false) rfl (by kernel_rfl) (by kernel_rfl) (by kernel_rfl) (fun _ _ _ h => h) (Or.inl ⟨by rfl, fun x hx => by go_simp⟩) hHeld4x4 ?_
  simp only [Act.put, List.getElem_toArray, List.getElem_cons_zero, List.getElem_cons_succ, List.setIfInBounds_toArray, List.set_cons_zero, List.set_cons_succ]
  refine wpAnyH_take (i := 16) (v := .bool false) rfl (by kernel_rfl) (by kernel_rfl) (by kernel_rfl) (fun _ _ _ h => h) (Or.inl ⟨by rfl, fun x hx => by go_simp⟩) hHeld4x4 ?_
  simp only [Act.put, List.getElem_toArray, List.getElem_cons_zero, List.getElem_cons_succ, List.setIfInBounds_toArray, List.set_cons_zero, List.set_cons_succ]
  refine wpAnyH_take (i := 17) (v := .string (str s)) rfl (by kernel_rfl) (by kernel_rfl) (by kernel_rfl) (fun _ _ _ h => h) (Or.inl ⟨by rfl, fun x hx => by go_simp⟩) hHeld4x4 ?_
  simp only [Act.put, List.getElem_toArray, List.getElem_cons_zero, List.getElem_cons_succ, List.setIfInBounds_toArray, List.set_cons_zero, List.set_cons_succ]
  refine wpAnyH_take (i := 19) (v := .string (str s)) rfl (by kernel_rfl) (by kernel_rfl) (by kernel_rfl) (fun _ _ _ h => h) (Or.inl ⟨by rfl, fun x hx => by go_simp⟩) hHeld4x4 ?_
  simp only [Act.put, List.getElem_toArray, List.getElem_cons_zero, List.getElem_cons_succ, List.setIfInBounds_toArray, List.set_cons_zero, List.set_cons_succ]
  refine wpAnyH_ready (rs := [18]) (by kernel_rfl) (by simp) ?_
  refine AllReadyH.cons rfl (fun K hK => ?_) AllReadyH.nil
  go_simp
  go_wp2_with (go_at_call 28; refine (c5 _).mono ?_; rintro e y4x5 ⟨rfl, b4x5⟩)
  refine hK.out _ _ ⟨hHeld4x4.1.below b4x5 hHeld4x4.1.lt, hHeld4x4.2.1.below b4x5 hHeld4x4.2.1.lt, hHeld4x4.2.2.1.below b4x5 hHeld4x4.2.2.1.lt, hHeld4x4.2.2.2.trans (b4x5.mono hHeld4x4.2.2.2.size)⟩ (fun hHeld4x5 => ?_)
  clear hK K hHeld4x4 b4x5
  refine wpAnyH_ready (rs := [20]) (by kernel_rfl) (by simp) ?_
  refine AllReadyH.cons rfl (fun K hK => ?_) AllReadyH.nil
  go_simp
  go_wp2_with (go_at_call 29; refine (c6 _).mono ?_; rintro e y4x6 ⟨rfl, b4x6⟩)
  refine hK.out _ _ ⟨hHeld4x5.1.below b4x6 hHeld4x5.1.lt, hHeld4x5.2.1.below b4x6 hHeld4x5.2.1.lt, hHeld4x5.2.2.1.below b4x6 hHeld4x5.2.2.1.lt, hHeld4x5.2.2.2.trans (b4x6.mono hHeld4x5.2.2.2.size)⟩ (fun hHeld4x6 => ?_)
  clear hK K hHeld4x5 b4x6
  refine wpAnyH_take (i := 21) (v := .bool false) rfl (by kernel_rfl) (by kernel_rfl) (by kernel_rfl) (fun _ _ _ h => h) (Or.inl ⟨by rfl, fun x hx => by go_simp⟩) hHeld4x6 ?_
  simp only [Act.put, List.getElem_toArray, List.getElem_cons_zero, List.getElem_cons_succ, List.setIfInBounds_toArray, List.set_cons_zero, List.set_cons_succ]
  refine wpAnyH_ready (rs := [22]) (by kernel_rfl) (by simp) ?_
  refine AllReadyH.cons rfl (fun K hK => ?_) AllReadyH.nil
  go_simp
  refine hK.out _ _ hHeld4x6 (fun hHeld4x7 => ?_)
  clear hK K hHeld4x6
  refine wpAnyH_done (by kernel_rfl) ?_ _
  obtain ⟨hA2, hC2, hD2, hb2⟩ := hHeld4x7
  go_wp2_with fail
  refine wp_region_held_drew (S := fun x => Blk x (w.heap.size) (a.map bv).toArray 23 ∧ Blk x (w.heap.size + 1) (c.map bv).toArray 23 ∧ Blk x (w.heap.size + 1 + 1) (d.map bv).toArray 23 ∧ Below w.heap.size w x) (by kernel_rfl) ⟨hA2.drew, hC2.drew, hD2.drew, below_drewN hb2 1⟩ (fun hHeld5x0 => ?_)
  refine wpAnyH_take (i := 0) rfl (by kernel_rfl) (by kernel_rfl) (by kernel_rfl) (fun _ _ _ h => h) (yieldsIf_load_mid (by rfl) 23 (.tmp 5) rfl (w.heap.size) 0 (by rfl) (a.map bv) _ (fun x hx => blk_range hx.1) Try.underlying23 rfl (by rw [List.length_map, HA.out]; exact Try.sizeHash)) hHeld5x0 ?_
  simp only [Act.put, List.getElem_toArray, List.getElem_cons_zero, List.getElem_cons_succ, List.setIfInBounds_toArray, List.set_cons_zero, List.set_cons_succ]
  refine wpAnyH_take (i := 1) (v := .int .i64 n) rfl (by kernel_rfl) (by kernel_rfl) (by kernel_rfl) (fun _ _ _ h => h) (Or.inl ⟨by rfl, fun x hx => by go_simp⟩) hHeld5x0 ?_
  simp only [Act.put, List.getElem_toArray, List.getElem_cons_zero, List.getElem_cons_succ, List.setIfInBounds_toArray, List.set_cons_zero, List.set_cons_succ]
  refine wpAnyH_take (i := 2) rfl (by kernel_rfl) (by kernel_rfl) (by kernel_rfl) (fun _ _ _ h => h) (yieldsIf_load_mid (by rfl) 23 (.tmp 6) rfl (w.heap.size + 1) 0 (by rfl) (c.map bv) _ (fun x hx => blk_range hx.2.1) Try.underlying23 rfl (by rw [List.length_map, HC.out]; exact Try.sizeHash)) hHeld5x0 ?_
  simp only [Act.put, List.getElem_toArray, List.getElem_cons_zero, List.getElem_cons_succ, List.setIfInBounds_toArray, List.set_cons_zero, List.set_cons_succ]
  refine wpAnyH_take (i := 3) rfl (by kernel_rfl) (by kernel_rfl) (by kernel_rfl) (fun _ _ _ h => h) (yieldsIf_load_mid (by rfl) 23 (.tmp 7) rfl (w.heap.size + 1 + 1) 0 (by rfl) (d.map bv) _ (fun x hx => blk_range hx.2.2.1) Try.underlying23 rfl (by rw [List.length_map, HD.out]; exact Try.sizeHash)) hHeld5x0 ?_
  simp only [Act.put, List.getElem_toArray, List.getElem_cons_zero, List.getElem_cons_succ, List.setIfInBounds_toArray, List.set_cons_zero, List.set_cons_succ]
  refine wpAnyH_take (i := 5) rfl (by kernel_rfl) (by kernel_rfl) (by kernel_rfl) (fun _ _ _ h => h) (yieldsIf_load_mid (by rfl) 23 (.tmp 5) rfl (w.heap.size) 0 (by rfl) (a.map bv) _ (fun x hx => blk_range hx.1) Try.underlying23 rfl (by rw [List.length_map, HA.out]; exact Try.sizeHash)) hHeld5x0 ?_
  simp only [Act.put, List.getElem_toArray, List.getElem_cons_zero, List.getElem_cons_succ, List.setIfInBounds_toArray, List.set_cons_zero, List.set_cons_succ]
  refine wpAnyH_take (i := 6) (v := .int .i64 n) rfl (by kernel_rfl) (by kernel_rfl) (by kernel_rfl) (fun _ _ _ h => h) (Or.inl ⟨by rfl, fun x hx => by go_simp⟩) hHeld5x0 ?_
  simp only [Act.put, List.getElem_toArray, List.getElem_cons_zero, List.getElem_cons_succ, List.setIfInBounds_toArray, List.set_cons_zero, List.set_cons_succ]
  refine wpAnyH_take (i := 7) rfl (by kernel_rfl) (by kernel_rfl) (by kernel_rfl) (fun _ _ _ h => h) (yieldsIf_load_mid (by rfl) 23 (.tmp 6) rfl (w.heap.size + 1) 0 (by rfl) (c.map bv) _ (fun x hx => blk_range hx.2.1) Try.underlying23 rfl (by rw [List.length_map, HC.out]; exact Try.sizeHash)) hHeld5x0 ?_
  simp only [Act.put, List.getElem_toArray, List.getElem_cons_zero, List.getElem_cons_succ, List.setIfInBounds_toArray, List.set_cons_zero, List.set_cons_succ]
  refine wpAnyH_take (i := 8) rfl (by kernel_rfl) (by kernel_rfl) (by kernel_rfl) (fun _ _ _ h => h) (yieldsIf_load_mid (by rfl) 23 (.tmp 7) rfl (w.heap.size + 1 + 1) 0 (by rfl) (d.map bv) _ (fun x hx => blk_range hx.2.2.1) Try.underlying23 rfl (by rw [List.length_map, HD.out]; exact Try.sizeHash)) hHeld5x0 ?_
  simp only [Act.put, List.getElem_toArray, List.getElem_cons_zero, List.getElem_cons_succ, List.setIfInBounds_toArray, List.set_cons_zero, List.set_cons_succ]
  refine wpAnyH_ready (rs := [4]) (by kernel_rfl) (by simp) ?_
  refine AllReadyH.cons rfl (fun K hK => ?_) AllReadyH.nil
  go_simp
  go_wp2_with (go_at_call 46; refine (c7 _).mono ?_; rintro e y5x1 ⟨rfl, b5x1⟩)
  refine hK.out _ _ ⟨hHeld5x0.1.below b5x1 hHeld5x0.1.lt, hHeld5x0.2.1.below b5x1 hHeld5x0.2.1.lt, hHeld5x0.2.2.1.below b5x1 hHeld5x0.2.2.1.lt, hHeld5x0.2.2.2.trans (b5x1.mono hHeld5x0.2.2.2.size)⟩ (fun hHeld5x1 => ?_)
  clear hK K hHeld5x0 b5x1
  refine wpAnyH_ready (rs := [9]) (by kernel_rfl) (by simp) ?_
  refine AllReadyH.cons rfl (fun K hK => ?_) AllReadyH.nil
  go_simp
  go_wp2_with (go_at_call 47; refine (c8 _).mono ?_; rintro e y5x2 ⟨rfl, b5x2⟩)
  refine hK.out _ _ ⟨hHeld5x1.1.below b5x2 hHeld5x1.1.lt, hHeld5x1.2.1.below b5x2 hHeld5x1.2.1.lt, hHeld5x1.2.2.1.below b5x2 hHeld5x1.2.2.1.lt, hHeld5x1.2.2.2.trans (b5x2.mono hHeld5x1.2.2.2.size)⟩ (fun hHeld5x2 => ?_)
  clear hK K hHeld5x1 b5x2
  refine wpAnyH_take (i := 10) (v := .bool true) rfl (by kernel_rfl) (by kernel_rfl) (by kernel_rfl) (fun _ _ _ h => h) (Or.inl ⟨by rfl, fun x hx => by go_simp⟩) hHeld5x2 ?_
  simp only [Act.put, List.getElem_toArray, List.getElem_cons_zero, List.getElem_cons_succ, List.setIfInBounds_toArray, List.set_cons_zero, List.set_cons_succ]
  refine wpAnyH_ready (rs := [11]) (by kernel_rfl) (by simp) ?_
  refine AllReadyH.cons rfl (fun K hK => ?_) AllReadyH.nil
  go_simp
  refine hK.out _ _ hHeld5x2 (fun hHeld5x3 => ?_)
  clear hK K hHeld5x2
  refine wpAnyH_done (by kernel_rfl) ?_ _
  go_wp2_with fail
  go_returns
  exact ⟨rfl, hHeld5x3.2.2.2⟩

theorem walkKeysSaid (a : List UInt8) (ha : a.length = 32) (c : List UInt8) (hc : c.length = 32) (d : List UInt8) (hd : d.length = 32) (n : Int) (hn : (Lit.int .i64 n).wf = true) (s : List UInt8) (hm : s.length ≤ maxLen) (w : World) :
    Calls Try.prog 9 #[.agg (a.map bv).toArray, .agg (c.map bv).toArray, .agg (d.map bv).toArray, .int .i64 n, .string (str s)] w fun e w' => e = .returned (.bool true) ∧ Below w.heap.size w w' := by
  by_cases hs : s.length ≤ 5000
  · by_cases hb : n < 0 ∨ 4611686018427387903 < n
    · exact walkKeysSaid_bad a c d ha hc hd n s hs hb w
    · exact walkKeysSaid_ok a c d ha hc hd n s hs (by omega) (by omega) w
  · exact walkKeysSaid_long a c d ha hc hd n s hm hs w
end Go.Proofs.Ytnfegmcdljejnaa
