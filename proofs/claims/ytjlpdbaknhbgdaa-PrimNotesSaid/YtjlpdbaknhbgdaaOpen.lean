/-
  Seals are opened: prim.Open, the document's Open.
-/
import Derived.Test.YtjlpdbaknhbgdaaSeal
set_option linter.unusedSimpArgs false
set_option linter.unusedVariables false
namespace Go.Proofs.Ytjlpdbaknhbgdaa
open Go.RowKit

theorem wrapNat (n : Nat) (h : n ≤ 1000000000) : IntKind.i64.wrap (n : Int) = (n : Int) := by
  have e : IntKind.i64.wrap (n : Int) = wrap64 (n : Int) := by
    unfold IntKind.wrap wrap64
    simp [IntKind.bits, IntKind.signed]
    omega
  rw [e]; unfold wrap64; omega
/-- What a seal opens to: a text and an error's number. -/
def openV (key about s : List UInt8) : List UInt8 × Int :=
  if s.length < 16 then ([], 2) else if 65552 < s.length then ([], 5) else
  if tagT2 key about (s.take (s.length - 16)) = s.drop (s.length - 16) then (crossT key (s.take (s.length - 16)), 0) else ([], 6)
theorem open_seal (key about s : List UInt8) (hl : s.length ≤ 65536) : openV key about (sealT key about s) = (s, 0) := by
  have h1 := sealT_len key about s
  have h2 : (sealT key about s).take ((sealT key about s).length - 16) = crossT key s := by
    rw [h1, Nat.add_sub_cancel, sealT, List.take_left' (crossT_len key s)]
  have h3 : (sealT key about s).drop ((sealT key about s).length - 16) = tagT2 key about (crossT key s) := by
    rw [h1, Nat.add_sub_cancel, sealT, List.drop_left' (crossT_len key s)]
  rw [openV, h2, h3, if_neg (by omega), if_neg (by omega), if_pos rfl, crossT_twice]

set_option maxHeartbeats 4000000 in
set_option maxRecDepth 100000 in
theorem OpenShort_calls (key about s : List UInt8) (w : World) (h16 : s.length < 16) :
    Calls Try.prog 41 #[.agg (key.map bv).toArray, .string (str about), .string (str s)] w fun e w' => e = .returned (.tuple #[.string (str []), .int .i64 2]) ∧ Below w.heap.size w w' := by
  have hb0 : Below w.heap.size w (w.alloc (.cells (key.map bv).toArray 26)) := (Below.refl _ _).alloc (Nat.le_refl _) _
  go_enter Try.func41, Try.ntmps41
  go_wp2_with fail
  go_returns
  exact ⟨rfl, hb0⟩
set_option maxHeartbeats 4000000 in
set_option maxRecDepth 100000 in
theorem OpenLong_calls (key about s : List UInt8) (w : World) (h16 : 65552 < s.length) (hm : s.length ≤ maxLen) :
    Calls Try.prog 41 #[.agg (key.map bv).toArray, .string (str about), .string (str s)] w fun e w' => e = .returned (.tuple #[.string (str []), .int .i64 5]) ∧ Below w.heap.size w w' := by
  unfold maxLen at hm
  have hb0 : Below w.heap.size w (w.alloc (.cells (key.map bv).toArray 26)) := (Below.refl _ _).alloc (Nat.le_refl _) _
  go_enter Try.func41, Try.ntmps41
  go_wp2_with fail
  go_returns
  exact ⟨rfl, hb0⟩
set_option maxHeartbeats 4000000 in
set_option maxRecDepth 100000 in
theorem OpenMid_calls (key about c g : List UInt8) (w : World) (hk : key.length = 32) (ha : about.length ≤ 68719476736) (hc : c.length ≤ 65536) (hg : g.length = 16) :
    Calls Try.prog 41 #[.agg (key.map bv).toArray, .string (str about), .string (str (c ++ g))] w fun e w' => e = .returned (if tagT2 key about c = g then .tuple #[.string (str (crossT key c)), .int .i64 0] else .tuple #[.string (str []), .int .i64 6]) ∧ Below w.heap.size w w' := by
  have HK := Lib.hid hk
  clear hk
  have hK0 : Blk (w.alloc (.cells (key.map bv).toArray 26)) w.heap.size (key.map bv).toArray 26 := Blk.new _ _ _
  have hb0 : Below w.heap.size w (w.alloc (.cells (key.map bv).toArray 26)) := (Below.refl _ _).alloc (Nat.le_refl _) _
  obtain ⟨s, hs⟩ : ∃ s, s = c ++ g := ⟨_, rfl⟩
  have hsl : s.length = c.length + 16 := by rw [hs, List.length_append, hg]
  have hst : s.take c.length = c := by rw [hs, List.take_left' rfl]
  have hsd : s.drop c.length = g := by rw [hs, List.drop_left' rfl]
  have hsi : wrap64 ((s.length : Int) - 16) = (c.length : Int) := by rw [hsl]; unfold wrap64; omega
  have hsi2 : (s.length : Int) - 16 = (c.length : Int) := by omega
  have E1 : Hid (List.take c.length s = c) := hst
  have E2 : Hid (List.take 16 (List.drop c.length s) = g) := by show _ = _; rw [hsd, List.take_of_length_le (by omega)]
  have hle : c.length ≤ s.length := by omega
  obtain ⟨x, hx⟩ : ∃ x, x = crossT key c := ⟨_, rfl⟩
  obtain ⟨r, hr⟩ : ∃ r, r = tagT2 key about c := ⟨_, rfl⟩
  have c1 : ∀ y, Calls Try.prog 34 #[.agg (key.map bv).toArray, .string (str about), .string (str c)] y fun e w' => e = .returned (.string (str r)) ∧ Below y.heap.size y w' := by rw [hr]; exact fun y => tag_calls key about c y HK.out ha (by omega)
  have c2 : ∀ y, Calls Try.prog 33 #[.agg (key.map bv).toArray, .string (str c)] y fun e w' => e = .returned (.string (str x)) ∧ Below y.heap.size y w' := by rw [hx]; exact fun y => Cross_calls key c y HK.out hc
  rw [← hr, ← hx, ← hs]
  clear hr hx hs hst hsd hg
  generalize hn : c.length = n at *
  have hs18 : decide ((65536 : Int) < (n : Int)) = false := by simp; omega
  by_cases hEq : r = g
  · rw [if_pos hEq]
    have HQ := Lib.hid hEq
    clear hEq
    go_enter Try.func41, Try.ntmps41
    go_wp2_with fail
    generalize w.alloc (.cells (key.map bv).toArray 26) = W0 at hK0 hb0 ⊢
    refine wp_region_held_drew (S := fun x => Blk x (w.heap.size) (key.map bv).toArray 26 ∧ Below w.heap.size w x) (by kernel_rfl) ⟨hK0.drew, below_drewN hb0 1⟩ (fun hSq1 => ?_)
    refine wpAnyH_take (i := 0) rfl (by kernel_rfl) (by kernel_rfl) (by kernel_rfl) (fun _ _ _ h => h) (yieldsIf_load_mid (by rfl) 26 (.tmp 3) rfl (w.heap.size) 0 (by rfl) (key.map bv) _ (fun x hx => blk_range hx.1) Try.underlying26 rfl (by rw [List.length_map, HK.out]; exact Try.sizeHash)) hSq1 ?_
    simp only [Act.put, List.getElem_toArray, List.getElem_cons_zero, List.getElem_cons_succ, List.setIfInBounds_toArray, List.set_cons_zero, List.set_cons_succ]
    refine wpAnyH_take (i := 1) (v := .string (str about)) rfl (by kernel_rfl) (by kernel_rfl) (by kernel_rfl) (fun _ _ _ h => h) (Or.inl ⟨by rfl, fun x hx => by go_simp⟩) hSq1 ?_
    simp only [Act.put, List.getElem_toArray, List.getElem_cons_zero, List.getElem_cons_succ, List.setIfInBounds_toArray, List.set_cons_zero, List.set_cons_succ]
    refine wpAnyH_take (i := 2) (v := .string (str s)) rfl (by kernel_rfl) (by kernel_rfl) (by kernel_rfl) (fun _ _ _ h => h) (Or.inl ⟨by rfl, fun x hx => by go_simp⟩) hSq1 ?_
    simp only [Act.put, List.getElem_toArray, List.getElem_cons_zero, List.getElem_cons_succ, List.setIfInBounds_toArray, List.set_cons_zero, List.set_cons_succ]
    refine wpAnyH_take (i := 3) (v := .int .i64 n) rfl (by kernel_rfl) (by kernel_rfl) (by kernel_rfl) (fun _ _ _ h => h) (Or.inl ⟨by rfl, fun x hx => by go_simp⟩) hSq1 ?_
    simp only [Act.put, List.getElem_toArray, List.getElem_cons_zero, List.getElem_cons_succ, List.setIfInBounds_toArray, List.set_cons_zero, List.set_cons_succ]
    refine wpAnyH_take (i := 4) (v := .string (str c)) rfl (by kernel_rfl) (by kernel_rfl) (by kernel_rfl) (fun _ _ _ h => h) (Or.inl ⟨by rfl, fun x hx => by have e1 := E1.out; go_simp; try (intro h; exfalso; omega)⟩) hSq1 ?_
    simp only [Act.put, List.getElem_toArray, List.getElem_cons_zero, List.getElem_cons_succ, List.setIfInBounds_toArray, List.set_cons_zero, List.set_cons_succ]
    refine wpAnyH_take (i := 6) (v := .string (str s)) rfl (by kernel_rfl) (by kernel_rfl) (by kernel_rfl) (fun _ _ _ h => h) (Or.inl ⟨by rfl, fun x hx => by go_simp⟩) hSq1 ?_
    simp only [Act.put, List.getElem_toArray, List.getElem_cons_zero, List.getElem_cons_succ, List.setIfInBounds_toArray, List.set_cons_zero, List.set_cons_succ]
    refine wpAnyH_take (i := 7) (v := .int .i64 n) rfl (by kernel_rfl) (by kernel_rfl) (by kernel_rfl) (fun _ _ _ h => h) (Or.inl ⟨by rfl, fun x hx => by go_simp⟩) hSq1 ?_
    simp only [Act.put, List.getElem_toArray, List.getElem_cons_zero, List.getElem_cons_succ, List.setIfInBounds_toArray, List.set_cons_zero, List.set_cons_succ]
    refine wpAnyH_take (i := 8) (v := .string (str g)) rfl (by kernel_rfl) (by kernel_rfl) (by kernel_rfl) (fun _ _ _ h => h) (Or.inl ⟨by rfl, fun x hx => by have e2 := E2.out; go_simp; try (intro h; exfalso; omega)⟩) hSq1 ?_
    simp only [Act.put, List.getElem_toArray, List.getElem_cons_zero, List.getElem_cons_succ, List.setIfInBounds_toArray, List.set_cons_zero, List.set_cons_succ]
    refine wpAnyH_ready (rs := [5]) (by kernel_rfl) (by simp) ?_
    refine AllReadyH.cons rfl (fun K hK => ?_) AllReadyH.nil
    go_simp
    go_wp2_with (go_at_call 34; refine (c1 _).mono ?_; rintro e yq2 ⟨rfl, bq3⟩)
    refine hK.out _ _ ⟨hSq1.1.below bq3 hSq1.1.lt, hSq1.2.trans (bq3.mono hSq1.2.size)⟩ (fun hSq4 => ?_)
    clear hK K hSq1 bq3
    refine wpAnyH_take (i := 9) (v := .bool false) rfl (by kernel_rfl) (by kernel_rfl) (by kernel_rfl) (fun _ _ _ h => h) (Or.inl ⟨by rfl, fun x hx => by go_simp; exact HQ.out⟩) hSq4 ?_
    simp only [Act.put, List.getElem_toArray, List.getElem_cons_zero, List.getElem_cons_succ, List.setIfInBounds_toArray, List.set_cons_zero, List.set_cons_succ]
    refine wpAnyH_ready (rs := [10]) (by kernel_rfl) (by simp) ?_
    refine AllReadyH.cons rfl (fun K hK => ?_) AllReadyH.nil
    go_simp
    refine hK.out _ _ hSq4 (fun hSq5 => ?_)
    clear hK K hSq4
    refine wpAnyH_done (by kernel_rfl) ?_ _
    have hK5 := hSq5.1
    have hb5 := hSq5.2
    clear hSq5
    go_wp2_with fail
    refine wp_region_held_drew (S := fun x => Blk x (w.heap.size) (key.map bv).toArray 26 ∧ Below w.heap.size w x) (by kernel_rfl) ⟨hK5.drew, below_drewN hb5 1⟩ (fun hSq6 => ?_)
    refine wpAnyH_take (i := 0) rfl (by kernel_rfl) (by kernel_rfl) (by kernel_rfl) (fun _ _ _ h => h) (yieldsIf_load_mid (by rfl) 26 (.tmp 3) rfl (w.heap.size) 0 (by rfl) (key.map bv) _ (fun x hx => blk_range hx.1) Try.underlying26 rfl (by rw [List.length_map, HK.out]; exact Try.sizeHash)) hSq6 ?_
    simp only [Act.put, List.getElem_toArray, List.getElem_cons_zero, List.getElem_cons_succ, List.setIfInBounds_toArray, List.set_cons_zero, List.set_cons_succ]
    refine wpAnyH_take (i := 1) (v := .string (str s)) rfl (by kernel_rfl) (by kernel_rfl) (by kernel_rfl) (fun _ _ _ h => h) (Or.inl ⟨by rfl, fun x hx => by go_simp⟩) hSq6 ?_
    simp only [Act.put, List.getElem_toArray, List.getElem_cons_zero, List.getElem_cons_succ, List.setIfInBounds_toArray, List.set_cons_zero, List.set_cons_succ]
    refine wpAnyH_take (i := 2) (v := .int .i64 n) rfl (by kernel_rfl) (by kernel_rfl) (by kernel_rfl) (fun _ _ _ h => h) (Or.inl ⟨by rfl, fun x hx => by go_simp⟩) hSq6 ?_
    simp only [Act.put, List.getElem_toArray, List.getElem_cons_zero, List.getElem_cons_succ, List.setIfInBounds_toArray, List.set_cons_zero, List.set_cons_succ]
    refine wpAnyH_take (i := 3) (v := .string (str c)) rfl (by kernel_rfl) (by kernel_rfl) (by kernel_rfl) (fun _ _ _ h => h) (Or.inl ⟨by rfl, fun x hx => by have e1 := E1.out; go_simp; try (intro h; exfalso; omega)⟩) hSq6 ?_
    simp only [Act.put, List.getElem_toArray, List.getElem_cons_zero, List.getElem_cons_succ, List.setIfInBounds_toArray, List.set_cons_zero, List.set_cons_succ]
    refine wpAnyH_ready (rs := [4]) (by kernel_rfl) (by simp) ?_
    refine AllReadyH.cons rfl (fun K hK => ?_) AllReadyH.nil
    go_simp
    go_wp2_with (go_at_call 33; refine (c2 _).mono ?_; rintro e yq7 ⟨rfl, bq8⟩)
    refine hK.out _ _ ⟨hSq6.1.below bq8 hSq6.1.lt, hSq6.2.trans (bq8.mono hSq6.2.size)⟩ (fun hSq9 => ?_)
    clear hK K hSq6 bq8
    refine wpAnyH_ready (rs := [5]) (by kernel_rfl) (by simp) ?_
    refine AllReadyH.cons rfl (fun K hK => ?_) AllReadyH.nil
    go_simp
    refine hK.out _ _ hSq9 (fun hSq10 => ?_)
    clear hK K hSq9
    refine wpAnyH_ready (rs := [6]) (by kernel_rfl) (by simp) ?_
    refine AllReadyH.cons rfl (fun K hK => ?_) AllReadyH.nil
    go_simp
    refine hK.out _ _ hSq10 (fun hSq11 => ?_)
    clear hK K hSq10
    refine wpAnyH_done (by kernel_rfl) ?_ _
    go_wp2_with fail
    go_returns
    exact ⟨rfl, hSq11.2⟩
  · rw [if_neg hEq]
    have HQ := Lib.hid hEq
    clear hEq
    go_enter Try.func41, Try.ntmps41
    go_wp2_with fail
    generalize w.alloc (.cells (key.map bv).toArray 26) = W0 at hK0 hb0 ⊢
    refine wp_region_held_drew (S := fun x => Blk x (w.heap.size) (key.map bv).toArray 26 ∧ Below w.heap.size w x) (by kernel_rfl) ⟨hK0.drew, below_drewN hb0 1⟩ (fun hSq12 => ?_)
    refine wpAnyH_take (i := 0) rfl (by kernel_rfl) (by kernel_rfl) (by kernel_rfl) (fun _ _ _ h => h) (yieldsIf_load_mid (by rfl) 26 (.tmp 3) rfl (w.heap.size) 0 (by rfl) (key.map bv) _ (fun x hx => blk_range hx.1) Try.underlying26 rfl (by rw [List.length_map, HK.out]; exact Try.sizeHash)) hSq12 ?_
    simp only [Act.put, List.getElem_toArray, List.getElem_cons_zero, List.getElem_cons_succ, List.setIfInBounds_toArray, List.set_cons_zero, List.set_cons_succ]
    refine wpAnyH_take (i := 1) (v := .string (str about)) rfl (by kernel_rfl) (by kernel_rfl) (by kernel_rfl) (fun _ _ _ h => h) (Or.inl ⟨by rfl, fun x hx => by go_simp⟩) hSq12 ?_
    simp only [Act.put, List.getElem_toArray, List.getElem_cons_zero, List.getElem_cons_succ, List.setIfInBounds_toArray, List.set_cons_zero, List.set_cons_succ]
    refine wpAnyH_take (i := 2) (v := .string (str s)) rfl (by kernel_rfl) (by kernel_rfl) (by kernel_rfl) (fun _ _ _ h => h) (Or.inl ⟨by rfl, fun x hx => by go_simp⟩) hSq12 ?_
    simp only [Act.put, List.getElem_toArray, List.getElem_cons_zero, List.getElem_cons_succ, List.setIfInBounds_toArray, List.set_cons_zero, List.set_cons_succ]
    refine wpAnyH_take (i := 3) (v := .int .i64 n) rfl (by kernel_rfl) (by kernel_rfl) (by kernel_rfl) (fun _ _ _ h => h) (Or.inl ⟨by rfl, fun x hx => by go_simp⟩) hSq12 ?_
    simp only [Act.put, List.getElem_toArray, List.getElem_cons_zero, List.getElem_cons_succ, List.setIfInBounds_toArray, List.set_cons_zero, List.set_cons_succ]
    refine wpAnyH_take (i := 4) (v := .string (str c)) rfl (by kernel_rfl) (by kernel_rfl) (by kernel_rfl) (fun _ _ _ h => h) (Or.inl ⟨by rfl, fun x hx => by have e1 := E1.out; go_simp; try (intro h; exfalso; omega)⟩) hSq12 ?_
    simp only [Act.put, List.getElem_toArray, List.getElem_cons_zero, List.getElem_cons_succ, List.setIfInBounds_toArray, List.set_cons_zero, List.set_cons_succ]
    refine wpAnyH_take (i := 6) (v := .string (str s)) rfl (by kernel_rfl) (by kernel_rfl) (by kernel_rfl) (fun _ _ _ h => h) (Or.inl ⟨by rfl, fun x hx => by go_simp⟩) hSq12 ?_
    simp only [Act.put, List.getElem_toArray, List.getElem_cons_zero, List.getElem_cons_succ, List.setIfInBounds_toArray, List.set_cons_zero, List.set_cons_succ]
    refine wpAnyH_take (i := 7) (v := .int .i64 n) rfl (by kernel_rfl) (by kernel_rfl) (by kernel_rfl) (fun _ _ _ h => h) (Or.inl ⟨by rfl, fun x hx => by go_simp⟩) hSq12 ?_
    simp only [Act.put, List.getElem_toArray, List.getElem_cons_zero, List.getElem_cons_succ, List.setIfInBounds_toArray, List.set_cons_zero, List.set_cons_succ]
    refine wpAnyH_take (i := 8) (v := .string (str g)) rfl (by kernel_rfl) (by kernel_rfl) (by kernel_rfl) (fun _ _ _ h => h) (Or.inl ⟨by rfl, fun x hx => by have e2 := E2.out; go_simp; try (intro h; exfalso; omega)⟩) hSq12 ?_
    simp only [Act.put, List.getElem_toArray, List.getElem_cons_zero, List.getElem_cons_succ, List.setIfInBounds_toArray, List.set_cons_zero, List.set_cons_succ]
    refine wpAnyH_ready (rs := [5]) (by kernel_rfl) (by simp) ?_
    refine AllReadyH.cons rfl (fun K hK => ?_) AllReadyH.nil
    go_simp
    go_wp2_with (go_at_call 34; refine (c1 _).mono ?_; rintro e yq13 ⟨rfl, bq14⟩)
    refine hK.out _ _ ⟨hSq12.1.below bq14 hSq12.1.lt, hSq12.2.trans (bq14.mono hSq12.2.size)⟩ (fun hSq15 => ?_)
    clear hK K hSq12 bq14
    refine wpAnyH_take (i := 9) (v := .bool true) rfl (by kernel_rfl) (by kernel_rfl) (by kernel_rfl) (fun _ _ _ h => h) (Or.inl ⟨by rfl, fun x hx => by go_simp; exact HQ.out⟩) hSq15 ?_
    simp only [Act.put, List.getElem_toArray, List.getElem_cons_zero, List.getElem_cons_succ, List.setIfInBounds_toArray, List.set_cons_zero, List.set_cons_succ]
    refine wpAnyH_ready (rs := [10]) (by kernel_rfl) (by simp) ?_
    refine AllReadyH.cons rfl (fun K hK => ?_) AllReadyH.nil
    go_simp
    refine hK.out _ _ hSq15 (fun hSq16 => ?_)
    clear hK K hSq15
    refine wpAnyH_done (by kernel_rfl) ?_ _
    go_wp2_with fail
    go_returns
    exact ⟨rfl, hSq16.2⟩
theorem Open_calls (key about s : List UInt8) (w : World) (hk : key.length = 32) (ha : about.length ≤ 68719476736) (hm : s.length ≤ maxLen) :
    Calls Try.prog 41 #[.agg (key.map bv).toArray, .string (str about), .string (str s)] w fun e w' => e = .returned (.tuple #[.string (str (openV key about s).1), .int .i64 (openV key about s).2]) ∧ Below w.heap.size w w' := by
  by_cases h1 : s.length < 16
  · rw [show openV key about s = ([], 2) by rw [openV, if_pos h1]]
    exact OpenShort_calls key about s w h1
  by_cases h2 : 65552 < s.length
  · rw [show openV key about s = ([], 5) by rw [openV, if_neg h1, if_pos h2]]
    exact OpenLong_calls key about s w h2 hm
  have h3 := OpenMid_calls key about (s.take (s.length - 16)) (s.drop (s.length - 16)) w hk ha (by rw [List.length_take]; omega) (by rw [List.length_drop]; omega)
  rw [List.take_append_drop] at h3
  rw [openV, if_neg h1, if_neg h2]
  refine h3.mono ?_
  rintro e w' ⟨rfl, b⟩
  refine ⟨?_, b⟩
  split <;> rfl

end Go.Proofs.Ytjlpdbaknhbgdaa
