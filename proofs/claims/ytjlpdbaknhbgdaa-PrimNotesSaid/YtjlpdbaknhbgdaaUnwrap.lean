/-
  What was wrapped is opened: prim.Unwrap, the document's Unwrap.
-/
import Derived.Test.YtjlpdbaknhbgdaaOpen
set_option linter.unusedSimpArgs false
set_option linter.unusedVariables false
namespace Go.Proofs.Ytjlpdbaknhbgdaa
open Go.RowKit

def unwrapV (priv about s : List UInt8) : List UInt8 × Int :=
  if s.length < 48 then ([], 2) else openV (sharedT (pubT priv) (s.take 32)) about (s.drop 32)

set_option maxHeartbeats 4000000 in
set_option maxRecDepth 100000 in
theorem UnwrapShort_calls (key about s : List UInt8) (w : World) (h16 : s.length < 48) :
    Calls Try.prog 21 #[.agg (key.map bv).toArray, .string (str about), .string (str s)] w fun e w' => e = .returned (.tuple #[.string (str []), .int .i64 2]) ∧ Below w.heap.size w w' := by
  have hb0 : Below w.heap.size w (w.alloc (.cells (key.map bv).toArray 26)) := (Below.refl _ _).alloc (Nat.le_refl _) _
  go_enter Try.func21, Try.ntmps21
  go_wp2_with fail
  go_returns
  exact ⟨rfl, hb0⟩
set_option maxHeartbeats 4000000 in
set_option maxRecDepth 100000 in
theorem UnwrapMid_calls (key about o z : List UInt8) (w : World) (hk : key.length = 32) (ha : about.length ≤ 68719476736) (ho : o.length = 32) (hz : 16 ≤ z.length) (hm : 32 + z.length ≤ 9223372036854775807) :
    Calls Try.prog 21 #[.agg (key.map bv).toArray, .string (str about), .string (str (o ++ z))] w fun e w' => e = .returned (.tuple #[.string (str (openV (sharedT (pubT key) o) about z).1), .int .i64 (openV (sharedT (pubT key) o) about z).2]) ∧ Below w.heap.size w w' := by
  have HK := Lib.hid hk
  clear hk
  have hK0 : Blk (w.alloc (.cells (key.map bv).toArray 26)) w.heap.size (key.map bv).toArray 26 := Blk.new _ _ _
  have hb0 : Below w.heap.size w (w.alloc (.cells (key.map bv).toArray 26)) := (Below.refl _ _).alloc (Nat.le_refl _) _
  obtain ⟨s, hs⟩ : ∃ s, s = o ++ z := ⟨_, rfl⟩
  obtain ⟨L, hL⟩ : ∃ L, s.length = L := ⟨_, rfl⟩
  have hLz : L = 32 + z.length := by rw [← hL, hs, List.length_append, ho]
  have hL48 : 48 ≤ L := by omega
  have hL63 : L ≤ 9223372036854775807 := by omega
  have E1 : Hid (List.take 32 s = o) := by show _ = _; rw [hs, List.take_left' ho]
  have E2 : Hid (List.take (L - 32) (List.drop 32 s) = z) := by show _ = _; rw [hs, List.drop_left' ho, List.take_of_length_le (by omega)]
  obtain ⟨p, hp⟩ : ∃ p, p = pubT key := ⟨_, rfl⟩
  have HP : Hid (p.length = 32) := by show _ = _; rw [hp]; exact pubT_len _
  obtain ⟨k, hk⟩ : ∃ k, k = sharedT p o := ⟨_, rfl⟩
  have HKK : Hid (k.length = 32) := by show _ = _; rw [hk]; exact sharedT_len _ _
  obtain ⟨v1, hv1⟩ : ∃ v, v = (openV k about z).1 := ⟨_, rfl⟩
  obtain ⟨v2, hv2⟩ : ∃ v, v = (openV k about z).2 := ⟨_, rfl⟩
  have c1 : ∀ y, Calls Try.prog 30 #[.agg (key.map bv).toArray] y fun e w' => e = .returned (.agg (p.map bv).toArray) ∧ Below y.heap.size y w' := by rw [hp]; exact fun y => public_calls key y HK.out
  have c2 : ∀ y, Calls Try.prog 35 #[.agg (p.map bv).toArray, .string (str o)] y fun e w' => e = .returned (.agg (k.map bv).toArray) ∧ Below y.heap.size y w' := by rw [hk]; exact fun y => shared_calls p o y HP.out (by omega)
  have c3 : ∀ y, Calls Try.prog 41 #[.agg (k.map bv).toArray, .string (str about), .string (str z)] y fun e w' => e = .returned (.tuple #[.string (str v1), .int .i64 v2]) ∧ Below y.heap.size y w' := by rw [hv1, hv2]; exact fun y => Open_calls k about z y HKK.out ha (by unfold maxLen; omega)
  rw [← hp, ← hk, ← hv1, ← hv2, ← hs]
  clear hp hk hv1 hv2 hs hLz hz hm ho
  go_enter Try.func21, Try.ntmps21
  go_wp2_with fail
  generalize w.alloc (.cells (key.map bv).toArray 26) = W0 at hK0 hb0 ⊢
  refine wp_region_held_drew (S := fun x => Blk x (w.heap.size) (key.map bv).toArray 26 ∧ Below w.heap.size w x) (by kernel_rfl) ⟨hK0.drew, below_drewN hb0 1⟩ (fun hSq1 => ?_)
  refine wpAnyH_take (i := 0) rfl (by kernel_rfl) (by kernel_rfl) (by kernel_rfl) (fun _ _ _ h => h) (yieldsIf_load_mid (by rfl) 26 (.tmp 3) rfl (w.heap.size) 0 (by rfl) (key.map bv) _ (fun x hx => blk_range hx.1) Try.underlying26 rfl (by rw [List.length_map, HK.out]; exact Try.sizeHash)) hSq1 ?_
  simp only [Act.put, List.getElem_toArray, List.getElem_cons_zero, List.getElem_cons_succ, List.setIfInBounds_toArray, List.set_cons_zero, List.set_cons_succ]
  refine wpAnyH_take (i := 2) (v := .string (str s)) rfl (by kernel_rfl) (by kernel_rfl) (by kernel_rfl) (fun _ _ _ h => h) (Or.inl ⟨by rfl, fun x hx => by go_simp⟩) hSq1 ?_
  simp only [Act.put, List.getElem_toArray, List.getElem_cons_zero, List.getElem_cons_succ, List.setIfInBounds_toArray, List.set_cons_zero, List.set_cons_succ]
  refine wpAnyH_take (i := 3) (v := .string (str o)) rfl (by kernel_rfl) (by kernel_rfl) (by kernel_rfl) (fun _ _ _ h => h) (Or.inl ⟨by rfl, fun x hx => by have e1 := E1.out; go_simp; try (intro h; exfalso; omega)⟩) hSq1 ?_
  simp only [Act.put, List.getElem_toArray, List.getElem_cons_zero, List.getElem_cons_succ, List.setIfInBounds_toArray, List.set_cons_zero, List.set_cons_succ]
  refine wpAnyH_take (i := 5) (v := .string (str about)) rfl (by kernel_rfl) (by kernel_rfl) (by kernel_rfl) (fun _ _ _ h => h) (Or.inl ⟨by rfl, fun x hx => by go_simp⟩) hSq1 ?_
  simp only [Act.put, List.getElem_toArray, List.getElem_cons_zero, List.getElem_cons_succ, List.setIfInBounds_toArray, List.set_cons_zero, List.set_cons_succ]
  refine wpAnyH_take (i := 6) (v := .string (str s)) rfl (by kernel_rfl) (by kernel_rfl) (by kernel_rfl) (fun _ _ _ h => h) (Or.inl ⟨by rfl, fun x hx => by go_simp⟩) hSq1 ?_
  simp only [Act.put, List.getElem_toArray, List.getElem_cons_zero, List.getElem_cons_succ, List.setIfInBounds_toArray, List.set_cons_zero, List.set_cons_succ]
  refine wpAnyH_take (i := 7) (v := .string (str z)) rfl (by kernel_rfl) (by kernel_rfl) (by kernel_rfl) (fun _ _ _ h => h) (Or.inl ⟨by rfl, fun x hx => by have e2 := E2.out; go_simp; try (intro h; exfalso; omega)⟩) hSq1 ?_
  simp only [Act.put, List.getElem_toArray, List.getElem_cons_zero, List.getElem_cons_succ, List.setIfInBounds_toArray, List.set_cons_zero, List.set_cons_succ]
  refine wpAnyH_ready (rs := [1]) (by kernel_rfl) (by simp) ?_
  refine AllReadyH.cons rfl (fun K hK => ?_) AllReadyH.nil
  go_simp
  go_wp2_with (go_at_call 30; refine (c1 _).mono ?_; rintro e yq2 ⟨rfl, bq3⟩)
  refine hK.out _ _ ⟨hSq1.1.below bq3 hSq1.1.lt, hSq1.2.trans (bq3.mono hSq1.2.size)⟩ (fun hSq4 => ?_)
  clear hK K hSq1 bq3
  refine wpAnyH_ready (rs := [4]) (by kernel_rfl) (by simp) ?_
  refine AllReadyH.cons rfl (fun K hK => ?_) AllReadyH.nil
  go_simp
  go_wp2_with (go_at_call 35; refine (c2 _).mono ?_; rintro e yq5 ⟨rfl, bq6⟩)
  refine hK.out _ _ ⟨hSq4.1.below bq6 hSq4.1.lt, hSq4.2.trans (bq6.mono hSq4.2.size)⟩ (fun hSq7 => ?_)
  clear hK K hSq4 bq6
  refine wpAnyH_ready (rs := [8]) (by kernel_rfl) (by simp) ?_
  refine AllReadyH.cons rfl (fun K hK => ?_) AllReadyH.nil
  go_simp
  go_wp2_with (go_at_call 41; refine (c3 _).mono ?_; rintro e yq8 ⟨rfl, bq9⟩)
  refine hK.out _ _ ⟨hSq7.1.below bq9 hSq7.1.lt, hSq7.2.trans (bq9.mono hSq7.2.size)⟩ (fun hSq10 => ?_)
  clear hK K hSq7 bq9
  refine wpAnyH_take (i := 9) (v := .string (str v1)) rfl (by kernel_rfl) (by kernel_rfl) (by kernel_rfl) (fun _ _ _ h => h) (Or.inl ⟨by rfl, fun x hx => by go_simp⟩) hSq10 ?_
  simp only [Act.put, List.getElem_toArray, List.getElem_cons_zero, List.getElem_cons_succ, List.setIfInBounds_toArray, List.set_cons_zero, List.set_cons_succ]
  refine wpAnyH_take (i := 10) (v := .int .i64 v2) rfl (by kernel_rfl) (by kernel_rfl) (by kernel_rfl) (fun _ _ _ h => h) (Or.inl ⟨by rfl, fun x hx => by go_simp⟩) hSq10 ?_
  simp only [Act.put, List.getElem_toArray, List.getElem_cons_zero, List.getElem_cons_succ, List.setIfInBounds_toArray, List.set_cons_zero, List.set_cons_succ]
  refine wpAnyH_ready (rs := [11]) (by kernel_rfl) (by simp) ?_
  refine AllReadyH.cons rfl (fun K hK => ?_) AllReadyH.nil
  go_simp
  refine hK.out _ _ hSq10 (fun hSq11 => ?_)
  clear hK K hSq10
  refine wpAnyH_ready (rs := [12]) (by kernel_rfl) (by simp) ?_
  refine AllReadyH.cons rfl (fun K hK => ?_) AllReadyH.nil
  go_simp
  refine hK.out _ _ hSq11 (fun hSq12 => ?_)
  clear hK K hSq11
  refine wpAnyH_done (by kernel_rfl) ?_ _
  go_wp2_with fail
  go_returns
  exact ⟨rfl, hSq12.2⟩
theorem Unwrap_calls (key about s : List UInt8) (w : World) (hk : key.length = 32) (ha : about.length ≤ 68719476736) (hm : s.length ≤ maxLen) :
    Calls Try.prog 21 #[.agg (key.map bv).toArray, .string (str about), .string (str s)] w fun e w' => e = .returned (.tuple #[.string (str (unwrapV key about s).1), .int .i64 (unwrapV key about s).2]) ∧ Below w.heap.size w w' := by
  unfold maxLen at hm
  by_cases h1 : s.length < 48
  · rw [show unwrapV key about s = ([], 2) by rw [unwrapV, if_pos h1]]
    exact UnwrapShort_calls key about s w h1
  have h3 := UnwrapMid_calls key about (s.take 32) (s.drop 32) w hk ha (by rw [List.length_take]; omega) (by rw [List.length_drop]; omega) (by rw [List.length_drop]; omega)
  rw [List.take_append_drop] at h3
  rw [unwrapV, if_neg h1]
  exact h3

end Go.Proofs.Ytjlpdbaknhbgdaa
