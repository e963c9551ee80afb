/-
  slices.Compact at digests.
-/
import Derived.Test.YtlomofcnknpciaaGleanDel
import Derived.Test.YtlomofcnknpciaaRd
import Derived.WalkLawsBesides
import Derived.Outline
import Derived.Handy
import Derived.Deep.RegionHeld
set_option linter.unusedSimpArgs false
set_option linter.unusedVariables false
namespace Go.Proofs.Ytlomofcnknpciaa
open Go.RowKit

/-- The first elements, but those that are as the one ahead. -/
def compT (l : List HsT) : Nat → List HsT
  | 0 => []
  | j + 1 => match l[j]? with
    | none => compT l j
    | some x => if 0 < j ∧ l[j - 1]? = some x then compT l j else compT l j ++ [x]
theorem compT_skip {l : List HsT} {j : Nat} {x : HsT} (h0 : 0 < j) (h : l[j]? = some x) (h1 : l[j - 1]? = some x) : compT l (j + 1) = compT l j := by
  rw [compT, h]; simp only []; rw [if_pos ⟨h0, h1⟩]
theorem compT_new {l : List HsT} {j : Nat} {x : HsT} (h : l[j]? = some x) (h1 : ¬ (0 < j ∧ l[j - 1]? = some x)) : compT l (j + 1) = compT l j ++ [x] := by
  rw [compT, h]; simp only []; rw [if_neg h1]
theorem compT_take {l : List HsT} : ∀ k, k ≤ l.length → (∀ p, 0 < p → p < k → l[p]? ≠ l[p - 1]?) → compT l k = l.take k
  | 0, _, _ => by simp [compT]
  | k + 1, hk, h => by
    have hx : l[k]? = some l[k] := List.getElem?_eq_getElem (by omega)
    rw [compT_new hx (fun ⟨h0, h1⟩ => h k h0 (by omega) (by rw [hx, h1])), compT_take k (by omega) (fun p h0 h1 => h p h0 (by omega)), List.take_add_one, hx]
    rfl
set_option maxHeartbeats 8000000 in
set_option maxRecDepth 100000 in
theorem Compact_calls (base : Nat) (v : Value) (l : List HsT) (w : World) (hl : HashOwn w base 23 v l) (hn : l.length ≤ 1000000) :
    Calls Try.prog 145 #[v] w fun e w' => ∃ v', e = .returned v' ∧ HashOwn w' base 23 v' (compT l l.length) ∧ w.grownBy w' v.ownBlock ∧ (∀ q, v'.ownBlock = some q → v.ownBlock = some q) := by
  obtain ⟨ao, c, rfl⟩ := hl.slice
  have HL := Lib.hid hl
  obtain ⟨n, hnn⟩ : ∃ n, n = l.length := ⟨_, rfl⟩
  have HN := Lib.hid hnn
  rw [← hnn] at hn HL ⊢
  obtain ⟨r, hr⟩ : ∃ r, r = compT l n := ⟨_, rfl⟩
  have HR := Lib.hid hr
  rw [← hr]
  clear hl hnn hr
  by_cases h2 : n < 2
  · have hall : Hid (r = l) := by
      show _ = _
      rw [HR.out, compT_take n (by have := HN.out; omega) (fun p h0 h1 => by omega), List.take_of_length_le (by have := HN.out; omega)]
    go_enter Try.func145, Try.ntmps145
    go_wp2_with fail
    go_returns
    exact ⟨_, rfl, by rw [hall.out]; exact HL.out, World.grownBy.refl _ _, fun q h => h⟩
  obtain ⟨g, rfl⟩ : ∃ g, ao = some ⟨g, 0, none⟩ := by
    rcases HL.out.2.2 with ⟨e1, e2⟩ | ⟨g, cap, cur, e1, _⟩
    · have := HN.out; omega
    · injection e1 with e2 e3 e4; exact ⟨g, e2⟩
  have hnc : n ≤ c := by have h9 := HL.out.2; rw [← HN.out] at h9; exact own_capH h9
  have hb0 := Lib.hid (Below.refl w.heap.size w)
  go_enter Try.func145, Try.ntmps145
  go_wp2_with fail
  go_loopw [3] (fun kv wr => ∃ (k : Nat), 1 ≤ k ∧ k ≤ n ∧ kv = .int .i64 k ∧ Hid (∀ p, 0 < p → p < k → l[p]? ≠ l[p - 1]?) ∧ Hid (Below w.heap.size w wr)) (fun kv _ => n - (intOf kv).toNat)
  case atStart => exact ⟨1, by omega, by omega, by go_num, Lib.hid (fun p h0 h1 => by omega), hb0⟩
  case round =>
    obtain ⟨k, hk1, hkn, rfl, hno, hB⟩ := hrel
    clear hb0
    by_cases hlt : k < n
    · obtain ⟨k0, hk0⟩ : ∃ k0, k0 + 1 = k := ⟨k - 1, by omega⟩
      have HK0 := Lib.hid hk0
      have hK1 : (k : Int) - 1 = (k0 : Int) := by omega
      obtain ⟨x, hx⟩ : ∃ x, l[k]? = some x := ⟨_, List.getElem?_eq_getElem (by rw [← HN.out]; exact hlt)⟩
      obtain ⟨y, hy⟩ : ∃ y, l[k0]? = some y := ⟨_, List.getElem?_eq_getElem (by have := HN.out; omega)⟩
      have hO := HL.out.below hB.out
      have H32 : Hid (x.length = 32) := hO.1 x (List.mem_of_getElem? hx)
      have H32y : Hid (y.length = 32) := hO.1 y (List.mem_of_getElem? hy)
      have HRX : Hid (∀ z, Below wr.heap.size wr z → z.rangeAt g (k * 32) (x.map bv)) := fun z hz => by have := (hO.below hz).at.range' k x hx; rwa [Nat.zero_add] at this
      have HRY : Hid (∀ z, Below wr.heap.size wr z → z.rangeAt g (k0 * 32) (y.map bv)) := fun z hz => by have := (hO.below hz).at.range' k0 y hy; rwa [Nat.zero_add] at this
      have HX := Lib.hid hx
      have HY := Lib.hid hy
      have hbr := Below.refl wr.heap.size wr
      have hk0n : k0 < n := by omega
      clear hx hy hO hk0
      by_cases hxy : x = y
      · subst hxy
        have hqe : ∀ z, (Op.equalIn 10000 23 (.agg (x.map bv).toArray) (.agg (x.map bv).toArray)).run Try.prog z = .ok true z := fun z => by rw [run_eq_hash z _ _ H32.out H32.out, beq_self_eq_true]
        go_wp2_with fail
        refine wp_region_held_drew (S := fun x => Below wr.heap.size wr x) (by kernel_rfl) (below_drewN hbr 1) (fun hSq1 => ?_)
        refine wpAnyH_take (i := 0) (v := .slice (some ⟨g, 0, none⟩) n c) rfl (by kernel_rfl) (by kernel_rfl) (by kernel_rfl) (fun _ _ _ h => h) (Or.inl ⟨by rfl, fun x hx => by go_simp⟩) hSq1 ?_
        simp only [Act.put, List.getElem_toArray, List.getElem_cons_zero, List.getElem_cons_succ, List.setIfInBounds_toArray, List.set_cons_zero, List.set_cons_succ]
        refine wpAnyH_take (i := 1) (v := .int .i64 k) rfl (by kernel_rfl) (by kernel_rfl) (by kernel_rfl) (fun _ _ _ h => h) (Or.inl ⟨by rfl, fun x hx => by go_simp⟩) hSq1 ?_
        simp only [Act.put, List.getElem_toArray, List.getElem_cons_zero, List.getElem_cons_succ, List.setIfInBounds_toArray, List.set_cons_zero, List.set_cons_succ]
        refine wpAnyH_take (i := 2) (v := .pointer (some ⟨g, k * 32, none⟩)) rfl (by kernel_rfl) (by kernel_rfl) (by kernel_rfl) (fun _ _ _ h => h) (Or.inl ⟨by rfl, fun x hx => by go_simp⟩) hSq1 ?_
        simp only [Act.put, List.getElem_toArray, List.getElem_cons_zero, List.getElem_cons_succ, List.setIfInBounds_toArray, List.set_cons_zero, List.set_cons_succ]
        refine wpAnyH_take (i := 3) rfl (by kernel_rfl) (by kernel_rfl) (by kernel_rfl) (fun _ _ _ h => h) (yieldsIf_load_mid (by rfl) 23 (.tmp 18) rfl (g) (k * 32) (by rfl) (x.map bv) _ (fun x hx => HRX.out x hx) Try.underlying23 rfl (by rw [List.length_map, H32.out]; exact Try.sizeHash)) hSq1 ?_
        simp only [Act.put, List.getElem_toArray, List.getElem_cons_zero, List.getElem_cons_succ, List.setIfInBounds_toArray, List.set_cons_zero, List.set_cons_succ]
        refine wpAnyH_take (i := 4) (v := .slice (some ⟨g, 0, none⟩) n c) rfl (by kernel_rfl) (by kernel_rfl) (by kernel_rfl) (fun _ _ _ h => h) (Or.inl ⟨by rfl, fun x hx => by go_simp⟩) hSq1 ?_
        simp only [Act.put, List.getElem_toArray, List.getElem_cons_zero, List.getElem_cons_succ, List.setIfInBounds_toArray, List.set_cons_zero, List.set_cons_succ]
        refine wpAnyH_take (i := 5) (v := .int .i64 k) rfl (by kernel_rfl) (by kernel_rfl) (by kernel_rfl) (fun _ _ _ h => h) (Or.inl ⟨by rfl, fun x hx => by go_simp⟩) hSq1 ?_
        simp only [Act.put, List.getElem_toArray, List.getElem_cons_zero, List.getElem_cons_succ, List.setIfInBounds_toArray, List.set_cons_zero, List.set_cons_succ]
        refine wpAnyH_take (i := 6) (v := .int .i64 k0) rfl (by kernel_rfl) (by kernel_rfl) (by kernel_rfl) (fun _ _ _ h => h) (Or.inl ⟨by rfl, fun x hx => by go_simp; exact IntWalk.i64_in _ (by omega)⟩) hSq1 ?_
        simp only [Act.put, List.getElem_toArray, List.getElem_cons_zero, List.getElem_cons_succ, List.setIfInBounds_toArray, List.set_cons_zero, List.set_cons_succ]
        refine wpAnyH_take (i := 7) (v := .pointer (some ⟨g, k0 * 32, none⟩)) rfl (by kernel_rfl) (by kernel_rfl) (by kernel_rfl) (fun _ _ _ h => h) (Or.inl ⟨by rfl, fun x hx => by go_simp⟩) hSq1 ?_
        simp only [Act.put, List.getElem_toArray, List.getElem_cons_zero, List.getElem_cons_succ, List.setIfInBounds_toArray, List.set_cons_zero, List.set_cons_succ]
        refine wpAnyH_take (i := 8) rfl (by kernel_rfl) (by kernel_rfl) (by kernel_rfl) (fun _ _ _ h => h) (yieldsIf_load_mid (by rfl) 23 (.tmp 23) rfl (g) (k0 * 32) (by rfl) (x.map bv) _ (fun x hx => HRY.out x hx) Try.underlying23 rfl (by rw [List.length_map, H32.out]; exact Try.sizeHash)) hSq1 ?_
        simp only [Act.put, List.getElem_toArray, List.getElem_cons_zero, List.getElem_cons_succ, List.setIfInBounds_toArray, List.set_cons_zero, List.set_cons_succ]
        refine wpAnyH_take (i := 9) (v := .bool true) rfl (by kernel_rfl) (by kernel_rfl) (by kernel_rfl) (fun _ _ _ h => h) (Or.inl ⟨by rfl, fun x hx => by go_simp⟩) hSq1 ?_
        simp only [Act.put, List.getElem_toArray, List.getElem_cons_zero, List.getElem_cons_succ, List.setIfInBounds_toArray, List.set_cons_zero, List.set_cons_succ]
        refine wpAnyH_done (by kernel_rfl) ?_ _
        have hB1 := Lib.hid (hB.out.trans (hSq1.mono hB.out.size))
        clear hSq1 hqe HRX HRY hbr
        have hL1 := Lib.hid (HL.out.below hB1.out)
        have hG1 := Lib.hid (below_grown hB1.out (Value.slice (some ⟨g, 0, none⟩) n c).ownBlock)
        have hct0 : Hid (l.take k = compT l (k + 1)) := by
          show _ = _
          rw [compT_skip (by omega) HX.out (by rw [show k - 1 = k0 by have := HK0.out; omega]; exact HY.out), compT_take k (by have := HN.out; omega) hno.out]
        have hkc : ¬ c = k := by omega
        have hkc2 : ¬ k = c := by omega
        have hkc3 : c - k ≠ 0 := by omega
        obtain ⟨nk, hnk⟩ : ∃ m, m = n - k := ⟨_, rfl⟩
        have hnkI : (n : Int) - (k : Int) = (nk : Int) := by omega
        clear hB hno
        go_wp2_with fail
        clear hkc hkc2 hkc3
        go_loopw [3, 5] (fun qv mv wr => ∃ (q m : Nat) (cur : List HsT), 1 ≤ m ∧ k + m ≤ n ∧ k ≤ q ∧ q < k + m ∧ qv = .int .i64 q ∧ mv = .int .i64 m ∧ Hid (cur.length = n) ∧ Hid (cur.take q = compT l (k + m)) ∧ Hid (cur.drop (k + m - 1) = l.drop (k + m - 1)) ∧ Hid (HashOwn wr base 23 (.slice (some ⟨g, 0, none⟩) n c) cur) ∧ Hid (w.grownBy wr (some g))) (fun _ mv _ => n - (intOf mv).toNat)
        case atStart => exact ⟨k, 1, l, by omega, by omega, by omega, by omega, rfl, by go_num, Lib.hid HN.out.symm, hct0, Lib.hid rfl, hL1, hG1⟩
        case round =>
          obtain ⟨q, m, cur, hm1, hkm, hkq, hqm, rfl, rfl, hcl, hct, hcd, hO, hG⟩ := hrel
          obtain ⟨wr2, rfl⟩ : ∃ z, z = wr := ⟨_, rfl⟩
          clear hL1 hG1 hct0
          obtain ⟨m0, hm0⟩ : ∃ m0, m0 + 1 = m := ⟨m - 1, by omega⟩
          have HM0 := Lib.hid hm0
          have hM1 : (m : Int) - 1 = (m0 : Int) := by omega
          by_cases hlt2 : k + m < n
          · have hlt3 : m < n - k := by omega
            obtain ⟨a, ha⟩ : ∃ a, l[k + m]? = some a := ⟨_, List.getElem?_eq_getElem (by have := HN.out; omega)⟩
            obtain ⟨b, hb⟩ : ∃ b, l[k + m0]? = some b := ⟨_, List.getElem?_eq_getElem (by have := HN.out; omega)⟩
            have hdrop : ∀ j z, k + m - 1 ≤ j → l[j]? = some z → cur[j]? = some z := fun j z hj hz => by
              have e1 : (cur.drop (k + m - 1))[j - (k + m - 1)]? = (l.drop (k + m - 1))[j - (k + m - 1)]? := by rw [hcd.out]
              rw [List.getElem?_drop, List.getElem?_drop, show k + m - 1 + (j - (k + m - 1)) = j by omega, hz] at e1
              exact e1
            have hca := hdrop (k + m) a (by omega) ha
            have hcb := hdrop (k + m0) b (by omega) hb
            have H32a : Hid (a.length = 32) := hO.out.1 a (List.mem_of_getElem? hca)
            have H32b : Hid (b.length = 32) := hO.out.1 b (List.mem_of_getElem? hcb)
            have HRA : Hid (∀ z, Below wr2.heap.size wr2 z → z.rangeAt g (k * 32 + m * 32) (a.map bv)) := fun z hz => by have := (hO.out.below hz).at.range' (k + m) a hca; rwa [show 0 + (k + m) * 32 = k * 32 + m * 32 by omega] at this
            have HRB : Hid (∀ z, Below wr2.heap.size wr2 z → z.rangeAt g (k * 32 + m0 * 32) (b.map bv)) := fun z hz => by have := (hO.out.below hz).at.range' (k + m0) b hcb; rwa [show 0 + (k + m0) * 32 = k * 32 + m0 * 32 by omega] at this
            have HAA := Lib.hid ha
            have HBB : Hid (l[k + m - 1]? = some b) := by show _ = _; rw [show k + m - 1 = k + m0 by omega]; exact hb
            have hcd2 : Hid (cur.drop (k + (m + 1) - 1) = l.drop (k + (m + 1) - 1)) := by
              show _ = _
              have e1 : (cur.drop (k + m - 1)).drop 1 = (l.drop (k + m - 1)).drop 1 := by rw [hcd.out]
              rw [List.drop_drop, List.drop_drop, show k + m - 1 + 1 = k + (m + 1) - 1 by omega] at e1
              exact e1
            have hbr2 := Below.refl wr2.heap.size wr2
            have hm0n : m0 < n - k := by omega
            clear ha hb hdrop hca hcb hm0
            by_cases hab : a = b
            · subst hab
              have hqe : ∀ z, (Op.equalIn 10000 23 (.agg (a.map bv).toArray) (.agg (a.map bv).toArray)).run Try.prog z = .ok true z := fun z => by rw [run_eq_hash z _ _ H32a.out H32a.out, beq_self_eq_true]
              go_wp2_with fail
              refine wp_region_held_drew (S := fun x => Below wr2.heap.size wr2 x) (by kernel_rfl) (below_drewN hbr2 1) (fun hSq2 => ?_)
              refine wpAnyH_take (i := 0) (v := .slice (some ⟨g, k * 32, none⟩) (n - k) (c - k)) rfl (by kernel_rfl) (by kernel_rfl) (by kernel_rfl) (fun _ _ _ h => h) (Or.inl ⟨by rfl, fun x hx => by go_simp⟩) hSq2 ?_
              simp only [Act.put, List.getElem_toArray, List.getElem_cons_zero, List.getElem_cons_succ, List.setIfInBounds_toArray, List.set_cons_zero, List.set_cons_succ]
              refine wpAnyH_take (i := 1) (v := .int .i64 m) rfl (by kernel_rfl) (by kernel_rfl) (by kernel_rfl) (fun _ _ _ h => h) (Or.inl ⟨by rfl, fun x hx => by go_simp⟩) hSq2 ?_
              simp only [Act.put, List.getElem_toArray, List.getElem_cons_zero, List.getElem_cons_succ, List.setIfInBounds_toArray, List.set_cons_zero, List.set_cons_succ]
              refine wpAnyH_take (i := 2) (v := .pointer (some ⟨g, k * 32 + m * 32, none⟩)) rfl (by kernel_rfl) (by kernel_rfl) (by kernel_rfl) (fun _ _ _ h => h) (Or.inl ⟨by rfl, fun x hx => by go_simp⟩) hSq2 ?_
              simp only [Act.put, List.getElem_toArray, List.getElem_cons_zero, List.getElem_cons_succ, List.setIfInBounds_toArray, List.set_cons_zero, List.set_cons_succ]
              refine wpAnyH_take (i := 3) rfl (by kernel_rfl) (by kernel_rfl) (by kernel_rfl) (fun _ _ _ h => h) (yieldsIf_load_mid (by rfl) 23 (.tmp 37) rfl (g) (k * 32 + m * 32) (by rfl) (a.map bv) _ (fun x hx => HRA.out x hx) Try.underlying23 rfl (by rw [List.length_map, H32a.out]; exact Try.sizeHash)) hSq2 ?_
              simp only [Act.put, List.getElem_toArray, List.getElem_cons_zero, List.getElem_cons_succ, List.setIfInBounds_toArray, List.set_cons_zero, List.set_cons_succ]
              refine wpAnyH_take (i := 4) (v := .slice (some ⟨g, k * 32, none⟩) (n - k) (c - k)) rfl (by kernel_rfl) (by kernel_rfl) (by kernel_rfl) (fun _ _ _ h => h) (Or.inl ⟨by rfl, fun x hx => by go_simp⟩) hSq2 ?_
              simp only [Act.put, List.getElem_toArray, List.getElem_cons_zero, List.getElem_cons_succ, List.setIfInBounds_toArray, List.set_cons_zero, List.set_cons_succ]
              refine wpAnyH_take (i := 5) (v := .int .i64 m) rfl (by kernel_rfl) (by kernel_rfl) (by kernel_rfl) (fun _ _ _ h => h) (Or.inl ⟨by rfl, fun x hx => by go_simp⟩) hSq2 ?_
              simp only [Act.put, List.getElem_toArray, List.getElem_cons_zero, List.getElem_cons_succ, List.setIfInBounds_toArray, List.set_cons_zero, List.set_cons_succ]
              refine wpAnyH_take (i := 6) (v := .int .i64 m0) rfl (by kernel_rfl) (by kernel_rfl) (by kernel_rfl) (fun _ _ _ h => h) (Or.inl ⟨by rfl, fun x hx => by go_simp; exact IntWalk.i64_in _ (by omega)⟩) hSq2 ?_
              simp only [Act.put, List.getElem_toArray, List.getElem_cons_zero, List.getElem_cons_succ, List.setIfInBounds_toArray, List.set_cons_zero, List.set_cons_succ]
              refine wpAnyH_take (i := 7) (v := .pointer (some ⟨g, k * 32 + m0 * 32, none⟩)) rfl (by kernel_rfl) (by kernel_rfl) (by kernel_rfl) (fun _ _ _ h => h) (Or.inl ⟨by rfl, fun x hx => by go_simp⟩) hSq2 ?_
              simp only [Act.put, List.getElem_toArray, List.getElem_cons_zero, List.getElem_cons_succ, List.setIfInBounds_toArray, List.set_cons_zero, List.set_cons_succ]
              refine wpAnyH_take (i := 8) rfl (by kernel_rfl) (by kernel_rfl) (by kernel_rfl) (fun _ _ _ h => h) (yieldsIf_load_mid (by rfl) 23 (.tmp 42) rfl (g) (k * 32 + m0 * 32) (by rfl) (a.map bv) _ (fun x hx => HRB.out x hx) Try.underlying23 rfl (by rw [List.length_map, H32a.out]; exact Try.sizeHash)) hSq2 ?_
              simp only [Act.put, List.getElem_toArray, List.getElem_cons_zero, List.getElem_cons_succ, List.setIfInBounds_toArray, List.set_cons_zero, List.set_cons_succ]
              refine wpAnyH_take (i := 9) (v := .bool false) rfl (by kernel_rfl) (by kernel_rfl) (by kernel_rfl) (fun _ _ _ h => h) (Or.inl ⟨by rfl, fun x hx => by go_simp⟩) hSq2 ?_
              simp only [Act.put, List.getElem_toArray, List.getElem_cons_zero, List.getElem_cons_succ, List.setIfInBounds_toArray, List.set_cons_zero, List.set_cons_succ]
              refine wpAnyH_done (by kernel_rfl) ?_ _
              have hO1 := Lib.hid (hO.out.below hSq2)
              have hG1 := Lib.hid (grown_trans hG.out (below_grown hSq2 _))
              have hct1 : Hid (cur.take q = compT l (k + (m + 1))) := by show _ = _; rw [← Nat.add_assoc, compT_skip (by omega) HAA.out HBB.out]; exact hct.out
              clear hSq2 hqe HRA HRB hbr2 hO hG
              go_wp2_with fail
              go_roundw
              case rel => exact ⟨q, m + 1, cur, by omega, by omega, by omega, by omega, rfl, by go_num, hcl, hct1, hcd2, hO1, hG1⟩
              case measure => simp [intOf]; omega
            · have hne : (a == b) = false := by rw [beq_eq_false_iff_ne]; exact hab
              have hqe : ∀ z, (Op.equalIn 10000 23 (.agg (a.map bv).toArray) (.agg (b.map bv).toArray)).run Try.prog z = .ok false z := fun z => by rw [run_eq_hash z _ _ H32a.out H32b.out, hne]
              have HAB := Lib.hid hab
              clear hne hab
              go_wp2_with fail
              refine wp_region_held_drew (S := fun x => Below wr2.heap.size wr2 x) (by kernel_rfl) (below_drewN hbr2 1) (fun hSq3 => ?_)
              refine wpAnyH_take (i := 0) (v := .slice (some ⟨g, k * 32, none⟩) (n - k) (c - k)) rfl (by kernel_rfl) (by kernel_rfl) (by kernel_rfl) (fun _ _ _ h => h) (Or.inl ⟨by rfl, fun x hx => by go_simp⟩) hSq3 ?_
              simp only [Act.put, List.getElem_toArray, List.getElem_cons_zero, List.getElem_cons_succ, List.setIfInBounds_toArray, List.set_cons_zero, List.set_cons_succ]
              refine wpAnyH_take (i := 1) (v := .int .i64 m) rfl (by kernel_rfl) (by kernel_rfl) (by kernel_rfl) (fun _ _ _ h => h) (Or.inl ⟨by rfl, fun x hx => by go_simp⟩) hSq3 ?_
              simp only [Act.put, List.getElem_toArray, List.getElem_cons_zero, List.getElem_cons_succ, List.setIfInBounds_toArray, List.set_cons_zero, List.set_cons_succ]
              refine wpAnyH_take (i := 2) (v := .pointer (some ⟨g, k * 32 + m * 32, none⟩)) rfl (by kernel_rfl) (by kernel_rfl) (by kernel_rfl) (fun _ _ _ h => h) (Or.inl ⟨by rfl, fun x hx => by go_simp⟩) hSq3 ?_
              simp only [Act.put, List.getElem_toArray, List.getElem_cons_zero, List.getElem_cons_succ, List.setIfInBounds_toArray, List.set_cons_zero, List.set_cons_succ]
              refine wpAnyH_take (i := 3) rfl (by kernel_rfl) (by kernel_rfl) (by kernel_rfl) (fun _ _ _ h => h) (yieldsIf_load_mid (by rfl) 23 (.tmp 37) rfl (g) (k * 32 + m * 32) (by rfl) (a.map bv) _ (fun x hx => HRA.out x hx) Try.underlying23 rfl (by rw [List.length_map, H32a.out]; exact Try.sizeHash)) hSq3 ?_
              simp only [Act.put, List.getElem_toArray, List.getElem_cons_zero, List.getElem_cons_succ, List.setIfInBounds_toArray, List.set_cons_zero, List.set_cons_succ]
              refine wpAnyH_take (i := 4) (v := .slice (some ⟨g, k * 32, none⟩) (n - k) (c - k)) rfl (by kernel_rfl) (by kernel_rfl) (by kernel_rfl) (fun _ _ _ h => h) (Or.inl ⟨by rfl, fun x hx => by go_simp⟩) hSq3 ?_
              simp only [Act.put, List.getElem_toArray, List.getElem_cons_zero, List.getElem_cons_succ, List.setIfInBounds_toArray, List.set_cons_zero, List.set_cons_succ]
              refine wpAnyH_take (i := 5) (v := .int .i64 m) rfl (by kernel_rfl) (by kernel_rfl) (by kernel_rfl) (fun _ _ _ h => h) (Or.inl ⟨by rfl, fun x hx => by go_simp⟩) hSq3 ?_
              simp only [Act.put, List.getElem_toArray, List.getElem_cons_zero, List.getElem_cons_succ, List.setIfInBounds_toArray, List.set_cons_zero, List.set_cons_succ]
              refine wpAnyH_take (i := 6) (v := .int .i64 m0) rfl (by kernel_rfl) (by kernel_rfl) (by kernel_rfl) (fun _ _ _ h => h) (Or.inl ⟨by rfl, fun x hx => by go_simp; exact IntWalk.i64_in _ (by omega)⟩) hSq3 ?_
              simp only [Act.put, List.getElem_toArray, List.getElem_cons_zero, List.getElem_cons_succ, List.setIfInBounds_toArray, List.set_cons_zero, List.set_cons_succ]
              refine wpAnyH_take (i := 7) (v := .pointer (some ⟨g, k * 32 + m0 * 32, none⟩)) rfl (by kernel_rfl) (by kernel_rfl) (by kernel_rfl) (fun _ _ _ h => h) (Or.inl ⟨by rfl, fun x hx => by go_simp⟩) hSq3 ?_
              simp only [Act.put, List.getElem_toArray, List.getElem_cons_zero, List.getElem_cons_succ, List.setIfInBounds_toArray, List.set_cons_zero, List.set_cons_succ]
              refine wpAnyH_take (i := 8) rfl (by kernel_rfl) (by kernel_rfl) (by kernel_rfl) (fun _ _ _ h => h) (yieldsIf_load_mid (by rfl) 23 (.tmp 42) rfl (g) (k * 32 + m0 * 32) (by rfl) (b.map bv) _ (fun x hx => HRB.out x hx) Try.underlying23 rfl (by rw [List.length_map, H32b.out]; exact Try.sizeHash)) hSq3 ?_
              simp only [Act.put, List.getElem_toArray, List.getElem_cons_zero, List.getElem_cons_succ, List.setIfInBounds_toArray, List.set_cons_zero, List.set_cons_succ]
              refine wpAnyH_take (i := 9) (v := .bool true) rfl (by kernel_rfl) (by kernel_rfl) (by kernel_rfl) (fun _ _ _ h => h) (Or.inl ⟨by rfl, fun x hx => by go_simp⟩) hSq3 ?_
              simp only [Act.put, List.getElem_toArray, List.getElem_cons_zero, List.getElem_cons_succ, List.setIfInBounds_toArray, List.set_cons_zero, List.set_cons_succ]
              refine wpAnyH_done (by kernel_rfl) ?_ _
              have hO1 := Lib.hid (hO.out.below hSq3)
              have hG1 := Lib.hid (grown_trans hG.out (below_grown hSq3 _))
              have hrg1 := HRA.out _ hSq3
              have hqn : q < n := by omega
              have hct1 : Hid ((cur.set q a).take (q + 1) = compT l (k + (m + 1))) := by
                show _ = _
                rw [← Nat.add_assoc, compT_new HAA.out (fun ⟨h0, h1⟩ => by rw [HBB.out] at h1; exact HAB.out (Option.some.inj h1).symm), ← hct.out, List.take_add_one, List.getElem?_set_self (by rw [hcl.out]; exact hqn), List.take_set_of_le (Nat.le_refl _)]
                rfl
              have hcd5 : Hid ((cur.set q a).drop (k + (m + 1) - 1) = l.drop (k + (m + 1) - 1)) := by show _ = _; rw [List.drop_set_of_lt (by omega)]; exact hcd2.out
              clear hSq3 hqe HRA HRB hbr2 hO hG
              go_wp2_with (first | ((with_reducible show wpList _ _ _ (⟨some 50, _, _, _, _, _⟩ :: _) _ _); refine wpList_load_mid rfl 23 (.tmp 49) rfl g (k * 32 + m * 32) (by rfl) (a.map bv) _ hrg1 Try.underlying23 rfl (by rw [List.length_map, H32a.out]; exact Try.sizeHash) ?_) | ((with_reducible show wpList _ _ _ (⟨none, Op.store _ (.tmp 51) _, _, _, _, _⟩ :: _) _ _); refine wpList_storeOwn (cells := fun h : HsT => h.map bv) (size := 32) rfl 23 (.tmp 51) (.tmp 50) rfl base 23 g n c q cur (by rfl) a (by rfl) (by have h9 := hO1.out.2; rw [hcl.out] at h9; exact h9) (fun x hx => by rw [List.length_map]; exact hO1.out.1 x hx) hcl.out hqn (by rw [List.length_map]; exact H32a.out) (bv_one a) (by omega) Try.sizeHash ?_; intro w7 ho7 g7))
              have hO7 : Hid (HashOwn w7 base 23 (.slice (some ⟨g, 0, none⟩) n c) (cur.set q a)) := ⟨fun x hx => (List.mem_or_eq_of_mem_set hx).elim (hO1.out.1 x) (fun e => by rw [e]; exact H32a.out), by rw [List.length_set, hcl.out]; exact ho7⟩
              have hG7 := Lib.hid (grown_trans hG1.out g7)
              clear ho7 g7 hO1 hG1 hrg1
              go_wp2_with fail
              go_roundw
              case rel => exact ⟨q + 1, m + 1, cur.set q a, by omega, by omega, by omega, by omega, by go_num, by go_num, Lib.hid (by rw [List.length_set]; exact hcl.out), hct1, hcd5, hO7, hG7⟩
              case measure => simp [intOf]; omega
          · have hmk : m = n - k := by omega
            have hlt3 : ¬ m < n - k := by omega
            have hmnk : k + m = n := by omega
            have hct6 : Hid (cur.take q = r) := by show _ = _; rw [HR.out, ← hmnk]; exact hct.out
            have hqc : ¬ c = q := by omega
            have hqc2 : ¬ q = c := by omega
            have hqc3 : c - q ≠ 0 := by omega
            go_wp2_with ((with_reducible show wpList _ _ _ (⟨none, Op.call _, _, _, _, _⟩ :: _) _ _); refine wpList_clearOwn (cells := fun h : HsT => h.map bv) (size := 32) rfl 34 (.tmp 56) rfl base 23 (.agg Z32) g n c q (n - q) (c - q) cur Try.underlying34 (fun y => by exact zeroHashRun y) Z32_size z32_one (by rfl) (by have h9 := hO.out.2; rw [hcl.out] at h9; exact h9) (fun x hx => by rw [List.length_map]; exact hO.out.1 x hx) hcl.out (by omega) (by omega) ?_; intro w7 ho7 g7)
            go_returns
            refine ⟨_, rfl, ⟨fun x hx => ?_, ?_⟩, grown_trans hG.out g7, fun q h => h⟩
            · rw [← hct6.out] at hx; exact hO.out.1 x (List.mem_of_mem_take hx)
            · rw [← hct6.out, List.length_take, hcl.out, Nat.min_eq_left (by omega)]; exact ho7
      · have hne : (x == y) = false := by rw [beq_eq_false_iff_ne]; exact hxy
        have hqe : ∀ z, (Op.equalIn 10000 23 (.agg (x.map bv).toArray) (.agg (y.map bv).toArray)).run Try.prog z = .ok false z := fun z => by rw [run_eq_hash z _ _ H32.out H32y.out, hne]
        have HXY := Lib.hid hxy
        clear hne hxy
        go_wp2_with fail
        refine wp_region_held_drew (S := fun x => Below wr.heap.size wr x) (by kernel_rfl) (below_drewN hbr 1) (fun hSq4 => ?_)
        refine wpAnyH_take (i := 0) (v := .slice (some ⟨g, 0, none⟩) n c) rfl (by kernel_rfl) (by kernel_rfl) (by kernel_rfl) (fun _ _ _ h => h) (Or.inl ⟨by rfl, fun x hx => by go_simp⟩) hSq4 ?_
        simp only [Act.put, List.getElem_toArray, List.getElem_cons_zero, List.getElem_cons_succ, List.setIfInBounds_toArray, List.set_cons_zero, List.set_cons_succ]
        refine wpAnyH_take (i := 1) (v := .int .i64 k) rfl (by kernel_rfl) (by kernel_rfl) (by kernel_rfl) (fun _ _ _ h => h) (Or.inl ⟨by rfl, fun x hx => by go_simp⟩) hSq4 ?_
        simp only [Act.put, List.getElem_toArray, List.getElem_cons_zero, List.getElem_cons_succ, List.setIfInBounds_toArray, List.set_cons_zero, List.set_cons_succ]
        refine wpAnyH_take (i := 2) (v := .pointer (some ⟨g, k * 32, none⟩)) rfl (by kernel_rfl) (by kernel_rfl) (by kernel_rfl) (fun _ _ _ h => h) (Or.inl ⟨by rfl, fun x hx => by go_simp⟩) hSq4 ?_
        simp only [Act.put, List.getElem_toArray, List.getElem_cons_zero, List.getElem_cons_succ, List.setIfInBounds_toArray, List.set_cons_zero, List.set_cons_succ]
        refine wpAnyH_take (i := 3) rfl (by kernel_rfl) (by kernel_rfl) (by kernel_rfl) (fun _ _ _ h => h) (yieldsIf_load_mid (by rfl) 23 (.tmp 18) rfl (g) (k * 32) (by rfl) (x.map bv) _ (fun x hx => HRX.out x hx) Try.underlying23 rfl (by rw [List.length_map, H32.out]; exact Try.sizeHash)) hSq4 ?_
        simp only [Act.put, List.getElem_toArray, List.getElem_cons_zero, List.getElem_cons_succ, List.setIfInBounds_toArray, List.set_cons_zero, List.set_cons_succ]
        refine wpAnyH_take (i := 4) (v := .slice (some ⟨g, 0, none⟩) n c) rfl (by kernel_rfl) (by kernel_rfl) (by kernel_rfl) (fun _ _ _ h => h) (Or.inl ⟨by rfl, fun x hx => by go_simp⟩) hSq4 ?_
        simp only [Act.put, List.getElem_toArray, List.getElem_cons_zero, List.getElem_cons_succ, List.setIfInBounds_toArray, List.set_cons_zero, List.set_cons_succ]
        refine wpAnyH_take (i := 5) (v := .int .i64 k) rfl (by kernel_rfl) (by kernel_rfl) (by kernel_rfl) (fun _ _ _ h => h) (Or.inl ⟨by rfl, fun x hx => by go_simp⟩) hSq4 ?_
        simp only [Act.put, List.getElem_toArray, List.getElem_cons_zero, List.getElem_cons_succ, List.setIfInBounds_toArray, List.set_cons_zero, List.set_cons_succ]
        refine wpAnyH_take (i := 6) (v := .int .i64 k0) rfl (by kernel_rfl) (by kernel_rfl) (by kernel_rfl) (fun _ _ _ h => h) (Or.inl ⟨by rfl, fun x hx => by go_simp; exact IntWalk.i64_in _ (by omega)⟩) hSq4 ?_
        simp only [Act.put, List.getElem_toArray, List.getElem_cons_zero, List.getElem_cons_succ, List.setIfInBounds_toArray, List.set_cons_zero, List.set_cons_succ]
        refine wpAnyH_take (i := 7) (v := .pointer (some ⟨g, k0 * 32, none⟩)) rfl (by kernel_rfl) (by kernel_rfl) (by kernel_rfl) (fun _ _ _ h => h) (Or.inl ⟨by rfl, fun x hx => by go_simp⟩) hSq4 ?_
        simp only [Act.put, List.getElem_toArray, List.getElem_cons_zero, List.getElem_cons_succ, List.setIfInBounds_toArray, List.set_cons_zero, List.set_cons_succ]
        refine wpAnyH_take (i := 8) rfl (by kernel_rfl) (by kernel_rfl) (by kernel_rfl) (fun _ _ _ h => h) (yieldsIf_load_mid (by rfl) 23 (.tmp 23) rfl (g) (k0 * 32) (by rfl) (y.map bv) _ (fun x hx => HRY.out x hx) Try.underlying23 rfl (by rw [List.length_map, H32y.out]; exact Try.sizeHash)) hSq4 ?_
        simp only [Act.put, List.getElem_toArray, List.getElem_cons_zero, List.getElem_cons_succ, List.setIfInBounds_toArray, List.set_cons_zero, List.set_cons_succ]
        refine wpAnyH_take (i := 9) (v := .bool false) rfl (by kernel_rfl) (by kernel_rfl) (by kernel_rfl) (fun _ _ _ h => h) (Or.inl ⟨by rfl, fun x hx => by go_simp⟩) hSq4 ?_
        simp only [Act.put, List.getElem_toArray, List.getElem_cons_zero, List.getElem_cons_succ, List.setIfInBounds_toArray, List.set_cons_zero, List.set_cons_succ]
        refine wpAnyH_done (by kernel_rfl) ?_ _
        have hB1 := Lib.hid (hB.out.trans (hSq4.mono hB.out.size))
        have hno1 : Hid (∀ p, 0 < p → p < k + 1 → l[p]? ≠ l[p - 1]?) := fun p h0 h1 => by
          by_cases hp : p < k
          · exact hno.out p h0 hp
          · obtain rfl : p = k := by omega
            rw [HX.out, show p - 1 = k0 by have := HK0.out; omega, HY.out]
            intro e; exact HXY.out (Option.some.inj e)
        clear hSq4 hqe HRX HRY hbr hB hno
        go_wp2_with fail
        go_roundw
        case rel => exact ⟨k + 1, by omega, by omega, by go_num, hno1, hB1⟩
        case measure => simp [intOf]; omega
    · obtain rfl : k = n := by omega
      have hall : Hid (r = l) := by
        show _ = _
        rw [HR.out, compT_take k (by have := HN.out; omega) hno.out, List.take_of_length_le (by have := HN.out; omega)]
      go_wp2_with fail
      go_returns
      exact ⟨_, rfl, by rw [hall.out]; exact HL.out.below hB.out, below_grown hB.out _, fun q h => h⟩
end Go.Proofs.Ytlomofcnknpciaa
