/-
  bevylaw19.known: epochs as the program has them.
-/
import Derived.Test.YtlomofcnknpciaaGleanMk
import Derived.WalkLawsBesides
import Derived.Laws.AppendOwnNone
import Derived.Outline
import Derived.Handy
import Derived.Deep.RegionHeld
set_option linter.unusedSimpArgs false
set_option linter.unusedVariables false
namespace Go.Proofs.Ytlomofcnknpciaa
open Go.RowKit

theorem fill_midK {place : Nat → Option (Nat × Nat)} {rest : List (Nat × Value)} {i : Nat} {l A B C v : List Value} {x : Value} (hx : x.cells = v.toArray) (hl : l = A ++ (B ++ C)) (hp : place i = some (A.length, v.length)) (hB : B.length = v.length) :
    Instr.fill place l.toArray ((i, x) :: rest) = Instr.fill place (A ++ (v ++ C)).toArray rest := by
  subst hl
  have hF : Instr.fill place (A ++ (B ++ C)).toArray ((i, x) :: rest) = Instr.fill place (Array.foldl (fun cs (x : Value × Nat) => cs.setIfInBounds (A.length + x.2) x.1) (A ++ (B ++ C)).toArray (v.toArray.zipIdx)) rest := by
    conv => lhs; rw [Instr.fill]
    rw [hp]
    dsimp only
    rw [hx]
    split
    · rename_i h
      simp at h
      omega
    · rfl
  rw [hF]
  congr 1
  obtain ⟨h1, h2⟩ := Go.Great.foldl_set A.length v 0 (A ++ (B ++ C)).toArray
  have e : (Array.foldl (fun cs (x : Value × Nat) => cs.setIfInBounds (A.length + x.2) x.1) (A ++ (B ++ C)).toArray (v.toArray.zipIdx)) = (v.zipIdx 0).foldl (fun cs (x : Value × Nat) => cs.setIfInBounds (A.length + x.2) x.1) (A ++ (B ++ C)).toArray := by
    rw [← Array.foldl_toList]
    simp
  refine e.trans ?_
  apply Array.ext_getElem?
  intro k
  rw [h2 k]
  simp only [List.getElem?_toArray, List.size_toArray, Nat.add_zero]
  by_cases hk1 : k < A.length
  · rw [if_neg (by omega), List.getElem?_append_left hk1, List.getElem?_append_left hk1]
  · by_cases hk2 : k < A.length + v.length
    · rw [if_pos ⟨by omega, by omega, by simp; omega⟩, List.getElem?_append_right (by omega), List.getElem?_append_left (by omega)]
    · rw [if_neg (by omega), List.getElem?_append_right (l₂ := B ++ C) (by omega), List.getElem?_append_right (l₂ := v ++ C) (by omega), List.getElem?_append_right (l₁ := B) (by omega), List.getElem?_append_right (l₁ := v) (by omega), hB]

abbrev z34 : List Value := .int .i64 0 :: .int .i64 0 :: (List.replicate 32 (0 : UInt8)).map bv
theorem Try.zeroKnL : (Try.prog.info? 164).bind (·.zero) = some (.agg ((List.replicate 32 (0 : UInt8)).map bv ++ [Value.int .i64 0, Value.string ⟨#[]⟩]).toArray) := by kernel_rfl
theorem kn_built (c : Kn) : Try.prog.built 164 [(0, .agg (c.h.map bv).toArray), (1, .int .i64 c.d), (2, .string (str c.s))] = some c.cells.toArray := by
  rw [built_struct Try.zeroKnL Try.underlying164 (places := [(0, 32), (32, 1), (33, 1)]) (by kernel_rfl), Value.cells]
  refine (fill_midK (A := []) (B := (List.replicate 32 (0 : UInt8)).map bv) (C := [.int .i64 0, .string ⟨#[]⟩]) (v := c.h.map bv) rfl rfl (by rw [List.length_map, c.hh]; rfl) (by simp [c.hh])).trans ?_
  refine (fill_midK (A := c.h.map bv) (B := [.int .i64 0]) (C := [.string ⟨#[]⟩]) (v := [.int .i64 c.d]) rfl (by simp) (by rw [List.length_map, c.hh]; rfl) rfl).trans ?_
  refine (fill_midK (A := c.h.map bv ++ [.int .i64 c.d]) (B := [.string ⟨#[]⟩]) (C := []) (v := [.string (str c.s)]) rfl (by simp) (by rw [List.length_append, List.length_map, c.hh]; rfl) rfl).trans ?_
  simp [Instr.fill, Kn.cells]
/-- What known answers. -/
def KnownRes (l : List Kn) (w w' : World) (e : Ending) : Prop := Below w.heap.size w w' ∧ ((∃ v', e = .returned (.tuple #[v', .bool true]) ∧ KnOwn w' w.heap.size 164 v' l ∧ l.length ≤ 400) ∨ ∃ v', e = .returned (.tuple #[v', .bool false]))
set_option maxHeartbeats 16000000 in
set_option maxRecDepth 100000 in
theorem known_calls (v : Value) (l : List Kn) (w : World) (h : KnAt w v l) (hn : l.length ≤ maxLen) :
    Calls Try.prog 39 #[v] w fun e w' => KnownRes l w w' e := by
  obtain ⟨ao, cc, rfl⟩ := h.slice
  have H := Lib.hid h
  obtain ⟨n, hnn⟩ : ∃ n, n = l.length := ⟨_, rfl⟩
  have HN := Lib.hid hnn
  rw [← hnn] at hn H ⊢
  unfold maxLen at hn
  have hb0 := Lib.hid (Below.refl w.heap.size w)
  clear h hnn
  go_enter Try.func39, Try.ntmps39
  go_wp2_with fail
  go_loopw [4, 5, 6] (fun ov sv iv wr => ∃ (i s : Nat) (acc : List Kn), i ≤ n ∧ i ≤ 400 ∧ s ≤ 200000 ∧ sv = .int .i64 s ∧ iv = .int .i64 i ∧ Hid (acc = l.take i) ∧ Hid (KnOwn wr w.heap.size 164 ov acc) ∧ Hid (Below w.heap.size w wr)) (fun _ _ iv _ => n - (intOf iv).toNat)
  case atStart => exact ⟨0, 0, [], by omega, by omega, by omega, rfl, rfl, Lib.hid (by simp), Lib.hid (ROwn.nil _ _ _), hb0⟩
  case round =>
    obtain ⟨i, s, acc, hi, hi4, hs, rfl, rfl, hA, hO, hB⟩ := hrel
    clear hb0
    obtain ⟨oao, oc, rfl⟩ := hO.out.slice
    have hbw := hB.out
    by_cases hlt : i < n
    · obtain ⟨c, hc⟩ : ∃ c, l[i]? = some c := ⟨_, List.getElem?_eq_getElem (by rw [← HN.out]; exact hlt)⟩
      obtain ⟨g, o, rfl, _⟩ := H.out.range Kn.cells_len i c hc
      have HRG : Hid (∀ z, Below w.heap.size w z → z.rangeAt g (o + i * 34) c.cells) := fun z hz => (H.out.below hz).range' Kn.cells_len i c hc
      have H32 : Hid (c.h.length = 32) := c.hh
      have hcs := kn_s (HRG.out _ hbw)
      have hcl := c.hs
      unfold maxLen at hcl
      have hal : acc.length ≤ 400 := by rw [hA.out, List.length_take]; omega
      have hA5 : Hid (acc ++ [c] = l.take (i + 1)) := by
        show _ = _
        rw [hA.out, List.take_add_one, hc]; rfl
      clear hc hA hB
      by_cases h1 : 400 ≤ i
      · have hd1 : decide (400 ≤ (i : Int)) = true := decide_eq_true (by omega)
        go_wp2_with (first | ((with_reducible show wpList _ _ _ (⟨some 20, _, _, _, _, _⟩ :: _) _ _); refine wpList_if (by rfl) (wp_load1 9 (.tmp 19) rfl g (o + i * 34 + 33) (by rfl) _ _ hcs Try.underlying9 rfl ?_)))
        go_returns
        exact ⟨hbw, .inr ⟨_, rfl⟩⟩
      · have hd1 : decide (400 ≤ (i : Int)) = false := decide_eq_false (by omega)
        by_cases h2 : 100000 < c.s.length
        · have hd2 : decide (100000 < (c.s.length : Int)) = true := decide_eq_true (by omega)
          go_wp2_with (first | ((with_reducible show wpList _ _ _ (⟨some 20, _, _, _, _, _⟩ :: _) _ _); refine wpList_if (by rfl) (wp_load1 9 (.tmp 19) rfl g (o + i * 34 + 33) (by rfl) _ _ hcs Try.underlying9 rfl ?_)))
          go_returns
          exact ⟨hbw, .inr ⟨_, rfl⟩⟩
        · have hd2 : decide (100000 < (c.s.length : Int)) = false := decide_eq_false (by omega)
          by_cases h3 : 100000 < s
          · have hd3 : decide (100000 < (s : Int)) = true := decide_eq_true (by omega)
            go_wp2_with (first | ((with_reducible show wpList _ _ _ (⟨some 20, _, _, _, _, _⟩ :: _) _ _); refine wpList_if (by rfl) (wp_load1 9 (.tmp 19) rfl g (o + i * 34 + 33) (by rfl) _ _ hcs Try.underlying9 rfl ?_)))
            go_returns
            exact ⟨hbw, .inr ⟨_, rfl⟩⟩
          · have hd3 : decide (100000 < (s : Int)) = false := decide_eq_false (by omega)
            obtain ⟨s2, hs2⟩ : ∃ s2, s2 = s + c.s.length := ⟨_, rfl⟩
            have hs3 : IntKind.i64.wrap ((s : Int) + (c.s.length : Int)) = (s2 : Int) := by rw [hs2, IntWalk.i64_in _ (by omega)]; omega
            have hs4 : s2 ≤ 200000 := by omega
            clear hs2
            go_wp2_with (first | ((with_reducible show wpList _ _ _ (⟨some 20, _, _, _, _, _⟩ :: _) _ _); refine wpList_if (by rfl) (wp_load1 9 (.tmp 19) rfl g (o + i * 34 + 33) (by rfl) _ _ hcs Try.underlying9 rfl ?_)) | ((with_reducible show wpList _ _ _ (⟨some 33, _, _, _, _, _⟩ :: _) _ _); refine wpList_load1 rfl 9 (.tmp 32) rfl g (o + i * 34 + 33) (by rfl) _ _ hcs Try.underlying9 rfl ?_))
            refine wp_region_held_drew (S := fun x => Below w.heap.size w x) (by kernel_rfl) (below_drewN hbw 1) (fun hSq1 => ?_)
            have hHq2 := Lib.hid (hO.out.drew)
            refine wpAnyH_take (i := 0) (v := .slice oao acc.length oc) rfl (by kernel_rfl) (by kernel_rfl) (by kernel_rfl) (fun _ _ _ h => h) (Or.inl ⟨by rfl, fun x hx => by go_simp⟩) hSq1 ?_
            simp only [Act.put, List.getElem_toArray, List.getElem_cons_zero, List.getElem_cons_succ, List.setIfInBounds_toArray, List.set_cons_zero, List.set_cons_succ]
            refine wpAnyH_take (i := 1) (v := .slice (some ⟨g, o, none⟩) n cc) rfl (by kernel_rfl) (by kernel_rfl) (by kernel_rfl) (fun _ _ _ h => h) (Or.inl ⟨by rfl, fun x hx => by go_simp⟩) hSq1 ?_
            simp only [Act.put, List.getElem_toArray, List.getElem_cons_zero, List.getElem_cons_succ, List.setIfInBounds_toArray, List.set_cons_zero, List.set_cons_succ]
            refine wpAnyH_take (i := 2) (v := .int .i64 i) rfl (by kernel_rfl) (by kernel_rfl) (by kernel_rfl) (fun _ _ _ h => h) (Or.inl ⟨by rfl, fun x hx => by go_simp⟩) hSq1 ?_
            simp only [Act.put, List.getElem_toArray, List.getElem_cons_zero, List.getElem_cons_succ, List.setIfInBounds_toArray, List.set_cons_zero, List.set_cons_succ]
            refine wpAnyH_take (i := 3) (v := .pointer (some ⟨g, o + i * 34, none⟩)) rfl (by kernel_rfl) (by kernel_rfl) (by kernel_rfl) (fun _ _ _ h => h) (Or.inl ⟨by rfl, fun x hx => by go_simp⟩) hSq1 ?_
            simp only [Act.put, List.getElem_toArray, List.getElem_cons_zero, List.getElem_cons_succ, List.setIfInBounds_toArray, List.set_cons_zero, List.set_cons_succ]
            refine wpAnyH_take (i := 4) (v := .pointer (some ⟨g, o + i * 34, none⟩)) rfl (by kernel_rfl) (by kernel_rfl) (by kernel_rfl) (fun _ _ _ h => h) (Or.inl ⟨by rfl, fun x hx => by go_simp⟩) hSq1 ?_
            simp only [Act.put, List.getElem_toArray, List.getElem_cons_zero, List.getElem_cons_succ, List.setIfInBounds_toArray, List.set_cons_zero, List.set_cons_succ]
            refine wpAnyH_take (i := 5) rfl (by kernel_rfl) (by kernel_rfl) (by kernel_rfl) (fun _ _ _ h => h) (yieldsIf_load_mid (by rfl) 23 (.tmp 40) rfl (g) (o + i * 34) (by rfl) (c.h.map bv) _ (fun x hx => kn_h (HRG.out _ hx)) Try.underlying23 rfl (by rw [List.length_map, H32.out]; exact Try.sizeHash)) hSq1 ?_
            simp only [Act.put, List.getElem_toArray, List.getElem_cons_zero, List.getElem_cons_succ, List.setIfInBounds_toArray, List.set_cons_zero, List.set_cons_succ]
            refine wpAnyH_take (i := 6) (v := .slice (some ⟨g, o, none⟩) n cc) rfl (by kernel_rfl) (by kernel_rfl) (by kernel_rfl) (fun _ _ _ h => h) (Or.inl ⟨by rfl, fun x hx => by go_simp⟩) hSq1 ?_
            simp only [Act.put, List.getElem_toArray, List.getElem_cons_zero, List.getElem_cons_succ, List.setIfInBounds_toArray, List.set_cons_zero, List.set_cons_succ]
            refine wpAnyH_take (i := 7) (v := .int .i64 i) rfl (by kernel_rfl) (by kernel_rfl) (by kernel_rfl) (fun _ _ _ h => h) (Or.inl ⟨by rfl, fun x hx => by go_simp⟩) hSq1 ?_
            simp only [Act.put, List.getElem_toArray, List.getElem_cons_zero, List.getElem_cons_succ, List.setIfInBounds_toArray, List.set_cons_zero, List.set_cons_succ]
            refine wpAnyH_take (i := 8) (v := .pointer (some ⟨g, o + i * 34, none⟩)) rfl (by kernel_rfl) (by kernel_rfl) (by kernel_rfl) (fun _ _ _ h => h) (Or.inl ⟨by rfl, fun x hx => by go_simp⟩) hSq1 ?_
            simp only [Act.put, List.getElem_toArray, List.getElem_cons_zero, List.getElem_cons_succ, List.setIfInBounds_toArray, List.set_cons_zero, List.set_cons_succ]
            refine wpAnyH_take (i := 9) (v := .pointer (some ⟨g, o + i * 34 + 32, none⟩)) rfl (by kernel_rfl) (by kernel_rfl) (by kernel_rfl) (fun _ _ _ h => h) (Or.inl ⟨by rfl, fun x hx => by go_simp⟩) hSq1 ?_
            simp only [Act.put, List.getElem_toArray, List.getElem_cons_zero, List.getElem_cons_succ, List.setIfInBounds_toArray, List.set_cons_zero, List.set_cons_succ]
            refine wpAnyH_take (i := 10) (v := .int .i64 c.d) rfl (by kernel_rfl) (by kernel_rfl) (by kernel_rfl) (fun _ _ _ h => h) (Or.inl ⟨by rfl, fun x hx => by have hc := kn_d (HRG.out _ hx); go_simp⟩) hSq1 ?_
            simp only [Act.put, List.getElem_toArray, List.getElem_cons_zero, List.getElem_cons_succ, List.setIfInBounds_toArray, List.set_cons_zero, List.set_cons_succ]
            refine wpAnyH_take (i := 11) (v := .slice (some ⟨g, o, none⟩) n cc) rfl (by kernel_rfl) (by kernel_rfl) (by kernel_rfl) (fun _ _ _ h => h) (Or.inl ⟨by rfl, fun x hx => by go_simp⟩) hSq1 ?_
            simp only [Act.put, List.getElem_toArray, List.getElem_cons_zero, List.getElem_cons_succ, List.setIfInBounds_toArray, List.set_cons_zero, List.set_cons_succ]
            refine wpAnyH_take (i := 12) (v := .int .i64 i) rfl (by kernel_rfl) (by kernel_rfl) (by kernel_rfl) (fun _ _ _ h => h) (Or.inl ⟨by rfl, fun x hx => by go_simp⟩) hSq1 ?_
            simp only [Act.put, List.getElem_toArray, List.getElem_cons_zero, List.getElem_cons_succ, List.setIfInBounds_toArray, List.set_cons_zero, List.set_cons_succ]
            refine wpAnyH_take (i := 13) (v := .pointer (some ⟨g, o + i * 34, none⟩)) rfl (by kernel_rfl) (by kernel_rfl) (by kernel_rfl) (fun _ _ _ h => h) (Or.inl ⟨by rfl, fun x hx => by go_simp⟩) hSq1 ?_
            simp only [Act.put, List.getElem_toArray, List.getElem_cons_zero, List.getElem_cons_succ, List.setIfInBounds_toArray, List.set_cons_zero, List.set_cons_succ]
            refine wpAnyH_take (i := 14) (v := .pointer (some ⟨g, o + i * 34 + 33, none⟩)) rfl (by kernel_rfl) (by kernel_rfl) (by kernel_rfl) (fun _ _ _ h => h) (Or.inl ⟨by rfl, fun x hx => by go_simp⟩) hSq1 ?_
            simp only [Act.put, List.getElem_toArray, List.getElem_cons_zero, List.getElem_cons_succ, List.setIfInBounds_toArray, List.set_cons_zero, List.set_cons_succ]
            refine wpAnyH_take (i := 15) (v := .string (str c.s)) rfl (by kernel_rfl) (by kernel_rfl) (by kernel_rfl) (fun _ _ _ h => h) (Or.inl ⟨by rfl, fun x hx => by have hc := kn_s (HRG.out _ hx); go_simp⟩) hSq1 ?_
            simp only [Act.put, List.getElem_toArray, List.getElem_cons_zero, List.getElem_cons_succ, List.setIfInBounds_toArray, List.set_cons_zero, List.set_cons_succ]
            refine wpAnyH_take (i := 16) rfl (by kernel_rfl) (by kernel_rfl) (by kernel_rfl) (fun _ _ _ h => h) (yieldsIf_build (by rfl) 164 #[(0, .tmp 41), (1, .tmp 46), (2, .tmp 51)] rfl c.cells.toArray (kn_built c)) hSq1 ?_
            simp only [Act.put, List.getElem_toArray, List.getElem_cons_zero, List.getElem_cons_succ, List.setIfInBounds_toArray, List.set_cons_zero, List.set_cons_succ]
            refine wpAnyH_ready (rs := [17]) (by kernel_rfl) (by simp) ?_
            refine AllReadyH.cons rfl (fun K hK => ?_) AllReadyH.nil
            rw [if_pos (by rfl)]
            refine wp_bsV 76 164 (.tmp 52) rfl (.agg c.cells.toArray) (by rfl) Try.underlying76 zKn 34 Try.infoKn2 (kn_szv c) (by omega) (by omega) ?_
            intro yq3 zq4 bq5 nq6
            have hHq8 := Lib.hid (hHq2.out.below bq5)
            refine hK.out _ _ (hSq1.trans (bq5.mono (hSq1.size))) (fun hSq7 => ?_)
            clear hK K hSq1 bq5 zq4
            refine wpAnyH_ready (rs := [18]) (by kernel_rfl) (by simp) ?_
            refine AllReadyH.cons rfl (fun K hK => ?_) AllReadyH.nil
            rw [if_pos (by rfl)]
            refine wp_append_R (.tmp 36) (.tmp 53) 76 rfl Kn.cells_len Kn.one w.heap.size 164 zKn 56 Try.underlying76 Try.infoKn zKn_size (by omega) (by omega) _ acc [c] (by rfl) hHq8.out _ (by rfl) (RAt.blk nq6) (by intro _ e; cases e) (by simp; omega) hSq7.size ?_
            intro vq9 yq10 hoq11 gq12
            have HO8 := Lib.hid hoq11
            refine hK.out _ _ (hSq7.grown gq12 hSq7.size (fun q e => (hHq8.out.lt _ e).1)) (fun hSq13 => ?_)
            clear hK K hSq7 hoq11 gq12 nq6 hHq8
            refine wpAnyH_ready (rs := [19]) (by kernel_rfl) (by simp) ?_
            refine AllReadyH.cons rfl (fun K hK => ?_) AllReadyH.nil
            go_simp
            refine hK.out _ _ hSq13 (fun hSq14 => ?_)
            clear hK K hSq13
            refine wpAnyH_done (by kernel_rfl) ?_ _
            have hB9 := Lib.hid hSq14
            clear hSq14 hs3 hcs
            go_wp2_with fail
            go_roundw
            case rel => exact ⟨i + 1, s2, acc ++ [c], by omega, by omega, by omega, by go_num, by go_num, hA5, HO8, hB9⟩
            case measure => simp [intOf]; omega
    · obtain rfl : i = n := by omega
      have hAl : Hid (acc = l) := by
        show _ = _
        rw [hA.out, List.take_of_length_le (by have := HN.out; omega)]
      go_wp2_with fail
      go_returns
      have hOz := hO.out
      rw [hAl.out] at hOz ⊢
      exact ⟨hbw, .inl ⟨_, rfl, hOz, by have := HN.out; omega⟩⟩
end Go.Proofs.Ytlomofcnknpciaa
