/-
  The document's rows: Pack.
-/
import Derived.Test.YtnfegmcdljejnaaPprDoc
import Derived.Test.YtnfegmcdljejnaaPprPack
import Derived.Test.YtnfegmcdljejnaaWireRefNum
set_option linter.unusedSimpArgs false
set_option linter.unusedVariables false
namespace Go.Proofs.Ytnfegmcdljejnaa
open Go.RowKit

theorem RefHash6_calls (l : List UInt8) (w : World) (hl : l.length = 32) :
    Calls Try.prog 145 #[.agg (l.map bv).toArray] w fun e w' => e = .returned (.string (str l)) ∧ Below w.heap.size w w' := by
  have HL := Lib.hid hl
  clear hl
  go_enter Try.func145, Try.ntmps145
  go_wp2_with ((with_reducible show wpList _ _ _ (⟨some 4, _, _, _, _, _⟩ :: _) _ _); refine wpList_convBlk rfl 120 9 5 _ rfl Try.underlying120 Try.underlying5 Try.underlying9 w.heap.size 32 32 (by rfl) _ _ (Blk.new _ _ _) l HL.out (by rw [List.take_of_length_le (by simp [HL.out])]) ?_)
  go_returns
  exact ⟨rfl, (Below.refl _ _).alloc (Nat.le_refl _) _⟩
set_option maxHeartbeats 4000000 in
set_option maxRecDepth 100000 in
theorem RPack_calls (v : Value) (l : List Sd) (w : World) (h : SeedsAt w v l) (hok : ∀ s ∈ l, s.lv ≤ 32 ∧ s.pl < 4294967296) (hn : l.length ≤ 1000000) :
    Calls Try.prog 120 #[v] w fun e w' => e = .returned (.string (str (packB l))) ∧ Below w.heap.size w w' := by
  obtain ⟨ao, c, rfl, hc⟩ := h.slice
  have H2 := Lib.hid h
  have HOK := Lib.hid hok
  obtain ⟨n, hne⟩ : ∃ n, n = l.length := ⟨_, rfl⟩
  rw [← hne] at hc hn H2 ⊢
  have HN := Lib.hid hne
  clear h hok hne
  go_enter Try.func120, Try.ntmps120
  go_wp2_with fail
  refine (RefNum_calls n _ (by omega) (by omega)).mono ?_
  rintro e w1 ⟨rfl, b1⟩
  rw [show (n : Int).toNat = n from rfl]
  have HB1 := Lib.hid b1
  clear b1
  go_wp2_with fail
  go_loopw [3, 4] (fun x i wr => ∃ (k : Nat) (bs : List UInt8), k ≤ n ∧ x = .string (str bs) ∧ i = .int .i64 k ∧ bs.length ≤ 8 + 48 * k ∧ Hid (bs = numB n ++ (l.take k).flatMap Sd.enc2) ∧ Hid (Below w.heap.size w wr)) (fun _ i _ => n - (intOf i).toNat)
  case atStart => exact ⟨0, numB n, by omega, rfl, rfl, by have := numB_len n; omega, Lib.hid (by simp), HB1.out⟩
  case round =>
    obtain ⟨k, bs, hk, rfl, rfl, hbl, HBS, hB⟩ := hrel
    clear HB1
    have h2 := H2.out.below hB.out
    by_cases hlt : k < n
    · obtain ⟨g, rfl⟩ : ∃ g, ao = some ⟨g, 0, none⟩ := by
        have hn1 := HN.out
        rcases h2.2 with ⟨h3, h4⟩ | ⟨g, c', h3, h4, h5⟩
        · rw [h4] at hn1; simp at hn1; omega
        · simp at h3; exact ⟨g, h3.1⟩
      obtain ⟨s, hs⟩ : ∃ s, l[k]? = some s := ⟨l[k]'(by rw [← HN.out]; exact hlt), List.getElem?_eq_getElem _⟩
      have hs32 : s.h.length = 32 := h2.1 s (List.mem_of_getElem? hs)
      have hsok := HOK.out s (List.mem_of_getElem? hs)
      have hsl : s.lv ≤ 32 := hsok.1
      have hsp : s.pl < 4294967296 := hsok.2
      have HS := Lib.hid hs32
      have HSK := Lib.hid hs
      have hnx : Hid (bs ++ numB s.lv ++ numB s.pl ++ s.h = numB n ++ (l.take (k + 1)).flatMap Sd.enc2) := by
        show _ = _
        rw [encs_succ l k s hs, HBS.out, Sd.enc2]
        simp
      obtain ⟨na, hna⟩ : ∃ a, a = numB s.lv := ⟨_, rfl⟩
      obtain ⟨nb, hnb⟩ : ∃ a, a = numB s.pl := ⟨_, rfl⟩
      have hl1 : na.length ≤ 8 := by rw [hna]; exact numB_len _
      have hl2 : nb.length ≤ 8 := by rw [hnb]; exact numB_len _
      have hl3 : s.h.length ≤ 32 := by omega
      have hl4 : 32 ≤ s.h.length := by omega
      rw [← hna, ← hnb] at hnx
      have c1 : ∀ y, Calls Try.prog 97 #[.int .i64 s.lv] y fun e w' => e = .returned (.string (str na)) ∧ Below y.heap.size y w' := fun y => by
        rw [hna]; exact RefNum_calls s.lv y (by omega) (by omega)
      have c2 : ∀ y, Calls Try.prog 97 #[.int .i64 s.pl] y fun e w' => e = .returned (.string (str nb)) ∧ Below y.heap.size y w' := fun y => by
        rw [hnb]; exact RefNum_calls s.pl y (by omega) (by omega)
      have e1 : ∀ x, SeedsAt x (.slice (some ⟨g, 0, none⟩) n c) l → x.cell? ⟨g, k * 34, none⟩ = some (.int .i64 s.lv) := fun x hx => by
        have := (hx.range k s HSK.out) 0 _ rfl
        rwa [Nat.mul_comm] at this
      have e2 : ∀ x, SeedsAt x (.slice (some ⟨g, 0, none⟩) n c) l → x.cell? ⟨g, k * 34 + 1, none⟩ = some (.int .i64 s.pl) := fun x hx => by
        have := (hx.range k s HSK.out) 1 _ rfl
        rwa [Nat.mul_comm] at this
      have e3 : ∀ x, SeedsAt x (.slice (some ⟨g, 0, none⟩) n c) l → x.rangeAt g (k * 34 + 2) (s.h.map bv) := fun x hx => by
        have := hx.range k s HSK.out
        rw [Nat.mul_comm] at this
        exact range_hash this
      have E1 := Lib.hid e1
      have E2 := Lib.hid e2
      have E3 := Lib.hid e3
      have hb0 := hB.out
      clear hs32 hs hsok HOK HBS hna hnb e1 e2 e3 hB
      go_wp2_with fail
      refine wp_region_held_drew (S := fun x => SeedsAt x (.slice (some ⟨g, 0, none⟩) n c) l ∧ Below w.heap.size w x) (by kernel_rfl) ⟨h2.below (below_drewN (Below.refl _ _) 1), below_drewN hb0 1⟩ (fun hSq1 => ?_)
      refine wpAnyH_take (i := 0) (v := .string (str (bs))) rfl (by kernel_rfl) (by kernel_rfl) (by kernel_rfl) (fun _ _ _ h => h) (Or.inl ⟨by rfl, fun x hx => by go_simp⟩) hSq1 ?_
      simp only [Act.put, List.getElem_toArray, List.getElem_cons_zero, List.getElem_cons_succ, List.setIfInBounds_toArray, List.set_cons_zero, List.set_cons_succ]
      refine wpAnyH_take (i := 1) (v := .slice (some ⟨g, 0, none⟩) n c) rfl (by kernel_rfl) (by kernel_rfl) (by kernel_rfl) (fun _ _ _ h => h) (Or.inl ⟨by rfl, fun x hx => by go_simp⟩) hSq1 ?_
      simp only [Act.put, List.getElem_toArray, List.getElem_cons_zero, List.getElem_cons_succ, List.setIfInBounds_toArray, List.set_cons_zero, List.set_cons_succ]
      refine wpAnyH_take (i := 2) (v := .int .i64 k) rfl (by kernel_rfl) (by kernel_rfl) (by kernel_rfl) (fun _ _ _ h => h) (Or.inl ⟨by rfl, fun x hx => by go_simp⟩) hSq1 ?_
      simp only [Act.put, List.getElem_toArray, List.getElem_cons_zero, List.getElem_cons_succ, List.setIfInBounds_toArray, List.set_cons_zero, List.set_cons_succ]
      refine wpAnyH_take (i := 3) (v := .pointer (some ⟨g, k * 34, none⟩)) rfl (by kernel_rfl) (by kernel_rfl) (by kernel_rfl) (fun _ _ _ h => h) (Or.inl ⟨by rfl, fun x hx => by go_simp⟩) hSq1 ?_
      simp only [Act.put, List.getElem_toArray, List.getElem_cons_zero, List.getElem_cons_succ, List.setIfInBounds_toArray, List.set_cons_zero, List.set_cons_succ]
      refine wpAnyH_take (i := 4) (v := .pointer (some ⟨g, k * 34, none⟩)) rfl (by kernel_rfl) (by kernel_rfl) (by kernel_rfl) (fun _ _ _ h => h) (Or.inl ⟨by rfl, fun x hx => by go_simp⟩) hSq1 ?_
      simp only [Act.put, List.getElem_toArray, List.getElem_cons_zero, List.getElem_cons_succ, List.setIfInBounds_toArray, List.set_cons_zero, List.set_cons_succ]
      refine wpAnyH_take (i := 5) (v := .int .i64 s.lv) rfl (by kernel_rfl) (by kernel_rfl) (by kernel_rfl) (fun _ _ _ h => h) (Or.inl ⟨by rfl, fun x hx => by have hc := E1.out x hx.1; go_simp⟩) hSq1 ?_
      simp only [Act.put, List.getElem_toArray, List.getElem_cons_zero, List.getElem_cons_succ, List.setIfInBounds_toArray, List.set_cons_zero, List.set_cons_succ]
      refine wpAnyH_take (i := 8) (v := .slice (some ⟨g, 0, none⟩) n c) rfl (by kernel_rfl) (by kernel_rfl) (by kernel_rfl) (fun _ _ _ h => h) (Or.inl ⟨by rfl, fun x hx => by go_simp⟩) hSq1 ?_
      simp only [Act.put, List.getElem_toArray, List.getElem_cons_zero, List.getElem_cons_succ, List.setIfInBounds_toArray, List.set_cons_zero, List.set_cons_succ]
      refine wpAnyH_take (i := 9) (v := .int .i64 k) rfl (by kernel_rfl) (by kernel_rfl) (by kernel_rfl) (fun _ _ _ h => h) (Or.inl ⟨by rfl, fun x hx => by go_simp⟩) hSq1 ?_
      simp only [Act.put, List.getElem_toArray, List.getElem_cons_zero, List.getElem_cons_succ, List.setIfInBounds_toArray, List.set_cons_zero, List.set_cons_succ]
      refine wpAnyH_take (i := 10) (v := .pointer (some ⟨g, k * 34, none⟩)) rfl (by kernel_rfl) (by kernel_rfl) (by kernel_rfl) (fun _ _ _ h => h) (Or.inl ⟨by rfl, fun x hx => by go_simp⟩) hSq1 ?_
      simp only [Act.put, List.getElem_toArray, List.getElem_cons_zero, List.getElem_cons_succ, List.setIfInBounds_toArray, List.set_cons_zero, List.set_cons_succ]
      refine wpAnyH_take (i := 11) (v := .pointer (some ⟨g, k * 34 + 1, none⟩)) rfl (by kernel_rfl) (by kernel_rfl) (by kernel_rfl) (fun _ _ _ h => h) (Or.inl ⟨by rfl, fun x hx => by go_simp⟩) hSq1 ?_
      simp only [Act.put, List.getElem_toArray, List.getElem_cons_zero, List.getElem_cons_succ, List.setIfInBounds_toArray, List.set_cons_zero, List.set_cons_succ]
      refine wpAnyH_take (i := 12) (v := .int .i64 s.pl) rfl (by kernel_rfl) (by kernel_rfl) (by kernel_rfl) (fun _ _ _ h => h) (Or.inl ⟨by rfl, fun x hx => by have hc := E2.out x hx.1; go_simp⟩) hSq1 ?_
      simp only [Act.put, List.getElem_toArray, List.getElem_cons_zero, List.getElem_cons_succ, List.setIfInBounds_toArray, List.set_cons_zero, List.set_cons_succ]
      refine wpAnyH_take (i := 15) (v := .slice (some ⟨g, 0, none⟩) n c) rfl (by kernel_rfl) (by kernel_rfl) (by kernel_rfl) (fun _ _ _ h => h) (Or.inl ⟨by rfl, fun x hx => by go_simp⟩) hSq1 ?_
      simp only [Act.put, List.getElem_toArray, List.getElem_cons_zero, List.getElem_cons_succ, List.setIfInBounds_toArray, List.set_cons_zero, List.set_cons_succ]
      refine wpAnyH_take (i := 16) (v := .int .i64 k) rfl (by kernel_rfl) (by kernel_rfl) (by kernel_rfl) (fun _ _ _ h => h) (Or.inl ⟨by rfl, fun x hx => by go_simp⟩) hSq1 ?_
      simp only [Act.put, List.getElem_toArray, List.getElem_cons_zero, List.getElem_cons_succ, List.setIfInBounds_toArray, List.set_cons_zero, List.set_cons_succ]
      refine wpAnyH_take (i := 17) (v := .pointer (some ⟨g, k * 34, none⟩)) rfl (by kernel_rfl) (by kernel_rfl) (by kernel_rfl) (fun _ _ _ h => h) (Or.inl ⟨by rfl, fun x hx => by go_simp⟩) hSq1 ?_
      simp only [Act.put, List.getElem_toArray, List.getElem_cons_zero, List.getElem_cons_succ, List.setIfInBounds_toArray, List.set_cons_zero, List.set_cons_succ]
      refine wpAnyH_take (i := 18) (v := .pointer (some ⟨g, k * 34 + 2, none⟩)) rfl (by kernel_rfl) (by kernel_rfl) (by kernel_rfl) (fun _ _ _ h => h) (Or.inl ⟨by rfl, fun x hx => by go_simp⟩) hSq1 ?_
      simp only [Act.put, List.getElem_toArray, List.getElem_cons_zero, List.getElem_cons_succ, List.setIfInBounds_toArray, List.set_cons_zero, List.set_cons_succ]
      refine wpAnyH_take (i := 19) rfl (by kernel_rfl) (by kernel_rfl) (by kernel_rfl) (fun _ _ _ h => h) (yieldsIf_load_mid (by rfl) 22 (.tmp 32) rfl (g) (k * 34 + 2) (by rfl) (s.h.map bv) _ (fun x hx => E3.out x hx.1) Try.underlying22 rfl (by rw [List.length_map, HS.out]; exact Try.sizeA32)) hSq1 ?_
      simp only [Act.put, List.getElem_toArray, List.getElem_cons_zero, List.getElem_cons_succ, List.setIfInBounds_toArray, List.set_cons_zero, List.set_cons_succ]
      refine wpAnyH_ready (rs := [6]) (by kernel_rfl) (by simp) ?_
      refine AllReadyH.cons rfl (fun K hK => ?_) AllReadyH.nil
      go_simp
      go_wp2_with (go_at_call 97; refine (c1 _).mono ?_; rintro e yq2 ⟨rfl, bq3⟩)
      refine hK.out _ _ ⟨hSq1.1.below bq3, hSq1.2.trans (bq3.mono hSq1.2.size)⟩ (fun hSq4 => ?_)
      clear hK K hSq1 bq3
      refine wpAnyH_take (i := 7) (v := .string (str (bs ++ na))) rfl (by kernel_rfl) (by kernel_rfl) (by kernel_rfl) (fun _ _ _ h => h) (Or.inl ⟨by rfl, fun x hx => by go_simp; omega⟩) hSq4 ?_
      simp only [Act.put, List.getElem_toArray, List.getElem_cons_zero, List.getElem_cons_succ, List.setIfInBounds_toArray, List.set_cons_zero, List.set_cons_succ]
      refine wpAnyH_ready (rs := [13]) (by kernel_rfl) (by simp) ?_
      refine AllReadyH.cons rfl (fun K hK => ?_) AllReadyH.nil
      go_simp
      go_wp2_with (go_at_call 97; refine (c2 _).mono ?_; rintro e yq5 ⟨rfl, bq6⟩)
      refine hK.out _ _ ⟨hSq4.1.below bq6, hSq4.2.trans (bq6.mono hSq4.2.size)⟩ (fun hSq7 => ?_)
      clear hK K hSq4 bq6
      refine wpAnyH_take (i := 14) (v := .string (str (bs ++ na ++ nb))) rfl (by kernel_rfl) (by kernel_rfl) (by kernel_rfl) (fun _ _ _ h => h) (Or.inl ⟨by rfl, fun x hx => by go_simp; omega⟩) hSq7 ?_
      simp only [Act.put, List.getElem_toArray, List.getElem_cons_zero, List.getElem_cons_succ, List.setIfInBounds_toArray, List.set_cons_zero, List.set_cons_succ]
      refine wpAnyH_ready (rs := [20]) (by kernel_rfl) (by simp) ?_
      refine AllReadyH.cons rfl (fun K hK => ?_) AllReadyH.nil
      go_simp
      go_wp2_with (go_at_call 145; refine (RefHash6_calls s.h _ HS.out).mono ?_; rintro e yq8 ⟨rfl, bq9⟩)
      refine hK.out _ _ ⟨hSq7.1.below bq9, hSq7.2.trans (bq9.mono hSq7.2.size)⟩ (fun hSq10 => ?_)
      clear hK K hSq7 bq9
      refine wpAnyH_take (i := 21) (v := .string (str (bs ++ na ++ nb ++ s.h))) rfl (by kernel_rfl) (by kernel_rfl) (by kernel_rfl) (fun _ _ _ h => h) (Or.inl ⟨by rfl, fun x hx => by go_simp; omega⟩) hSq10 ?_
      simp only [Act.put, List.getElem_toArray, List.getElem_cons_zero, List.getElem_cons_succ, List.setIfInBounds_toArray, List.set_cons_zero, List.set_cons_succ]
      refine wpAnyH_ready (rs := [22]) (by kernel_rfl) (by simp) ?_
      refine AllReadyH.cons rfl (fun K hK => ?_) AllReadyH.nil
      go_simp
      refine hK.out _ _ hSq10 (fun hSq11 => ?_)
      clear hK K hSq10
      refine wpAnyH_done (by kernel_rfl) ?_ _
      have hBz := hSq11.2
      go_wp2_with fail
      go_roundw
      case rel => exact ⟨k + 1, _, by omega, rfl, by go_num, by simp only [List.length_append]; omega, Lib.hid (by simpa using hnx.out), hBz⟩
      case measure => simp [intOf]; omega
    · obtain rfl : k = n := by omega
      have hf : Hid (bs = packB l) := by
        show _ = _
        rw [HBS.out, HN.out, List.take_length]; rfl
      clear HBS h2
      go_wp2_with fail
      go_returns
      rw [hf.out]
      exact ⟨rfl, hB.out⟩
end Go.Proofs.Ytnfegmcdljejnaa
